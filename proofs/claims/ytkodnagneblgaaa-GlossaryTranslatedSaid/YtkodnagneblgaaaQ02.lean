/- Walks: the words of a text, by the program and by the reference. -/
import Derived.Test.YtkodnagneblgaaaQ01
import Derived.Lib.ConvBytes
namespace Go.Proofs.Ytkodnagneblgaaa
open Go.RowKit
attribute [local go_sem] Ext.cell Ext.frozen
attribute [local go_sem ↓] Go.wp_at_zero Go.wp_at_succ

/-- the words of a string -/
def wordsB (s : ByteArray) : List ByteArray := (wordsV s.data.toList).map bs
theorem wordsB_len (s : ByteArray) : (wordsB s).length = (wordsV s.data.toList).length := by simp [wordsB]
theorem wordsB_le (s : ByteArray) : (wordsB s).length ≤ s.size + 1 := by
  rw [wordsB_len]
  have := wordsV_len s.data.toList
  rwa [show s.data.toList.length = s.size from ba_len s] at this
theorem wordsB_size (s x : ByteArray) (h : x ∈ wordsB s) : x.size ≤ s.size := by
  obtain ⟨l, hl, rfl⟩ := List.mem_map.1 h
  rw [bs_size]
  have := wordsV_word _ _ hl
  rwa [show s.data.toList.length = s.size from ba_len s] at this
theorem endW_nil : endW [] = [] := rfl
theorem endW_cons {l : List UInt8} (h : l ≠ []) : endW l = [l] := if_neg h
theorem ba_getD (s : ByteArray) (k : Nat) (h : k < s.size) : s[k] = s.data.toList.getD k 0 := by
  rw [List.getD_eq_getElem?_getD, List.getElem?_eq_getElem (by rw [ba_len]; exact h)]; rfl
theorem partC_iff (c : UInt8) : partC c = true ↔ ((65 ≤ c.toNat ∧ c.toNat ≤ 90) ∨ (97 ≤ c.toNat ∧ c.toNat ≤ 122) ∨ (48 ≤ c.toNat ∧ c.toNat ≤ 57) ∨ 128 ≤ c.toNat) := by
  unfold partC; rw [decide_eq_true_eq]
theorem lowC_up {c : UInt8} (h : 65 ≤ c.toNat ∧ c.toNat ≤ 90) : ((lowC c).toNat : Int) = (c.toNat : Int) + 32 := by
  unfold lowC
  rw [if_pos h, UInt8.toNat_ofNat']
  omega
theorem lowC_else {c : UInt8} (h : ¬ (65 ≤ c.toNat ∧ c.toNat ≤ 90)) : lowC c = c := by
  unfold lowC
  rw [if_neg h]

set_option maxRecDepth 20000 in
set_option maxHeartbeats 8000000 in
theorem words_any (s : ByteArray) (w : World) (hs : s.size ≤ 1000000) : Calls Try.prog 18 #[.string s] w fun e w' => ∃ ad c, e = .returned (.slice ad (wordsB s).length c) ∧ w'.ownsRow w.heap.size 9 1 (.slice ad (wordsB s).length c) (wordsB s).length (strs (wordsB s)) ∧ Below w.heap.size w w' := by
  have hsl : s.data.toList.length = s.size := ba_len s
  go_enter Try.func18, Try.ntmps18
  go_wp2_with fail
  go_loopw [3, 4, 5] (fun o v u wr => ∃ (i : Nat) (ol : List (List UInt8)) (cur : List UInt8) (ad ad2 : Option Addr) (c c2 : Nat), u = .int .i64 (i : Int) ∧ o = .slice ad ol.length c ∧ v = .slice ad2 cur.length c2 ∧ i ≤ s.size + 1 ∧ cur.length ≤ i ∧ ol.length ≤ i ∧
      ((i ≤ s.size ∧ ol ++ wordsG (s.data.toList.drop i) cur = wordsV s.data.toList) ∨ (i = s.size + 1 ∧ ol = wordsV s.data.toList)) ∧
      wr.ownsRow w.heap.size 9 1 (.slice ad ol.length c) ol.length (strs (ol.map bs)) ∧ wr.ownsRow w.heap.size 5 1 (.slice ad2 cur.length c2) cur.length (Lib.byteCells cur) ∧ Below w.heap.size w wr) (fun _ _ u _ => s.size + 1 - (intOf u).toNat)
  case atStart => exact ⟨0, [], [], none, none, 0, 0, rfl, rfl, rfl, by omega, by simp, by simp, .inl ⟨by omega, by simp [wordsV]⟩, World.ownsRow_nil _ _ _ _, World.ownsRow_nil _ _ _ _, Below.refl _ _⟩
  case round =>
    obtain ⟨i, ol, cur, ad, ad2, c, c2, rfl, rfl, rfl, hi, hcl, hol, hrel, hown, hownb, hbl⟩ := hrel
    have HREL := Lib.hid hrel
    have HOWN := Lib.hid hown
    have HOWB := Lib.hid hownb
    have HBL := Lib.hid hbl
    have hzr := hbl.size
    clear hrel hown hownb hbl
    by_cases hlt : i < s.size
    · have hr : ol ++ wordsG (s.data.toList.drop i) cur = wordsV s.data.toList := by
        rcases HREL.out with h | h
        · exact h.2
        · omega
      have HR := Lib.hid hr
      have hch := ba_getD s i hlt
      obtain ⟨ch, hce⟩ : ∃ ch, s.data.toList.getD i 0 = ch := ⟨_, rfl⟩
      rw [hce] at hch
      have HCE := Lib.hid hce
      have HCH := Lib.hid hch
      clear hr HREL hch hce
      have hle : (i : Int) ≤ (s.size : Int) := by omega
      cases hp : partC ch with
      | true =>
        have HW2 : Hid (ol ++ wordsG (s.data.toList.drop (i + 1)) (cur ++ [lowC ch]) = wordsV s.data.toList) := by
          rw [Hid, ← HR.out, ← HCE.out]
          exact congrArg (ol ++ ·) (wordsG_part (by omega) cur (by rw [HCE.out]; exact hp)).symm
        rw [partC_iff] at hp
        rcases hp with hp | hp | hp | hp
        · have HLC := Lib.hid (lowC_up hp)
          have hw : IntKind.u8.wrap ((ch.toNat : Int) + 32) = (ch.toNat : Int) + 32 := by rw [IntKind.wrap_u8]; omega
          have pa : ((65 : Int) ≤ (ch.toNat : Int)) := by omega
          have qa : decide ((65 : Int) ≤ (ch.toNat : Int)) = true := by simpa using pa
          have pb : ((ch.toNat : Int) ≤ 90) := by omega
          have qb : decide ((ch.toNat : Int) ≤ 90) = true := by simpa using pb
          have pc : ((97 : Int) ≤ (ch.toNat : Int) + 32) := by omega
          have qc : decide ((97 : Int) ≤ (ch.toNat : Int) + 32) = true := by simpa using pc
          have pd : ((ch.toNat : Int) + 32 ≤ 122) := by omega
          have qd : decide ((ch.toNat : Int) + 32 ≤ 122) = true := by simpa using pd
          clear hp
          have hch := HCH.out
          go_wp2_with (at_builtin; refine appU8 rfl _ _ rfl w.heap.size _ _ _ _ rfl HOWB.out _ _ rfl rfl (by unfold maxLen; omega) (by omega) hzr ?_; intro ad6 c6 w3 hown3 hb3 hg3 hz3; have HOWN3 := Lib.hid hown3; have HB3 := Lib.hid hb3; have HG3 := Lib.hid hg3; clear hown3 hb3 hg3 hz3)
          go_roundw
          case rel => exact ⟨i + 1, ol, cur ++ [lowC ch], ad, ad6, c, c6, by go_num, rfl, by rw [List.length_append]; rfl, by omega, by rw [List.length_append]; simp; omega, by omega, .inl ⟨by omega, HW2.out⟩, own_other HOWN.out HOWB.out (by decide) HG3.out, by rw [byteCells_one1, HLC.out, List.length_append]; exact HOWN3.out, HBL.out.trans HB3.out⟩
          case measure => simp [intOf]; omega
        · have HLC : Hid (((lowC ch).toNat : Int) = (ch.toNat : Int)) := by rw [Hid, lowC_else (by omega)]
          have pa : ((65 : Int) ≤ (ch.toNat : Int)) := by omega
          have qa : decide ((65 : Int) ≤ (ch.toNat : Int)) = true := by simpa using pa
          have pb : ¬ ((ch.toNat : Int) ≤ 90) := by omega
          have qb : decide ((ch.toNat : Int) ≤ 90) = false := by exact decide_eq_false pb
          have pc : ((97 : Int) ≤ (ch.toNat : Int)) := by omega
          have qc : decide ((97 : Int) ≤ (ch.toNat : Int)) = true := by simpa using pc
          have pd : ((ch.toNat : Int) ≤ 122) := by omega
          have qd : decide ((ch.toNat : Int) ≤ 122) = true := by simpa using pd
          clear hp
          have hch := HCH.out
          go_wp2_with (at_builtin; refine appU8 rfl _ _ rfl w.heap.size _ _ _ _ rfl HOWB.out _ _ rfl rfl (by unfold maxLen; omega) (by omega) hzr ?_; intro ad6 c6 w3 hown3 hb3 hg3 hz3; have HOWN3 := Lib.hid hown3; have HB3 := Lib.hid hb3; have HG3 := Lib.hid hg3; clear hown3 hb3 hg3 hz3)
          go_roundw
          case rel => exact ⟨i + 1, ol, cur ++ [lowC ch], ad, ad6, c, c6, by go_num, rfl, by rw [List.length_append]; rfl, by omega, by rw [List.length_append]; simp; omega, by omega, .inl ⟨by omega, HW2.out⟩, own_other HOWN.out HOWB.out (by decide) HG3.out, by rw [byteCells_one1, HLC.out, List.length_append]; exact HOWN3.out, HBL.out.trans HB3.out⟩
          case measure => simp [intOf]; omega
        · have HLC : Hid (((lowC ch).toNat : Int) = (ch.toNat : Int)) := by rw [Hid, lowC_else (by omega)]
          have pa : ¬ ((65 : Int) ≤ (ch.toNat : Int)) := by omega
          have qa : decide ((65 : Int) ≤ (ch.toNat : Int)) = false := by exact decide_eq_false pa
          have pc : ¬ ((97 : Int) ≤ (ch.toNat : Int)) := by omega
          have qc : decide ((97 : Int) ≤ (ch.toNat : Int)) = false := by exact decide_eq_false pc
          have pe : ((48 : Int) ≤ (ch.toNat : Int)) := by omega
          have qe : decide ((48 : Int) ≤ (ch.toNat : Int)) = true := by simpa using pe
          have pf : ((ch.toNat : Int) ≤ 57) := by omega
          have qf : decide ((ch.toNat : Int) ≤ 57) = true := by simpa using pf
          clear hp
          have hch := HCH.out
          go_wp2_with (at_builtin; refine appU8 rfl _ _ rfl w.heap.size _ _ _ _ rfl HOWB.out _ _ rfl rfl (by unfold maxLen; omega) (by omega) hzr ?_; intro ad6 c6 w3 hown3 hb3 hg3 hz3; have HOWN3 := Lib.hid hown3; have HB3 := Lib.hid hb3; have HG3 := Lib.hid hg3; clear hown3 hb3 hg3 hz3)
          go_roundw
          case rel => exact ⟨i + 1, ol, cur ++ [lowC ch], ad, ad6, c, c6, by go_num, rfl, by rw [List.length_append]; rfl, by omega, by rw [List.length_append]; simp; omega, by omega, .inl ⟨by omega, HW2.out⟩, own_other HOWN.out HOWB.out (by decide) HG3.out, by rw [byteCells_one1, HLC.out, List.length_append]; exact HOWN3.out, HBL.out.trans HB3.out⟩
          case measure => simp [intOf]; omega
        · have HLC : Hid (((lowC ch).toNat : Int) = (ch.toNat : Int)) := by rw [Hid, lowC_else (by omega)]
          have pa : ((65 : Int) ≤ (ch.toNat : Int)) := by omega
          have qa : decide ((65 : Int) ≤ (ch.toNat : Int)) = true := by simpa using pa
          have pb : ¬ ((ch.toNat : Int) ≤ 90) := by omega
          have qb : decide ((ch.toNat : Int) ≤ 90) = false := by exact decide_eq_false pb
          have pc : ((97 : Int) ≤ (ch.toNat : Int)) := by omega
          have qc : decide ((97 : Int) ≤ (ch.toNat : Int)) = true := by simpa using pc
          have pd : ¬ ((ch.toNat : Int) ≤ 122) := by omega
          have qd : decide ((ch.toNat : Int) ≤ 122) = false := by exact decide_eq_false pd
          have pe : ((48 : Int) ≤ (ch.toNat : Int)) := by omega
          have qe : decide ((48 : Int) ≤ (ch.toNat : Int)) = true := by simpa using pe
          have pf : ¬ ((ch.toNat : Int) ≤ 57) := by omega
          have qf : decide ((ch.toNat : Int) ≤ 57) = false := by exact decide_eq_false pf
          have pg : ((127 : Int) < (ch.toNat : Int)) := by omega
          have qg : decide ((127 : Int) < (ch.toNat : Int)) = true := by simpa using pg
          clear hp
          have hch := HCH.out
          go_wp2_with (at_builtin; refine appU8 rfl _ _ rfl w.heap.size _ _ _ _ rfl HOWB.out _ _ rfl rfl (by unfold maxLen; omega) (by omega) hzr ?_; intro ad6 c6 w3 hown3 hb3 hg3 hz3; have HOWN3 := Lib.hid hown3; have HB3 := Lib.hid hb3; have HG3 := Lib.hid hg3; clear hown3 hb3 hg3 hz3)
          go_roundw
          case rel => exact ⟨i + 1, ol, cur ++ [lowC ch], ad, ad6, c, c6, by go_num, rfl, by rw [List.length_append]; rfl, by omega, by rw [List.length_append]; simp; omega, by omega, .inl ⟨by omega, HW2.out⟩, own_other HOWN.out HOWB.out (by decide) HG3.out, by rw [byteCells_one1, HLC.out, List.length_append]; exact HOWN3.out, HBL.out.trans HB3.out⟩
          case measure => simp [intOf]; omega
      | false =>
        have HW2 : Hid (ol ++ (endW cur ++ wordsG (s.data.toList.drop (i + 1)) []) = wordsV s.data.toList) := by
          rw [Hid, ← HR.out]
          exact congrArg (ol ++ ·) (wordsG_gap (by omega) cur (by rw [HCE.out]; exact hp)).symm
        have hnp : ¬ ((65 ≤ ch.toNat ∧ ch.toNat ≤ 90) ∨ (97 ≤ ch.toNat ∧ ch.toNat ≤ 122) ∨ (48 ≤ ch.toNat ∧ ch.toNat ≤ 57) ∨ 128 ≤ ch.toNat) := fun h => by rw [(partC_iff ch).2 h] at hp; cases hp
        have hp : ch.toNat < 48 ∨ (58 ≤ ch.toNat ∧ ch.toNat ≤ 64) ∨ (91 ≤ ch.toNat ∧ ch.toNat ≤ 96) ∨ (123 ≤ ch.toNat ∧ ch.toNat ≤ 127) := by omega
        clear hnp
        rcases hp with hp | hp | hp | hp
        · have pa : ¬ ((65 : Int) ≤ (ch.toNat : Int)) := by omega
          have qa : decide ((65 : Int) ≤ (ch.toNat : Int)) = false := by exact decide_eq_false pa
          have pc : ¬ ((97 : Int) ≤ (ch.toNat : Int)) := by omega
          have qc : decide ((97 : Int) ≤ (ch.toNat : Int)) = false := by exact decide_eq_false pc
          have pe : ¬ ((48 : Int) ≤ (ch.toNat : Int)) := by omega
          have qe : decide ((48 : Int) ≤ (ch.toNat : Int)) = false := by exact decide_eq_false pe
          have pg : ¬ ((127 : Int) < (ch.toNat : Int)) := by omega
          have qg : decide ((127 : Int) < (ch.toNat : Int)) = false := by exact decide_eq_false pg
          clear hp
          have hch := HCH.out
          rcases Decidable.em (cur = []) with hcur | hcur
          · subst hcur
            have HW3 : Hid (ol ++ wordsG (s.data.toList.drop (i + 1)) [] = wordsV s.data.toList) := HW2.out
            clear HW2
            go_wp2_with fail
            go_roundw
            case rel => exact ⟨i + 1, ol, [], ad, ad2, c, c2, by go_num, rfl, rfl, by omega, by simp, by omega, .inl ⟨by omega, HW3.out⟩, HOWN.out, HOWB.out, HBL.out⟩
            case measure => simp [intOf]; omega
          · have hl0 : (0 : Int) < (cur.length : Int) := by have := List.length_pos_iff.2 hcur; omega
            have HW3 : Hid ((ol ++ [cur]) ++ wordsG (s.data.toList.drop (i + 1)) [] = wordsV s.data.toList) := by
              have := HW2.out
              rw [endW_cons hcur] at this
              rw [Hid, List.append_assoc]
              exact this
            have hcv := conv_own HOWB.out
            have HAPP : Hid (strs ((ol ++ [cur]).map bs) = strs (ol.map bs) ++ [.string (bs cur)]) := by unfold Hid; rw [List.map_append]; exact strs_snoc _ _
            clear HW2 hcur
            generalize hq : bs cur = sb at hcv HAPP
            clear hq
            go_wp2_with (at_builtin; refine appStr rfl _ _ rfl w.heap.size _ _ _ _ rfl HOWN.out _ _ rfl rfl (by unfold maxLen; omega) (by omega) hzr ?_; intro ad6 c6 w3 hown3 hb3 hg3 hz3; have HOWN3 := Lib.hid hown3; have HB3 := Lib.hid hb3; have HG3 := Lib.hid hg3; clear hown3 hb3 hg3 hz3)
            go_roundw
            case rel => exact ⟨i + 1, ol ++ [cur], [], ad6, none, c6, 0, by go_num, by rw [List.length_append]; rfl, rfl, by omega, by simp, by rw [List.length_append]; simp; omega, .inl ⟨by omega, HW3.out⟩, by rw [HAPP.out, List.length_append]; exact HOWN3.out, World.ownsRow_nil _ _ _ _, HBL.out.trans HB3.out⟩
            case measure => simp [intOf]; omega
        · have pa : ¬ ((65 : Int) ≤ (ch.toNat : Int)) := by omega
          have qa : decide ((65 : Int) ≤ (ch.toNat : Int)) = false := by exact decide_eq_false pa
          have pc : ¬ ((97 : Int) ≤ (ch.toNat : Int)) := by omega
          have qc : decide ((97 : Int) ≤ (ch.toNat : Int)) = false := by exact decide_eq_false pc
          have pe : ((48 : Int) ≤ (ch.toNat : Int)) := by omega
          have qe : decide ((48 : Int) ≤ (ch.toNat : Int)) = true := by simpa using pe
          have pf : ¬ ((ch.toNat : Int) ≤ 57) := by omega
          have qf : decide ((ch.toNat : Int) ≤ 57) = false := by exact decide_eq_false pf
          have pg : ¬ ((127 : Int) < (ch.toNat : Int)) := by omega
          have qg : decide ((127 : Int) < (ch.toNat : Int)) = false := by exact decide_eq_false pg
          clear hp
          have hch := HCH.out
          rcases Decidable.em (cur = []) with hcur | hcur
          · subst hcur
            have HW3 : Hid (ol ++ wordsG (s.data.toList.drop (i + 1)) [] = wordsV s.data.toList) := HW2.out
            clear HW2
            go_wp2_with fail
            go_roundw
            case rel => exact ⟨i + 1, ol, [], ad, ad2, c, c2, by go_num, rfl, rfl, by omega, by simp, by omega, .inl ⟨by omega, HW3.out⟩, HOWN.out, HOWB.out, HBL.out⟩
            case measure => simp [intOf]; omega
          · have hl0 : (0 : Int) < (cur.length : Int) := by have := List.length_pos_iff.2 hcur; omega
            have HW3 : Hid ((ol ++ [cur]) ++ wordsG (s.data.toList.drop (i + 1)) [] = wordsV s.data.toList) := by
              have := HW2.out
              rw [endW_cons hcur] at this
              rw [Hid, List.append_assoc]
              exact this
            have hcv := conv_own HOWB.out
            have HAPP : Hid (strs ((ol ++ [cur]).map bs) = strs (ol.map bs) ++ [.string (bs cur)]) := by unfold Hid; rw [List.map_append]; exact strs_snoc _ _
            clear HW2 hcur
            generalize hq : bs cur = sb at hcv HAPP
            clear hq
            go_wp2_with (at_builtin; refine appStr rfl _ _ rfl w.heap.size _ _ _ _ rfl HOWN.out _ _ rfl rfl (by unfold maxLen; omega) (by omega) hzr ?_; intro ad6 c6 w3 hown3 hb3 hg3 hz3; have HOWN3 := Lib.hid hown3; have HB3 := Lib.hid hb3; have HG3 := Lib.hid hg3; clear hown3 hb3 hg3 hz3)
            go_roundw
            case rel => exact ⟨i + 1, ol ++ [cur], [], ad6, none, c6, 0, by go_num, by rw [List.length_append]; rfl, rfl, by omega, by simp, by rw [List.length_append]; simp; omega, .inl ⟨by omega, HW3.out⟩, by rw [HAPP.out, List.length_append]; exact HOWN3.out, World.ownsRow_nil _ _ _ _, HBL.out.trans HB3.out⟩
            case measure => simp [intOf]; omega
        · have pa : ((65 : Int) ≤ (ch.toNat : Int)) := by omega
          have qa : decide ((65 : Int) ≤ (ch.toNat : Int)) = true := by simpa using pa
          have pb : ¬ ((ch.toNat : Int) ≤ 90) := by omega
          have qb : decide ((ch.toNat : Int) ≤ 90) = false := by exact decide_eq_false pb
          have pc : ¬ ((97 : Int) ≤ (ch.toNat : Int)) := by omega
          have qc : decide ((97 : Int) ≤ (ch.toNat : Int)) = false := by exact decide_eq_false pc
          have pe : ((48 : Int) ≤ (ch.toNat : Int)) := by omega
          have qe : decide ((48 : Int) ≤ (ch.toNat : Int)) = true := by simpa using pe
          have pf : ¬ ((ch.toNat : Int) ≤ 57) := by omega
          have qf : decide ((ch.toNat : Int) ≤ 57) = false := by exact decide_eq_false pf
          have pg : ¬ ((127 : Int) < (ch.toNat : Int)) := by omega
          have qg : decide ((127 : Int) < (ch.toNat : Int)) = false := by exact decide_eq_false pg
          clear hp
          have hch := HCH.out
          rcases Decidable.em (cur = []) with hcur | hcur
          · subst hcur
            have HW3 : Hid (ol ++ wordsG (s.data.toList.drop (i + 1)) [] = wordsV s.data.toList) := HW2.out
            clear HW2
            go_wp2_with fail
            go_roundw
            case rel => exact ⟨i + 1, ol, [], ad, ad2, c, c2, by go_num, rfl, rfl, by omega, by simp, by omega, .inl ⟨by omega, HW3.out⟩, HOWN.out, HOWB.out, HBL.out⟩
            case measure => simp [intOf]; omega
          · have hl0 : (0 : Int) < (cur.length : Int) := by have := List.length_pos_iff.2 hcur; omega
            have HW3 : Hid ((ol ++ [cur]) ++ wordsG (s.data.toList.drop (i + 1)) [] = wordsV s.data.toList) := by
              have := HW2.out
              rw [endW_cons hcur] at this
              rw [Hid, List.append_assoc]
              exact this
            have hcv := conv_own HOWB.out
            have HAPP : Hid (strs ((ol ++ [cur]).map bs) = strs (ol.map bs) ++ [.string (bs cur)]) := by unfold Hid; rw [List.map_append]; exact strs_snoc _ _
            clear HW2 hcur
            generalize hq : bs cur = sb at hcv HAPP
            clear hq
            go_wp2_with (at_builtin; refine appStr rfl _ _ rfl w.heap.size _ _ _ _ rfl HOWN.out _ _ rfl rfl (by unfold maxLen; omega) (by omega) hzr ?_; intro ad6 c6 w3 hown3 hb3 hg3 hz3; have HOWN3 := Lib.hid hown3; have HB3 := Lib.hid hb3; have HG3 := Lib.hid hg3; clear hown3 hb3 hg3 hz3)
            go_roundw
            case rel => exact ⟨i + 1, ol ++ [cur], [], ad6, none, c6, 0, by go_num, by rw [List.length_append]; rfl, rfl, by omega, by simp, by rw [List.length_append]; simp; omega, .inl ⟨by omega, HW3.out⟩, by rw [HAPP.out, List.length_append]; exact HOWN3.out, World.ownsRow_nil _ _ _ _, HBL.out.trans HB3.out⟩
            case measure => simp [intOf]; omega
        · have pa : ((65 : Int) ≤ (ch.toNat : Int)) := by omega
          have qa : decide ((65 : Int) ≤ (ch.toNat : Int)) = true := by simpa using pa
          have pb : ¬ ((ch.toNat : Int) ≤ 90) := by omega
          have qb : decide ((ch.toNat : Int) ≤ 90) = false := by exact decide_eq_false pb
          have pc : ((97 : Int) ≤ (ch.toNat : Int)) := by omega
          have qc : decide ((97 : Int) ≤ (ch.toNat : Int)) = true := by simpa using pc
          have pd : ¬ ((ch.toNat : Int) ≤ 122) := by omega
          have qd : decide ((ch.toNat : Int) ≤ 122) = false := by exact decide_eq_false pd
          have pe : ((48 : Int) ≤ (ch.toNat : Int)) := by omega
          have qe : decide ((48 : Int) ≤ (ch.toNat : Int)) = true := by simpa using pe
          have pf : ¬ ((ch.toNat : Int) ≤ 57) := by omega
          have qf : decide ((ch.toNat : Int) ≤ 57) = false := by exact decide_eq_false pf
          have pg : ¬ ((127 : Int) < (ch.toNat : Int)) := by omega
          have qg : decide ((127 : Int) < (ch.toNat : Int)) = false := by exact decide_eq_false pg
          clear hp
          have hch := HCH.out
          rcases Decidable.em (cur = []) with hcur | hcur
          · subst hcur
            have HW3 : Hid (ol ++ wordsG (s.data.toList.drop (i + 1)) [] = wordsV s.data.toList) := HW2.out
            clear HW2
            go_wp2_with fail
            go_roundw
            case rel => exact ⟨i + 1, ol, [], ad, ad2, c, c2, by go_num, rfl, rfl, by omega, by simp, by omega, .inl ⟨by omega, HW3.out⟩, HOWN.out, HOWB.out, HBL.out⟩
            case measure => simp [intOf]; omega
          · have hl0 : (0 : Int) < (cur.length : Int) := by have := List.length_pos_iff.2 hcur; omega
            have HW3 : Hid ((ol ++ [cur]) ++ wordsG (s.data.toList.drop (i + 1)) [] = wordsV s.data.toList) := by
              have := HW2.out
              rw [endW_cons hcur] at this
              rw [Hid, List.append_assoc]
              exact this
            have hcv := conv_own HOWB.out
            have HAPP : Hid (strs ((ol ++ [cur]).map bs) = strs (ol.map bs) ++ [.string (bs cur)]) := by unfold Hid; rw [List.map_append]; exact strs_snoc _ _
            clear HW2 hcur
            generalize hq : bs cur = sb at hcv HAPP
            clear hq
            go_wp2_with (at_builtin; refine appStr rfl _ _ rfl w.heap.size _ _ _ _ rfl HOWN.out _ _ rfl rfl (by unfold maxLen; omega) (by omega) hzr ?_; intro ad6 c6 w3 hown3 hb3 hg3 hz3; have HOWN3 := Lib.hid hown3; have HB3 := Lib.hid hb3; have HG3 := Lib.hid hg3; clear hown3 hb3 hg3 hz3)
            go_roundw
            case rel => exact ⟨i + 1, ol ++ [cur], [], ad6, none, c6, 0, by go_num, by rw [List.length_append]; rfl, rfl, by omega, by simp, by rw [List.length_append]; simp; omega, .inl ⟨by omega, HW3.out⟩, by rw [HAPP.out, List.length_append]; exact HOWN3.out, World.ownsRow_nil _ _ _ _, HBL.out.trans HB3.out⟩
            case measure => simp [intOf]; omega
    · by_cases hie : i = s.size
      · subst hie
        have hr : ol ++ endW cur = wordsV s.data.toList := by
          rcases HREL.out with h | h
          · rw [← h.2, List.drop_of_length_le (by omega)]; rfl
          · omega
        rcases Decidable.em (cur = []) with hcur | hcur
        · subst hcur
          have HV : Hid (ol = wordsV s.data.toList) := by rw [Hid, ← hr, endW_nil, List.append_nil]
          clear hr HREL
          go_wp2_with fail
          go_roundw
          case rel => exact ⟨s.size + 1, ol, [], ad, ad2, c, c2, by go_num, rfl, rfl, by omega, by simp, by omega, .inr ⟨rfl, HV.out⟩, HOWN.out, HOWB.out, HBL.out⟩
          case measure => simp [intOf]
        · have hl0 : (0 : Int) < (cur.length : Int) := by have := List.length_pos_iff.2 hcur; omega
          have HV : Hid (ol ++ [cur] = wordsV s.data.toList) := by rw [Hid, ← hr, endW_cons hcur]
          have hcv := conv_own HOWB.out
          have HAPP : Hid (strs ((ol ++ [cur]).map bs) = strs (ol.map bs) ++ [.string (bs cur)]) := by unfold Hid; rw [List.map_append]; exact strs_snoc _ _
          clear hr HREL hcur
          generalize hq : bs cur = sb at hcv HAPP
          clear hq
          go_wp2_with (at_builtin; refine appStr rfl _ _ rfl w.heap.size _ _ _ _ rfl HOWN.out _ _ rfl rfl (by unfold maxLen; omega) (by omega) hzr ?_; intro ad6 c6 w3 hown3 hb3 hg3 hz3; have HOWN3 := Lib.hid hown3; have HB3 := Lib.hid hb3; have HG3 := Lib.hid hg3; clear hown3 hb3 hg3 hz3)
          go_roundw
          case rel => exact ⟨s.size + 1, ol ++ [cur], [], ad6, none, c6, 0, by go_num, by rw [List.length_append]; rfl, rfl, by omega, by simp, by rw [List.length_append]; simp; omega, .inr ⟨rfl, HV.out⟩, by rw [HAPP.out, List.length_append]; exact HOWN3.out, World.ownsRow_nil _ _ _ _, HBL.out.trans HB3.out⟩
          case measure => simp [intOf]
      · have HV : Hid (ol = wordsV s.data.toList) := by
          rcases HREL.out with h | h
          · omega
          · exact h.2
        obtain rfl : i = s.size + 1 := by omega
        have hgt : ¬ (((s.size + 1 : Nat) : Int) ≤ (s.size : Int)) := by omega
        have hgt2 : ¬ ((s.size : Int) + 1 ≤ (s.size : Int)) := by omega
        clear HREL
        go_wp2_with fail
        go_ret
        have e1 : ol.map bs = wordsB s := by rw [HV.out]; rfl
        have e2 : ol.length = (wordsB s).length := by rw [← e1, List.length_map]
        exact ⟨ad, c, by rw [e2]; rfl, by rw [← e1, List.length_map]; exact HOWN.out, HBL.out⟩
end Go.Proofs.Ytkodnagneblgaaa
/- Walks: the words of a text, by the reference. -/
namespace Go.Proofs.Ytkodnagneblgaaa
open Go.RowKit
attribute [local go_sem] Ext.cell Ext.frozen
attribute [local go_sem ↓] Go.wp_at_zero Go.wp_at_succ
theorem rpart_any (c : UInt8) (w : World) : Calls Try.prog 34 #[.int .u8 (c.toNat : Int)] w fun e w' => e = .returned (.bool (partC c)) ∧ w = w' := by
  cases hq : partC c with
  | true =>
    have hp := (partC_iff c).1 hq
    clear hq
    rcases hp with hp | hp | hp | hp
    · have pa : ((65 : Int) ≤ (c.toNat : Int)) := by omega
      have qa : decide ((65 : Int) ≤ (c.toNat : Int)) = true := by simpa using pa
      have pb : ((c.toNat : Int) ≤ 90) := by omega
      have qb : decide ((c.toNat : Int) ≤ 90) = true := by simpa using pb
      clear hp
      go_enter Try.func34, Try.ntmps34
      go_wp2_with fail
      go_ret
      exact ⟨rfl, rfl⟩
    · have pa : ((65 : Int) ≤ (c.toNat : Int)) := by omega
      have qa : decide ((65 : Int) ≤ (c.toNat : Int)) = true := by simpa using pa
      have pb : ¬ ((c.toNat : Int) ≤ 90) := by omega
      have qb : decide ((c.toNat : Int) ≤ 90) = false := by exact decide_eq_false pb
      have pc : ((97 : Int) ≤ (c.toNat : Int)) := by omega
      have qc : decide ((97 : Int) ≤ (c.toNat : Int)) = true := by simpa using pc
      have pd : ((c.toNat : Int) ≤ 122) := by omega
      have qd : decide ((c.toNat : Int) ≤ 122) = true := by simpa using pd
      clear hp
      go_enter Try.func34, Try.ntmps34
      go_wp2_with fail
      go_ret
      exact ⟨rfl, rfl⟩
    · have pa : ¬ ((65 : Int) ≤ (c.toNat : Int)) := by omega
      have qa : decide ((65 : Int) ≤ (c.toNat : Int)) = false := by exact decide_eq_false pa
      have pc : ¬ ((97 : Int) ≤ (c.toNat : Int)) := by omega
      have qc : decide ((97 : Int) ≤ (c.toNat : Int)) = false := by exact decide_eq_false pc
      have pe : ((48 : Int) ≤ (c.toNat : Int)) := by omega
      have qe : decide ((48 : Int) ≤ (c.toNat : Int)) = true := by simpa using pe
      have pf : ((c.toNat : Int) ≤ 57) := by omega
      have qf : decide ((c.toNat : Int) ≤ 57) = true := by simpa using pf
      clear hp
      go_enter Try.func34, Try.ntmps34
      go_wp2_with fail
      go_ret
      exact ⟨rfl, rfl⟩
    · have pa : ((65 : Int) ≤ (c.toNat : Int)) := by omega
      have qa : decide ((65 : Int) ≤ (c.toNat : Int)) = true := by simpa using pa
      have pb : ¬ ((c.toNat : Int) ≤ 90) := by omega
      have qb : decide ((c.toNat : Int) ≤ 90) = false := by exact decide_eq_false pb
      have pc : ((97 : Int) ≤ (c.toNat : Int)) := by omega
      have qc : decide ((97 : Int) ≤ (c.toNat : Int)) = true := by simpa using pc
      have pd : ¬ ((c.toNat : Int) ≤ 122) := by omega
      have qd : decide ((c.toNat : Int) ≤ 122) = false := by exact decide_eq_false pd
      have pe : ((48 : Int) ≤ (c.toNat : Int)) := by omega
      have qe : decide ((48 : Int) ≤ (c.toNat : Int)) = true := by simpa using pe
      have pf : ¬ ((c.toNat : Int) ≤ 57) := by omega
      have qf : decide ((c.toNat : Int) ≤ 57) = false := by exact decide_eq_false pf
      have pg : ((127 : Int) < (c.toNat : Int)) := by omega
      have qg : decide ((127 : Int) < (c.toNat : Int)) = true := by simpa using pg
      clear hp
      go_enter Try.func34, Try.ntmps34
      go_wp2_with fail
      go_ret
      exact ⟨rfl, rfl⟩
  | false =>
    have hnp : ¬ ((65 ≤ c.toNat ∧ c.toNat ≤ 90) ∨ (97 ≤ c.toNat ∧ c.toNat ≤ 122) ∨ (48 ≤ c.toNat ∧ c.toNat ≤ 57) ∨ 128 ≤ c.toNat) := fun h => by rw [(partC_iff c).2 h] at hq; cases hq
    have hp : c.toNat < 48 ∨ (58 ≤ c.toNat ∧ c.toNat ≤ 64) ∨ (91 ≤ c.toNat ∧ c.toNat ≤ 96) ∨ (123 ≤ c.toNat ∧ c.toNat ≤ 127) := by omega
    clear hnp hq
    rcases hp with hp | hp | hp | hp
    · have pa : ¬ ((65 : Int) ≤ (c.toNat : Int)) := by omega
      have qa : decide ((65 : Int) ≤ (c.toNat : Int)) = false := by exact decide_eq_false pa
      have pc : ¬ ((97 : Int) ≤ (c.toNat : Int)) := by omega
      have qc : decide ((97 : Int) ≤ (c.toNat : Int)) = false := by exact decide_eq_false pc
      have pe : ¬ ((48 : Int) ≤ (c.toNat : Int)) := by omega
      have qe : decide ((48 : Int) ≤ (c.toNat : Int)) = false := by exact decide_eq_false pe
      have pg : ¬ ((127 : Int) < (c.toNat : Int)) := by omega
      have qg : decide ((127 : Int) < (c.toNat : Int)) = false := by exact decide_eq_false pg
      clear hp
      go_enter Try.func34, Try.ntmps34
      go_wp2_with fail
      go_ret
      exact ⟨rfl, rfl⟩
    · have pa : ¬ ((65 : Int) ≤ (c.toNat : Int)) := by omega
      have qa : decide ((65 : Int) ≤ (c.toNat : Int)) = false := by exact decide_eq_false pa
      have pc : ¬ ((97 : Int) ≤ (c.toNat : Int)) := by omega
      have qc : decide ((97 : Int) ≤ (c.toNat : Int)) = false := by exact decide_eq_false pc
      have pe : ((48 : Int) ≤ (c.toNat : Int)) := by omega
      have qe : decide ((48 : Int) ≤ (c.toNat : Int)) = true := by simpa using pe
      have pf : ¬ ((c.toNat : Int) ≤ 57) := by omega
      have qf : decide ((c.toNat : Int) ≤ 57) = false := by exact decide_eq_false pf
      have pg : ¬ ((127 : Int) < (c.toNat : Int)) := by omega
      have qg : decide ((127 : Int) < (c.toNat : Int)) = false := by exact decide_eq_false pg
      clear hp
      go_enter Try.func34, Try.ntmps34
      go_wp2_with fail
      go_ret
      exact ⟨rfl, rfl⟩
    · have pa : ((65 : Int) ≤ (c.toNat : Int)) := by omega
      have qa : decide ((65 : Int) ≤ (c.toNat : Int)) = true := by simpa using pa
      have pb : ¬ ((c.toNat : Int) ≤ 90) := by omega
      have qb : decide ((c.toNat : Int) ≤ 90) = false := by exact decide_eq_false pb
      have pc : ¬ ((97 : Int) ≤ (c.toNat : Int)) := by omega
      have qc : decide ((97 : Int) ≤ (c.toNat : Int)) = false := by exact decide_eq_false pc
      have pe : ((48 : Int) ≤ (c.toNat : Int)) := by omega
      have qe : decide ((48 : Int) ≤ (c.toNat : Int)) = true := by simpa using pe
      have pf : ¬ ((c.toNat : Int) ≤ 57) := by omega
      have qf : decide ((c.toNat : Int) ≤ 57) = false := by exact decide_eq_false pf
      have pg : ¬ ((127 : Int) < (c.toNat : Int)) := by omega
      have qg : decide ((127 : Int) < (c.toNat : Int)) = false := by exact decide_eq_false pg
      clear hp
      go_enter Try.func34, Try.ntmps34
      go_wp2_with fail
      go_ret
      exact ⟨rfl, rfl⟩
    · have pa : ((65 : Int) ≤ (c.toNat : Int)) := by omega
      have qa : decide ((65 : Int) ≤ (c.toNat : Int)) = true := by simpa using pa
      have pb : ¬ ((c.toNat : Int) ≤ 90) := by omega
      have qb : decide ((c.toNat : Int) ≤ 90) = false := by exact decide_eq_false pb
      have pc : ((97 : Int) ≤ (c.toNat : Int)) := by omega
      have qc : decide ((97 : Int) ≤ (c.toNat : Int)) = true := by simpa using pc
      have pd : ¬ ((c.toNat : Int) ≤ 122) := by omega
      have qd : decide ((c.toNat : Int) ≤ 122) = false := by exact decide_eq_false pd
      have pe : ((48 : Int) ≤ (c.toNat : Int)) := by omega
      have qe : decide ((48 : Int) ≤ (c.toNat : Int)) = true := by simpa using pe
      have pf : ¬ ((c.toNat : Int) ≤ 57) := by omega
      have qf : decide ((c.toNat : Int) ≤ 57) = false := by exact decide_eq_false pf
      have pg : ¬ ((127 : Int) < (c.toNat : Int)) := by omega
      have qg : decide ((127 : Int) < (c.toNat : Int)) = false := by exact decide_eq_false pg
      clear hp
      go_enter Try.func34, Try.ntmps34
      go_wp2_with fail
      go_ret
      exact ⟨rfl, rfl⟩
theorem rlower_any (c : UInt8) (w : World) : Calls Try.prog 35 #[.int .u8 (c.toNat : Int)] w fun e w' => e = .returned (.int .u8 ((lowC c).toNat : Int)) ∧ w = w' := by
  by_cases hp : 65 ≤ c.toNat ∧ c.toNat ≤ 90
  · have hl := lowC_up hp
    have hw1 : IntKind.u8.wrap ((c.toNat : Int) - 65) = (c.toNat : Int) - 65 := by rw [IntKind.wrap_u8]; omega
    have hw2 : IntKind.u8.wrap ((c.toNat : Int) - 65 + 97) = (c.toNat : Int) + 32 := by rw [IntKind.wrap_u8]; omega
    have pa : ((65 : Int) ≤ (c.toNat : Int)) := by omega
    have qa : decide ((65 : Int) ≤ (c.toNat : Int)) = true := by simpa using pa
    have pb : ((c.toNat : Int) ≤ 90) := by omega
    have qb : decide ((c.toNat : Int) ≤ 90) = true := by simpa using pb
    clear hp
    go_enter Try.func35, Try.ntmps35
    go_wp2_with fail
    go_ret
    exact ⟨by rw [hl]; rfl, rfl⟩
  · rw [lowC_else hp]
    have hq : c.toNat < 65 ∨ (65 ≤ c.toNat ∧ 90 < c.toNat) := by omega
    rcases hq with hq | hq
    · have pa : ¬ (65 : Int) ≤ (c.toNat : Int) := by omega
      have qa : decide ((65 : Int) ≤ (c.toNat : Int)) = false := decide_eq_false pa
      clear hp hq
      go_enter Try.func35, Try.ntmps35
      go_wp2_with fail
      go_ret
      exact ⟨rfl, rfl⟩
    · have pa : (65 : Int) ≤ (c.toNat : Int) := by omega
      have pb : ¬ (c.toNat : Int) ≤ 90 := by omega
      have qa : decide ((65 : Int) ≤ (c.toNat : Int)) = true := by simpa using pa
      clear hp hq
      go_enter Try.func35, Try.ntmps35
      go_wp2_with fail
      go_ret
      exact ⟨rfl, rfl⟩
theorem conv_new (z : Int) (c : UInt8) (hz : z = (c.toNat : Int)) (W : World) :
    (convert 67 9 (.slice (some ⟨W.heap.size, 0, none⟩) 1 1)).run Try.prog (W.alloc (.cells #[.int .u8 z] 5)) = .ok (.string (bs [c])) (W.alloc (.cells #[.int .u8 z] 5)) := by
  refine run_convert_bytes_back _ 67 9 5 ⟨W.heap.size, 0, none⟩ 1 [c] Try.underlying67 Try.underlying5 Try.underlying9 ?_
  intro j hj
  obtain rfl : j = 0 := by simp at hj; exact hj
  subst hz
  simp [go_sem, Addr.add]
theorem bs_ne_nil {l : List UInt8} (h : l ≠ []) : bs l ≠ bs [] := fun e => h (bs_inj e)
set_option maxRecDepth 20000 in
set_option maxHeartbeats 8000000 in
theorem rwords_any (s : ByteArray) (w : World) (hs : s.size ≤ 1000000) : Calls Try.prog 20 #[.string s] w fun e w' => ∃ ad c, e = .returned (.slice ad (wordsB s).length c) ∧ w'.ownsRow w.heap.size 9 1 (.slice ad (wordsB s).length c) (wordsB s).length (strs (wordsB s)) ∧ Below w.heap.size w w' := by
  have hsl : s.data.toList.length = s.size := ba_len s
  have HP := Lib.hid rpart_any
  have HLW := Lib.hid rlower_any
  go_enter Try.func20, Try.ntmps20
  go_wp2_with fail
  go_loopw [3, 4, 5] (fun o v u wr => ∃ (i : Nat) (ol : List (List UInt8)) (cur : List UInt8) (ad : Option Addr) (c : Nat), u = .int .i64 (i : Int) ∧ o = .slice ad ol.length c ∧ v = .string (bs cur) ∧ i ≤ s.size + 1 ∧ cur.length ≤ i ∧ ol.length ≤ i ∧
      ((i ≤ s.size ∧ ol ++ wordsG (s.data.toList.drop i) cur = wordsV s.data.toList) ∨ (i = s.size + 1 ∧ ol = wordsV s.data.toList)) ∧
      wr.ownsRow w.heap.size 9 1 (.slice ad ol.length c) ol.length (strs (ol.map bs)) ∧ Below w.heap.size w wr) (fun _ _ u _ => s.size + 1 - (intOf u).toNat)
  case atStart => exact ⟨0, [], [], none, 0, rfl, rfl, rfl, by omega, by simp, by simp, .inl ⟨by omega, by simp [wordsV]⟩, World.ownsRow_nil _ _ _ _, Below.refl _ _⟩
  case round =>
    obtain ⟨i, ol, cur, ad, c, rfl, rfl, rfl, hi, hcl, hol, hrel, hown, hbl⟩ := hrel
    have HREL := Lib.hid hrel
    have HOWN := Lib.hid hown
    have HBL := Lib.hid hbl
    have hzr := hbl.size
    clear hrel hown hbl
    have hbz : (bs cur).size ≤ i := by rw [bs_size]; exact hcl
    by_cases hlt : i < s.size
    · have hr : ol ++ wordsG (s.data.toList.drop i) cur = wordsV s.data.toList := by
        rcases HREL.out with h | h
        · exact h.2
        · omega
      have HR := Lib.hid hr
      have hch := ba_getD s i hlt
      obtain ⟨ch, hce⟩ : ∃ ch, s.data.toList.getD i 0 = ch := ⟨_, rfl⟩
      rw [hce] at hch
      have HCE := Lib.hid hce
      clear hr HREL hce
      have hle : (i : Int) ≤ (s.size : Int) := by omega
      have hlz : (i : Int) < (s.size : Int) := by omega
      have HPC := Lib.hid (HP.out ch)
      cases hp : partC ch with
      | true =>
        have HW2 : Hid (ol ++ wordsG (s.data.toList.drop (i + 1)) (cur ++ [lowC ch]) = wordsV s.data.toList) := by
          rw [Hid, ← HR.out, ← HCE.out]
          exact congrArg (ol ++ ·) (wordsG_part (by omega) cur (by rw [HCE.out]; exact hp)).symm
        rw [hp] at HPC
        clear hp HR HCE
        have HLC := Lib.hid (HLW.out ch)
        have kc := conv_new ((lowC ch).toNat : Int) (lowC ch) rfl
        have ka := fun W => run_string_add_sum (P := Try.prog) (w := W) (bs cur) (bs [lowC ch]) (by rw [bs_size [lowC ch]]; simp; omega)
        have HBA : Hid (bs cur ++ bs [lowC ch] = bs (cur ++ [lowC ch])) := bs_append _ _
        have hl1 : (cur ++ [lowC ch]).length = cur.length + 1 := by simp
        generalize cur ++ [lowC ch] = cur2 at *
        generalize lowC ch = lc at *
        generalize bs cur = sb at *
        generalize bs [lc] = sl at *
        go_wp2_with fail
        refine (HPC.out _).mono ?_
        rintro e _ ⟨rfl, rfl⟩
        go_wp2_with fail
        refine (HLC.out _).mono ?_
        rintro e _ ⟨rfl, rfl⟩
        go_wp2_with fail
        go_roundw
        case rel => exact ⟨i + 1, ol, cur2, ad, c, by go_num, rfl, by rw [← HBA.out], by omega, by omega, by omega, .inl ⟨by omega, HW2.out⟩, Own.below HOWN.out ((Below.refl _ _).alloc (Nat.le_refl _) _), HBL.out.alloc (by omega) _⟩
        case measure => simp [intOf]; omega
      | false =>
        have HW2 : Hid (ol ++ (endW cur ++ wordsG (s.data.toList.drop (i + 1)) []) = wordsV s.data.toList) := by
          rw [Hid, ← HR.out]
          exact congrArg (ol ++ ·) (wordsG_gap (by omega) cur (by rw [HCE.out]; exact hp)).symm
        rw [hp] at HPC
        clear hp HR HCE
        rcases Decidable.em (cur = []) with hcur | hcur
        · subst hcur
          have HW3 : Hid (ol ++ wordsG (s.data.toList.drop (i + 1)) [] = wordsV s.data.toList) := HW2.out
          clear HW2
          have hnc : (bs []).toList.isEmpty = true := by rw [bs_toList]; rfl
          go_wp2_with fail
          refine (HPC.out _).mono ?_
          rintro e _ ⟨rfl, rfl⟩
          go_wp2_with fail
          go_roundw
          case rel => exact ⟨i + 1, ol, [], ad, c, by go_num, rfl, rfl, by omega, by simp, by omega, .inl ⟨by omega, HW3.out⟩, HOWN.out, HBL.out⟩
          case measure => simp [intOf]; omega
        · have HW3 : Hid ((ol ++ [cur]) ++ wordsG (s.data.toList.drop (i + 1)) [] = wordsV s.data.toList) := by
            have := HW2.out
            rw [endW_cons hcur] at this
            rw [Hid, List.append_assoc]
            exact this
          have HAPP : Hid (strs ((ol ++ [cur]).map bs) = strs (ol.map bs) ++ [.string (bs cur)]) := by unfold Hid; rw [List.map_append]; exact strs_snoc _ _
          have hnb : ((bs cur).toList == ([] : List UInt8)) = false := by rw [bs_toList, beq_eq_false_iff_ne]; exact hcur
          have hne : ((bs cur).toList != ([] : List UInt8)) = true := by rw [bne, hnb]; rfl
          have hnc : (bs cur).toList.isEmpty = false := by rw [bs_toList, List.isEmpty_eq_false_iff]; exact hcur
          clear HW2 hcur
          generalize bs cur = sb at *
          go_wp2_with fail
          refine (HPC.out _).mono ?_
          rintro e _ ⟨rfl, rfl⟩
          go_wp2_with (at_builtin; refine appStr rfl _ _ rfl w.heap.size _ _ _ _ rfl HOWN.out _ _ rfl rfl (by unfold maxLen; omega) (by omega) hzr ?_; intro ad6 c6 w3 hown3 hb3 hg3 hz3; have HOWN3 := Lib.hid hown3; have HB3 := Lib.hid hb3; have HG3 := Lib.hid hg3; clear hown3 hb3 hg3 hz3)
          go_roundw
          case rel => exact ⟨i + 1, ol ++ [cur], [], ad6, c6, by go_num, by rw [List.length_append]; rfl, rfl, by omega, by simp, by rw [List.length_append]; simp; omega, .inl ⟨by omega, HW3.out⟩, by rw [HAPP.out, List.length_append]; exact HOWN3.out, HBL.out.trans HB3.out⟩
          case measure => simp [intOf]; omega
    · by_cases hie : i = s.size
      · subst hie
        have hr : ol ++ endW cur = wordsV s.data.toList := by
          rcases HREL.out with h | h
          · rw [← h.2, List.drop_of_length_le (by omega)]; rfl
          · omega
        rcases Decidable.em (cur = []) with hcur | hcur
        · subst hcur
          have HV : Hid (ol = wordsV s.data.toList) := by rw [Hid, ← hr, endW_nil, List.append_nil]
          clear hr HREL
          have hnc : (bs []).toList.isEmpty = true := by rw [bs_toList]; rfl
          go_wp2_with fail
          go_roundw
          case rel => exact ⟨s.size + 1, ol, [], ad, c, by go_num, rfl, rfl, by omega, by simp, by omega, .inr ⟨rfl, HV.out⟩, HOWN.out, HBL.out⟩
          case measure => simp [intOf]
        · have HV : Hid (ol ++ [cur] = wordsV s.data.toList) := by rw [Hid, ← hr, endW_cons hcur]
          have HAPP : Hid (strs ((ol ++ [cur]).map bs) = strs (ol.map bs) ++ [.string (bs cur)]) := by unfold Hid; rw [List.map_append]; exact strs_snoc _ _
          have hnb : ((bs cur).toList == ([] : List UInt8)) = false := by rw [bs_toList, beq_eq_false_iff_ne]; exact hcur
          have hne : ((bs cur).toList != ([] : List UInt8)) = true := by rw [bne, hnb]; rfl
          have hnc : (bs cur).toList.isEmpty = false := by rw [bs_toList, List.isEmpty_eq_false_iff]; exact hcur
          clear hr HREL hcur
          generalize bs cur = sb at *
          go_wp2_with (at_builtin; refine appStr rfl _ _ rfl w.heap.size _ _ _ _ rfl HOWN.out _ _ rfl rfl (by unfold maxLen; omega) (by omega) hzr ?_; intro ad6 c6 w3 hown3 hb3 hg3 hz3; have HOWN3 := Lib.hid hown3; have HB3 := Lib.hid hb3; have HG3 := Lib.hid hg3; clear hown3 hb3 hg3 hz3)
          go_roundw
          case rel => exact ⟨s.size + 1, ol ++ [cur], [], ad6, c6, by go_num, by rw [List.length_append]; rfl, rfl, by omega, by simp, by rw [List.length_append]; simp; omega, .inr ⟨rfl, HV.out⟩, by rw [HAPP.out, List.length_append]; exact HOWN3.out, HBL.out.trans HB3.out⟩
          case measure => simp [intOf]
      · have HV : Hid (ol = wordsV s.data.toList) := by
          rcases HREL.out with h | h
          · omega
          · exact h.2
        obtain rfl : i = s.size + 1 := by omega
        have hgt : ¬ (((s.size + 1 : Nat) : Int) ≤ (s.size : Int)) := by omega
        have hgt2 : ¬ ((s.size : Int) + 1 ≤ (s.size : Int)) := by omega
        clear HREL
        go_wp2_with fail
        go_ret
        have e1 : ol.map bs = wordsB s := by rw [HV.out]; rfl
        have e2 : ol.length = (wordsB s).length := by rw [← e1, List.length_map]
        exact ⟨ad, c, by rw [e2]; rfl, by rw [← e1, List.length_map]; exact HOWN.out, HBL.out⟩
end Go.Proofs.Ytkodnagneblgaaa
