/- Texts laid together: G5B H1 H2 H3. -/
import Derived.Test.YtkodnagneblgaaaG5
import Derived.DeepKeys
import Derived.Test.YtkodnagneblgaaaC3
import Derived.Test.YtkodnagneblgaaaGA0
import Derived.Test.YtkodnagneblgaaaGP
namespace Go.Proofs.Ytkodnagneblgaaa
open Go.RowKit Go.Maps Go.Sort
abbrev W6 (x : Int) : Prop := (Lit.int IntKind.i64 x).wf = true
theorem wf_nat {a : Nat} (h : a ≤ 9000000000) : W6 (a : Int) := WalkArith.wf_i64 (by omega)
theorem eq_two {t : TypeId} (hk : Try.prog.keyTypeAt 2 t = true) (hf : ∀ x y : Int, (Value.agg #[.int .i64 x, .int .i64 y]).formed Try.prog t = true) (hl : ∀ x y : Int, W6 x → W6 y → Try.prog.keyLits 2 t [.int .i64 x, .int .i64 y] = some [.int .i64 x, .int .i64 y]) (x y x' y' : Int) (w : World)
    (h1 : W6 x) (h2 : W6 y) (h3 : W6 x') (h4 : W6 y') :
    (Op.equalIn 10000 t (.agg #[.int .i64 x, .int .i64 y]) (.agg #[.int .i64 x', .int .i64 y'])).run Try.prog w = .ok (decide (x = x' ∧ y = y')) w := by
  obtain ⟨r, h1, h2⟩ := run_equalIn_deep 9998 2 t hk w 2 2 (.agg #[.int .i64 x, .int .i64 y]) (.agg #[.int .i64 x', .int .i64 y']) _ _ (hf x y) (hf x' y') (hl x y h1 h2) (hl x' y' h3 h4)
  have : r = decide (x = x' ∧ y = y') := by
    rw [Bool.eq_iff_iff, h2]
    simp
  rw [← this]
  exact h1
theorem cellsIntG : Try.prog.cellsOf 3 = 1 := by kernel_rfl
theorem cellsFnR : Try.prog.cellsOf 63 = 2 := by kernel_rfl
theorem range2 : List.range 2 = [0, 1] := rfl
theorem eq_pair (x y x' y' : Int) (w : World) (h1 : W6 x) (h2 : W6 y) (h3 : W6 x') (h4 : W6 y') : (Op.equalIn 10000 45 (.agg #[.int .i64 x, .int .i64 y]) (.agg #[.int .i64 x', .int .i64 y'])).run Try.prog w = .ok (decide (x = x' ∧ y = y')) w :=
  eq_two (by kernel_rfl) (fun x y => by simp [Value.formed, Try.underlying45, cellsPair]) (fun x y h1 h2 => by unfold W6 at h1 h2; simp [Program.keyLits, Try.underlying45, Try.underlying3, cellsPair, cellsIntG, range2, h1, h2]) x y x' y' w h1 h2 h3 h4
theorem eq_fn (x y x' y' : Int) (w : World) (h1 : W6 x) (h2 : W6 y) (h3 : W6 x') (h4 : W6 y') : (Op.equalIn 10000 63 (.agg #[.int .i64 x, .int .i64 y]) (.agg #[.int .i64 x', .int .i64 y'])).run Try.prog w = .ok (decide (x = x' ∧ y = y')) w :=
  eq_two (by kernel_rfl) (fun x y => by simp [Value.formed, Try.underlying63, cellsFnR]) (fun x y h1 h2 => by unfold W6 at h1 h2; simp [Program.keyLits, Try.underlying63, Try.underlying3, cellsFnR, cellsIntG, h1, h2]) x y x' y' w h1 h2 h3 h4
end Go.Proofs.Ytkodnagneblgaaa
namespace Go.Proofs.Ytkodnagneblgaaa
open Go.RowKit
attribute [local go_sem] Ext.cell Ext.frozen
attribute [local go_sem ↓] Go.wp_at_zero Go.wp_at_succ
/-- a byte in upper case -/
def upC (c : UInt8) : UInt8 := if 97 ≤ c ∧ c ≤ 122 then c - 32 else c
def upG (s : List UInt8) : List UInt8 := s.flatMap fun c => if upC c = 32 then [upC c, 44, 32] else [upC c]
def upV (s : List UInt8) : List UInt8 := [45, 32] ++ upG s ++ [33]
theorem up_part (c : UInt8) : partC (upC c) = partC c := by
  have k : ∀ n : Fin 256, partC (upC (UInt8.ofNat n.val)) = partC (UInt8.ofNat n.val) := by decide +kernel
  have := k ⟨c.toNat, c.toNat_lt⟩
  simpa only [UInt8.ofNat_toNat] using this
theorem up_low (c : UInt8) : lowC (upC c) = lowC c := by
  have k : ∀ n : Fin 256, lowC (upC (UInt8.ofNat n.val)) = lowC (UInt8.ofNat n.val) := by decide +kernel
  have := k ⟨c.toNat, c.toNat_lt⟩
  simpa only [UInt8.ofNat_toNat] using this
theorem up_words : ∀ (s cur : List UInt8), wordsG (upG s ++ [33]) cur = wordsG s cur
  | [], cur => by
    show wordsG [33] cur = endW cur
    rw [wordsG, if_neg (by decide)]
    show endW cur ++ endW [] = endW cur
    simp [endW]
  | c :: r, cur => by
    have hg : upG (c :: r) = (if upC c = 32 then [upC c, 44, 32] else [upC c]) ++ upG r := rfl
    rw [hg]
    by_cases h32 : upC c = 32
    · have hp : partC c = false := by rw [← up_part, h32]; decide
      rw [if_pos h32, h32]
      show wordsG (32 :: 44 :: 32 :: (upG r ++ [33])) cur = _
      rw [wordsG, if_neg (by decide), wordsG, if_neg (by decide), wordsG, if_neg (by decide), up_words r []]
      conv => rhs; rw [wordsG, if_neg (by rw [hp]; decide)]
      simp [endW]
    · rw [if_neg h32]
      show wordsG (upC c :: (upG r ++ [33])) cur = _
      cases hp : partC c with
      | true =>
        rw [wordsG, if_pos (by rw [up_part]; exact hp), up_low, up_words r _]
        conv => rhs; rw [wordsG, if_pos hp]
      | false =>
        rw [wordsG, if_neg (by rw [up_part, hp]; decide), up_words r _]
        conv => rhs; rw [wordsG, if_neg (by rw [hp]; decide)]
theorem upV_words (s : List UInt8) : wordsV (upV s) = wordsV s := by
  show wordsG (45 :: 32 :: (upG s ++ [33])) [] = wordsG s []
  rw [wordsG, if_neg (by decide), wordsG, if_neg (by decide), up_words s []]
  simp [endW]
def upB (s : ByteArray) : ByteArray := bs (upV s.data.toList)
theorem upB_words (s : ByteArray) : wordsB (upB s) = wordsB s := by
  unfold wordsB upB
  rw [bs_data, upV_words]
theorem upG_len : ∀ s : List UInt8, (upG s).length ≤ 3 * s.length
  | [] => Nat.le_refl _
  | c :: r => by
    have := upG_len r
    have hg : upG (c :: r) = (if upC c = 32 then [upC c, 44, 32] else [upC c]) ++ upG r := rfl
    rw [hg, List.length_append, List.length_cons]
    split <;> simp <;> omega
theorem upB_size (s : ByteArray) : (upB s).size ≤ 3 * s.size + 3 := by
  unfold upB upV
  rw [bs_size]
  have := upG_len s.data.toList
  have hsl : s.data.toList.length = s.size := ba_len s
  simp
  omega
theorem upG_take (s : List UInt8) (i : Nat) (hi : i < s.length) : upG (s.take (i + 1)) = upG (s.take i) ++ (if upC (s.getD i 0) = 32 then [upC (s.getD i 0), 44, 32] else [upC (s.getD i 0)]) := by
  have hg : s.getD i 0 = s[i] := by rw [List.getD_eq_getElem?_getD, List.getElem?_eq_getElem hi]; rfl
  rw [List.take_add_one, List.getElem?_eq_getElem hi, hg, Option.toList_some]
  unfold upG
  simp only [List.flatMap_append, List.flatMap_cons, List.flatMap_nil, List.append_nil]
set_option maxRecDepth 100000 in
set_option maxHeartbeats 4000000 in
theorem upper_any (s : ByteArray) (w : World) (hs : s.size ≤ 1000000) : Calls Try.prog 17 #[.string s] w fun e w' => e = .returned (.string (upB s)) ∧ Below w.heap.size w w' := by
  have hsl : s.data.toList.length = s.size := ba_len s
  go_enter Try.func17, Try.ntmps17
  go_wp2_with fail
  go_loopw [3, 4] (fun v u wr => ∃ (i : Nat) (sv : ByteArray), u = .int .i64 (i : Int) ∧ v = .string sv ∧ sv = bs ([45, 32] ++ upG (s.data.toList.take i)) ∧ i ≤ s.size ∧ Below w.heap.size w wr) (fun _ u _ => s.size - (intOf u).toNat)
  case atStart => exact ⟨0, _, rfl, rfl, rfl, Nat.zero_le _, Below.refl _ _⟩
  case round =>
    obtain ⟨i, sv, rfl, rfl, hsv, hi, hbl⟩ := hrel
    have HSV := Lib.hid hsv
    have HB := Lib.hid hbl
    have hzr := hbl.size
    clear hsv hbl
    have hvz : sv.size ≤ 3 * i + 2 := by
      rw [HSV.out, bs_size]
      have h1 := upG_len (s.data.toList.take i)
      have h2 : (s.data.toList.take i).length ≤ i := by rw [List.length_take]; omega
      simp only [List.length_append, List.length_cons, List.length_nil]
      omega
    by_cases hlt : i < s.size
    · have hch := ba_getD s i hlt
      have HUT := Lib.hid (upG_take s.data.toList i (by omega))
      obtain ⟨ch, hce⟩ : ∃ ch, s.data.toList.getD i 0 = ch := ⟨_, rfl⟩
      rw [hce] at hch HUT
      have hle : (i : Int) ≤ (s.size : Int) := by omega
      have hlz : (i : Int) < (s.size : Int) := by omega
      clear hce
      have hc256 := ch.toNat_lt
      obtain ⟨z, hz⟩ : ∃ z, ch.toNat = z := ⟨_, rfl⟩
      by_cases h1 : 97 ≤ z
      · have h1z : (97 : Int) ≤ (z : Int) := by omega
        have h1d : decide ((97 : Int) ≤ (z : Int)) = true := decide_eq_true h1z
        by_cases h2 : z ≤ 122
        · have h2z : (z : Int) ≤ (122 : Int) := by omega
          have h2d : decide ((z : Int) ≤ (122 : Int)) = true := decide_eq_true h2z
          have hu : upC ch = ch - 32 := by unfold upC; rw [if_pos ⟨by rw [UInt8.le_iff_toNat_le, hz]; exact h1, by rw [UInt8.le_iff_toNat_le, hz]; exact h2⟩]
          have hun : (upC ch).toNat = z - 32 := by rw [hu, UInt8.toNat_sub_of_le _ _ (by rw [UInt8.le_iff_toNat_le, hz]; exact Nat.le_trans (by decide) h1), hz]; rfl
          have HD : Hid ((z : Int) - 32 = ((upC ch).toNat : Int)) := by rw [Hid, hun]; omega
          have HN32 : Hid (¬ upC ch = 32) := fun e => by rw [e] at hun; have : (32 : UInt8).toNat = 32 := rfl; omega
          have hne : ¬ (z : Int) - 32 = 32 := by omega
          clear hu hun
          have kc := conv_new ((z : Int) - 32) (upC ch) (by rw [HD.out])
          have ka := fun W => run_string_add_sum (P := Try.prog) (w := W) sv (bs [upC ch]) (by rw [bs_size [upC ch]]; simp; omega)
          have HE : Hid (sv ++ bs [upC ch] = bs ([45, 32] ++ upG (s.data.toList.take (i + 1)))) := by
            rw [Hid, HUT.out, if_neg HN32.out, HSV.out, bs_append, List.append_assoc]
          generalize bs [upC ch] = sl at *
          go_wp2_with fail
          go_roundw
          case rel => exact ⟨i + 1, _, by go_num, rfl, HE.out, by omega, HB.out.alloc hzr _⟩
          case measure => simp [intOf]; omega
        · have h2z : ¬ (z : Int) ≤ (122 : Int) := by omega
          have h2d : decide ((z : Int) ≤ (122 : Int)) = false := decide_eq_false h2z
          have hu : upC ch = ch := by unfold upC; rw [if_neg (fun h => h2 (by have := h.2; rw [UInt8.le_iff_toNat_le, hz] at this; exact this))]
          have HD : Hid ((z : Int) = ((upC ch).toNat : Int)) := by rw [Hid, hu, hz]
          have HN32 : Hid (¬ upC ch = 32) := fun e => by rw [hu] at e; rw [e] at hz; have : (32 : UInt8).toNat = 32 := rfl; omega
          have hne : ¬ (z : Int) = 32 := by omega
          clear hu
          have kc := conv_new (z : Int) (upC ch) (by rw [HD.out])
          have ka := fun W => run_string_add_sum (P := Try.prog) (w := W) sv (bs [upC ch]) (by rw [bs_size [upC ch]]; simp; omega)
          have HE : Hid (sv ++ bs [upC ch] = bs ([45, 32] ++ upG (s.data.toList.take (i + 1)))) := by
            rw [Hid, HUT.out, if_neg HN32.out, HSV.out, bs_append, List.append_assoc]
          generalize bs [upC ch] = sl at *
          go_wp2_with fail
          go_roundw
          case rel => exact ⟨i + 1, _, by go_num, rfl, HE.out, by omega, HB.out.alloc hzr _⟩
          case measure => simp [intOf]; omega
      · have h1z : ¬ (97 : Int) ≤ (z : Int) := by omega
        have h1d : decide ((97 : Int) ≤ (z : Int)) = false := decide_eq_false h1z
        have hu : upC ch = ch := by unfold upC; rw [if_neg (fun h => h1 (by have := h.1; rw [UInt8.le_iff_toNat_le, hz] at this; exact this))]
        have HD : Hid ((z : Int) = ((upC ch).toNat : Int)) := by rw [Hid, hu, hz]
        by_cases h3 : z = 32
        · have HN32 : Hid (upC ch = 32) := by rw [Hid, hu]; exact UInt8.toNat_inj.1 (hz.trans h3)
          have hne : (z : Int) = 32 := by omega
          have hnd : decide ((z : Int) = 32) = true := decide_eq_true hne
          clear hu
          have kc := conv_new (z : Int) (upC ch) (by rw [HD.out])
          have ka := fun W => run_string_add_sum (P := Try.prog) (w := W) sv (bs [upC ch]) (by rw [bs_size [upC ch]]; simp; omega)
          have HE : Hid (sv ++ bs [upC ch] ++ (⟨#[44, 32]⟩ : ByteArray) = bs ([45, 32] ++ upG (s.data.toList.take (i + 1)))) := by
            rw [Hid, show (⟨#[44, 32]⟩ : ByteArray) = bs [44, 32] from rfl, HUT.out, if_pos HN32.out, HSV.out, bs_append, bs_append, List.append_assoc, List.append_assoc]
            rfl
          have hsz2 : (sv ++ bs [upC ch]).size ≤ 3 * i + 3 := by rw [ByteArray.size_append, bs_size]; simp; omega
          generalize bs [upC ch] = sl at *
          have kb := fun W => run_string_add_sum (P := Try.prog) (w := W) (sv ++ sl) (⟨#[44, 32]⟩ : ByteArray) (by have e2 : (⟨#[44, 32]⟩ : ByteArray).size = 2 := rfl; rw [e2]; omega)
          have hnb : ((z : Int) == 32) = true := by simpa using hne
          clear hne h3
          go_wp2_with fail
          go_roundw
          case rel => exact ⟨i + 1, _, by go_num, rfl, HE.out, by omega, HB.out.alloc hzr _⟩
          case measure => simp [intOf]; omega
        · have HN32 : Hid (¬ upC ch = 32) := fun e => by rw [hu] at e; rw [e] at hz; have : (32 : UInt8).toNat = 32 := rfl; omega
          have hne : ¬ (z : Int) = 32 := by omega
          clear hu
          have kc := conv_new (z : Int) (upC ch) (by rw [HD.out])
          have ka := fun W => run_string_add_sum (P := Try.prog) (w := W) sv (bs [upC ch]) (by rw [bs_size [upC ch]]; simp; omega)
          have HE : Hid (sv ++ bs [upC ch] = bs ([45, 32] ++ upG (s.data.toList.take (i + 1)))) := by
            rw [Hid, HUT.out, if_neg HN32.out, HSV.out, bs_append, List.append_assoc]
          generalize bs [upC ch] = sl at *
          go_wp2_with fail
          go_roundw
          case rel => exact ⟨i + 1, _, by go_num, rfl, HE.out, by omega, HB.out.alloc hzr _⟩
          case measure => simp [intOf]; omega
    · obtain rfl : i = s.size := by omega
      have HV : Hid (sv ++ bs [33] = upB s) := by
        rw [Hid, HSV.out, bs_append, List.take_of_length_le (by omega)]
        rfl
      have ka := fun W => run_string_add_sum (P := Try.prog) (w := W) sv (bs [33]) (by rw [bs_size [33]]; simp; omega)
      go_wp2_with fail
      go_ret
      exact ⟨by rw [← HV.out]; rfl, HB.out⟩
end Go.Proofs.Ytkodnagneblgaaa
namespace Go.Proofs.Ytkodnagneblgaaa
open Go.RowKit Go.Maps Go.Sort
attribute [local go_sem] Ext.cell Ext.frozen
attribute [local go_sem ↓] Go.wp_at_zero Go.wp_at_succ
set_option maxHeartbeats 2000000 in
theorem from_any (fs : List (Nat × Nat)) (ad : Option Addr) (n c : Nat) (w : World) (ht : PrAt w ad n fs) (hn : n ≤ 1000) :
    Calls Try.prog 14 #[.slice ad n c] w fun e w' => ∃ ad' c', e = .returned (.slice ad' n c') ∧ FnR 63 w' w.heap.size (.slice ad' n c') fs ∧ Below w.heap.size w w' := by
  obtain ⟨hl, b, off, hrw⟩ := ht
  have HR := Lib.hid hrw
  have HL := Lib.hid hl
  clear hrw hl
  go_enter Try.func14, Try.ntmps14
  go_wp2_with fail
  go_loopw [3, 8] (fun v u wr => ∃ (i : Nat) (ad' : Option Addr) (c' : Nat), u = .int .i64 (i : Int) ∧ v = .slice ad' i c' ∧ i ≤ n ∧ FnR 63 wr w.heap.size (.slice ad' i c') (fs.take i) ∧ Below w.heap.size w wr) (fun _ u _ => n - (intOf u).toNat)
  case atStart => exact ⟨0, none, 0, rfl, rfl, Nat.zero_le _, World.ownsRow_nil _ _ _ _, Below.refl _ _⟩
  case round =>
    obtain ⟨i, ad', c', rfl, rfl, hin, htr, hbl⟩ := hrel
    have HT := Lib.hid htr
    have HB := Lib.hid hbl
    have hzr := hbl.size
    clear htr hbl
    by_cases hlt : i < n
    · have hr := HR.out.below HB.out
      have hix := fun W => hr.ix 25 51 Try.underlying25 cellsFnP (by omega) hlt c W
      have h0 := hr.cell i 0 hlt (by omega)
      have h1 := hr.cell i 1 hlt (by omega)
      rw [Nat.add_zero] at h0
      simp only [prC] at h0 h1
      have HTK : Hid (fs.take (i + 1) = fs.take i ++ [fs.getD i (0, 0)]) := take_snoc fs i (0, 0) (by rw [HL.out]; exact hlt)
      have HTL : Hid ((fs.take i).length = i) := by rw [Hid, List.length_take, HL.out]; omega
      have hlz : (i : Int) < (n : Int) := by omega
      clear hr
      generalize fs.getD i (0, 0) = x at *
      obtain ⟨a, b⟩ := x
      simp only at h0 h1
      go_upto_region 5 with (fail)
      have hbk : Below wr.heap.size wr (wr.alloc (.cells #[.int .i64 (a : Int), .int .i64 (b : Int)] 51)) := Bel.alloc (Bel.refl wr) _
      have HT2 := Lib.hid (HT.out.below hbk)
      have HB2 := Lib.hid (HB.out.trans (hbk.mono hzr))
      have HX : Hid ((wr.alloc (.cells #[.int .i64 (a : Int), .int .i64 (b : Int)] 51)).heap[wr.heap.size]? = some (.cells #[.int .i64 (a : Int), .int .i64 (b : Int)] 51 (0, 0))) := heap_alloc_new wr _
      generalize wr.alloc (.cells #[.int .i64 (a : Int), .int .i64 (b : Int)] 51) = w2 at *
      have x0 := row_cells HX.out 0
      have x1 := row_cells HX.out 1
      clear hbk
      go_wp2_with (at_builtin; refine appFindR rfl _ _ rfl w.heap.size _ _ _ (fs.take i) HTL.out rfl HT2.out a b _ rfl (by omega) HB2.out.size ?_; intro ad7 c7 w7 htr7 hb7; have HT7 := Lib.hid htr7; have HB7 := Lib.hid hb7; clear htr7 hb7)
      go_roundw
      case rel => exact ⟨i + 1, ad7, c7, by go_num, rfl, by omega, by rw [HTK.out]; exact HT7.out, HB2.out.trans HB7.out⟩
      case measure => simp [intOf]; omega
    · obtain rfl : i = n := by omega
      go_wp2_with fail
      go_ret
      have := HT.out
      rw [List.take_of_length_le (by rw [HL.out]; exact Nat.le_refl _)] at this
      exact ⟨ad', c', rfl, this, HB.out⟩
set_option maxHeartbeats 2000000 in
theorem same_eq (fs : List (Nat × Nat)) (hf : ∀ p ∈ fs, p.1 ≤ 1000 ∧ p.2 ≤ 1000) (ad : Option Addr) (n c : Nat) (ad' : Option Addr) (c' : Nat) (w : World) (hp : PrAt w ad n fs) (hq : PrAt w ad' n fs) (hn : n ≤ 1000) :
    Calls Try.prog 13 #[.slice ad n c, .slice ad' n c'] w fun e w' => e = .returned (.bool true) ∧ Below w.heap.size w w' := by
  have HP := Lib.hid hp
  have HQ := Lib.hid hq
  have HL := Lib.hid hp.1
  have HF := Lib.hid hf
  clear hp hq hf
  go_enter Try.func13, Try.ntmps13
  go_wp2_with fail
  go_loopw [5] (fun u wr => ∃ i : Nat, u = .int .i64 (i : Int) ∧ i ≤ n ∧ Below w.heap.size w wr) (fun u _ => n - (intOf u).toNat)
  case atStart => exact ⟨0, rfl, Nat.zero_le _, Below.refl _ _⟩
  case round =>
    obtain ⟨i, rfl, hin, hbl⟩ := hrel
    have HB := Lib.hid hbl
    clear hbl
    by_cases hlt : i < n
    · obtain ⟨_, pb, po, hrp⟩ := HP.out.below HB.out
      obtain ⟨_, qb, qo, hrq⟩ := HQ.out.below HB.out
      have hixp := fun W => hrp.ix 31 63 Try.underlying31 cellsFnR (by omega) hlt c W
      have hixq := fun W => hrq.ix 31 63 Try.underlying31 cellsFnR (by omega) hlt c' W
      have p0 := hrp.cell i 0 hlt (by omega)
      have p1 := hrp.cell i 1 hlt (by omega)
      have q0 := hrq.cell i 0 hlt (by omega)
      have q1 := hrq.cell i 1 hlt (by omega)
      rw [Nat.add_zero] at p0 q0
      simp only [prC] at p0 p1 q0 q1
      have hpb : pb < wr.heap.size := World.block_lt_of_cell? wr _ p0
      have hqb : qb < wr.heap.size := World.block_lt_of_cell? wr _ q0
      obtain ⟨f1, f2⟩ := HF.out (fs.getD i (0, 0)) (getD_mem _ _ _ (by rw [HL.out]; exact hlt))
      have hlz : (i : Int) < (n : Int) := by omega
      clear hrp hrq
      generalize fs.getD i (0, 0) = x at *
      obtain ⟨a, b⟩ := x
      simp only at p0 p1 q0 q1 f1 f2
      have heq : ∀ W, (Op.equalIn 10000 63 (.agg #[.int .i64 (a : Int), .int .i64 (b : Int)]) (.agg #[.int .i64 (a : Int), .int .i64 (b : Int)])).run Try.prog W = .ok true W := fun W => by simpa using eq_fn (a : Int) (b : Int) (a : Int) (b : Int) W (wf_nat (by omega)) (wf_nat (by omega)) (wf_nat (by omega)) (wf_nat (by omega))
      go_wp2_with fail
      refine wp_region_ext (by kernel_rfl) (by kernel_rfl) ?_
      repeat (go_big_quiet_step (fail))
      refine wpQuiet_nil ?_
      intro _ hw'
      obtain ⟨X9, hw''⟩ := hw'
      subst hw''
      go_wp2_with fail
      go_roundw
      case rel => exact ⟨i + 1, by go_num, by omega, HB.out.trans (X9.2.mono HB.out.size)⟩
      case measure => simp [intOf]; omega
    · obtain rfl : i = n := by omega
      go_wp2_with fail
      go_ret
      exact ⟨rfl, HB.out⟩
end Go.Proofs.Ytkodnagneblgaaa
namespace Go.Proofs.Ytkodnagneblgaaa
open Go.RowKit Go.Maps Go.Sort
attribute [local go_sem] Ext.cell Ext.frozen
attribute [local go_sem ↓] Go.wp_at_zero Go.wp_at_succ
theorem pf_up (ts : List Tm) (s t : ByteArray) : pfindings ts (upB s) (upB t) = pfindings ts s t := by
  unfold pfindings cntS cntT
  rw [upB_words, upB_words]
theorem err_up (ts : List Tm) (s t : ByteArray) (hs : s.size ≤ 300) (ht : t.size ≤ 300) : errV ts (upB s) (upB t) = errV ts s t := by
  have h1 := upB_size s
  have h2 := upB_size t
  unfold errV
  rw [if_neg (show ¬ (20000 < (upB s).size ∨ 20000 < (upB t).size) by omega), if_neg (show ¬ (20000 < s.size ∨ 20000 < t.size) by omega)]
theorem res_up (ts : List Tm) (s t : ByteArray) (hs : s.size ≤ 300) (ht : t.size ≤ 300) : resV ts (upB s) (upB t) (pfindings ts (upB s) (upB t)) = resV ts s t (pfindings ts s t) := by
  have h1 := upB_size s
  have h2 := upB_size t
  rw [pf_up]
  unfold resV
  rw [if_neg (show ¬ (20000 < (upB s).size ∨ 20000 < (upB t).size) by omega), if_neg (show ¬ (20000 < s.size ∨ 20000 < t.size) by omega)]
theorem res_mem (ts : List Tm) (s t : ByteArray) (h : ts.length ≤ 30) : ∀ p ∈ resV ts s t (pfindings ts s t), p.1 ≤ 1000 ∧ p.2 ≤ 1000 := fun p hp => by
  have hp : p ∈ pfindings ts s t := by
    unfold resV at hp
    split at hp
    · split at hp
      · cases hp
      · exact hp
    · cases hp
  obtain ⟨h1, ⟨h2, _⟩ | ⟨h2, _⟩⟩ := mem_chkF hp <;> omega
theorem res_len (ts : List Tm) (s t : ByteArray) (h : ts.length ≤ 30) : (resV ts s t (pfindings ts s t)).length ≤ 60 := by
  have hl : (pfindings ts s t).length ≤ 60 := by
    have := chkF_len (missV ts (cntS ts s) (cntT ts t)) (wrongV ts (cntS ts s) (cntT ts t)) ts.length
    unfold pfindings
    omega
  unfold resV
  split
  · split
    · simp
    · exact hl
  · simp
set_option maxRecDepth 100000 in
set_option maxHeartbeats 8000000 in
theorem glossaryCase_walk (ad : Option Addr) (n c : Nat) (ts : List Tm) (source target : ByteArray) (w : World) (ht : TmAt w ad n ts) (hn : n ≤ 9223372036854775807) (hs : source.size ≤ 9223372036854775807) (htg : target.size ≤ 9223372036854775807) :
    Calls Try.prog 4 #[.slice ad n c, .string source, .string target] w fun e w' => e = .returned (.bool true) ∧ Below w.heap.size w w' := by
  have HT := Lib.hid ht
  have HL := Lib.hid ht.1
  have HAW := Lib.hid awake_any
  have HF := Lib.hid (fun W (h : TmAt W ad n ts) => few_any ts ad n c W h hn)
  have HFI := Lib.hid (@fewT_iff ts)
  clear ht
  generalize fewT ts = fw at *
  go_enter Try.func4, Try.ntmps4
  go_wp2_with fail
  refine (HAW.out _).mono ?_
  rintro e w1 ⟨rfl, hb⟩
  have HB1 := Lib.hid hb
  clear hb
  go_wp2_with fail
  refine (HF.out _ (HT.out.below HB1.out)).mono ?_
  rintro e _ ⟨rfl, rfl⟩
  cases fw with
  | false =>
    go_wp2_with fail
    refine (HAW.out _).mono ?_
    rintro e w9 ⟨rfl, hb⟩
    have HB9 := Lib.hid (HB1.out.trans (hb.mono HB1.out.size))
    clear hb
    go_wp2_with fail
    go_ret
    exact ⟨rfl, HB9.out⟩
  | true =>
    obtain ⟨hf1, hf2⟩ := HFI.out rfl
    have hn30 : n ≤ 30 := by have := HL.out; omega
    have HF2 := Lib.hid hf2
    clear hf2 HFI
    by_cases h1 : 300 < source.size
    · have h1z : (300 : Int) < (source.size : Int) := by omega
      have h1d : decide ((300 : Int) < (source.size : Int)) = true := decide_eq_true h1z
      go_wp2_with fail
      refine (HAW.out _).mono ?_
      rintro e w9 ⟨rfl, hb⟩
      have HB9 := Lib.hid (HB1.out.trans (hb.mono HB1.out.size))
      clear hb
      go_wp2_with fail
      go_ret
      exact ⟨rfl, HB9.out⟩
    · have h1z : ¬ (300 : Int) < (source.size : Int) := by omega
      have h1d : decide ((300 : Int) < (source.size : Int)) = false := decide_eq_false h1z
      by_cases h2 : 300 < target.size
      · have h2z : (300 : Int) < (target.size : Int) := by omega
        have h2d : decide ((300 : Int) < (target.size : Int)) = true := decide_eq_true h2z
        go_wp2_with fail
        refine (HAW.out _).mono ?_
        rintro e w9 ⟨rfl, hb⟩
        have HB9 := Lib.hid (HB1.out.trans (hb.mono HB1.out.size))
        clear hb
        go_wp2_with fail
        go_ret
        exact ⟨rfl, HB9.out⟩
      · have h2z : ¬ (300 : Int) < (target.size : Int) := by omega
        have h2d : decide ((300 : Int) < (target.size : Int)) = false := decide_eq_false h2z
        have HTO := Lib.hid (fun W (h : TmAt W ad n ts) => to_any ts ad n c W h (by omega))
        have HPC := Lib.hid (fun a1 c1 W (h : TmAt W a1 n ts) => pcheck_any ts source target a1 n c1 W h (by omega) (fun x hx => by have := HF2.out x hx; omega))
        have HPU := Lib.hid (fun a1 c1 W (h : TmAt W a1 n ts) => pcheck_any ts (upB source) (upB target) a1 n c1 W h (by omega) (fun x hx => by have := HF2.out x hx; omega))
        rw [err_up ts source target (by omega) (by omega), res_up ts source target (by omega) (by omega)] at HPU
        have HU1 := Lib.hid (fun W => upper_any source W (by omega))
        have HU2 := Lib.hid (fun W => upper_any target W (by omega))
        have HRM := Lib.hid (res_mem ts source target (by omega))
        have hrl := res_len ts source target (by omega)
        unfold ChkPost at HPC HPU
        generalize errV ts source target = er at *
        generalize resV ts source target (pfindings ts source target) = fs at *
        obtain ⟨F, hF⟩ : ∃ F, fs.length = F := ⟨_, rfl⟩
        rw [hF] at HPC HPU hrl
        have HSF := Lib.hid (fun a c a' c' W (h1 : PrAt W a F fs) (h2 : PrAt W a' F fs) => same_eq fs HRM.out a F c a' c' W h1 h2 (by omega))
        have HFR := Lib.hid (fun a c W (h1 : PrAt W a F fs) => from_any fs a F c W h1 (by omega))
        clear hF HRM
        go_wp2_with fail
        refine (HTO.out _ (HT.out.below HB1.out)).mono ?_
        rintro e w2 ⟨a2, c2, rfl, htr, hb⟩
        have HB2 := Lib.hid (HB1.out.trans (hb.mono HB1.out.size))
        have HR2 := Lib.hid (TmR.at htr)
        clear htr hb HB1
        go_wp2_with fail
        refine (HPC.out a2 c2 _ HR2.out).mono ?_
        rintro e w3 ⟨a3, c3, rfl, hfn, hb⟩
        have HB3 := Lib.hid (HB2.out.trans (hb.mono HB2.out.size))
        have HP3 := Lib.hid (FnR.at hfn)
        clear hfn hb HB2 HR2
        go_wp2_with fail
        refine (HTO.out _ (HT.out.below HB3.out)).mono ?_
        rintro e w4 ⟨a4, c4, rfl, htr, hb⟩
        have HB4 := Lib.hid (HB3.out.trans (hb.mono HB3.out.size))
        have HP4 := Lib.hid (HP3.out.below hb)
        have HR4 := Lib.hid (TmR.at htr)
        clear htr hb HB3 HP3
        go_wp2_with fail
        refine (HU1.out _).mono ?_
        rintro e w5 ⟨rfl, hb⟩
        have HB5 := Lib.hid (HB4.out.trans (hb.mono HB4.out.size))
        have HP5 := Lib.hid (HP4.out.below hb)
        have HR5 := Lib.hid (HR4.out.below hb)
        clear hb HB4 HP4 HR4
        go_wp2_with fail
        refine (HU2.out _).mono ?_
        rintro e w6 ⟨rfl, hb⟩
        have HB6 := Lib.hid (HB5.out.trans (hb.mono HB5.out.size))
        have HP6 := Lib.hid (HP5.out.below hb)
        have HR6 := Lib.hid (HR5.out.below hb)
        clear hb HB5 HP5 HR5
        go_wp2_with fail
        refine (HPU.out a4 c4 _ HR6.out).mono ?_
        rintro e w7 ⟨a7, c7, rfl, hfn, hb⟩
        have HB7 := Lib.hid (HB6.out.trans (hb.mono HB6.out.size))
        have HP7 := Lib.hid (HP6.out.below hb)
        have HQ7 := Lib.hid (FnR.at hfn)
        clear hfn hb HB6 HP6 HR6
        go_wp2_with fail
        refine (HFR.out a3 c3 _ HP7.out).mono ?_
        rintro e w8 ⟨a8, c8, rfl, hfn, hb⟩
        have HB8 := Lib.hid (HB7.out.trans (hb.mono HB7.out.size))
        have HQ8 := Lib.hid (HQ7.out.below hb)
        have HS8 := Lib.hid (FnR.at hfn)
        clear hfn hb HB7 HP7 HQ7
        go_wp2_with fail
        refine (HFR.out a7 c7 _ HQ8.out).mono ?_
        rintro e w9 ⟨a9, c9, rfl, hfn, hb⟩
        have HB9 := Lib.hid (HB8.out.trans (hb.mono HB8.out.size))
        have HS9 := Lib.hid (HS8.out.below hb)
        have HT9 := Lib.hid (FnR.at hfn)
        clear hfn hb HB8 HQ8 HS8
        go_wp2_with fail
        refine (HSF.out a8 c8 a9 c9 _ HS9.out HT9.out).mono ?_
        rintro e wA ⟨rfl, hb⟩
        have HBA := Lib.hid (HB9.out.trans (hb.mono HB9.out.size))
        clear hb
        go_wp2_with fail
        go_ret
        exact ⟨rfl, HBA.out⟩
end Go.Proofs.Ytkodnagneblgaaa
