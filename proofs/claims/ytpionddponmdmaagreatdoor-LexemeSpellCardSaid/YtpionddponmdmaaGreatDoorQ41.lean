/- Walks: the reference's Decode, Encode and Valid: Valid is the decoder's. -/
import Derived.Test.YtpionddponmdmaaGreatDoorQ40
import Derived.Test.YtpionddponmdmaaGreatDoorQ08
import Derived.Test.YtpionddponmdmaaGreatDoorQ23
namespace Go.Proofs.YtpionddponmdmaaGreatDoor
open Go.RowKit
attribute [local go_sem] Ext.cell Ext.frozen
attribute [local go_sem ↓] Go.wp_at_zero Go.wp_at_succ
def decG : Nat → List UInt8 → List Nat
  | 0, _ => []
  | f + 1, l => if l = [] then [] else (Lib.decodeL l).1 :: decG f (l.drop (Lib.decodeL l).2)
def decL (l : List UInt8) : List Nat := decG l.length l
theorem decG_nil : ∀ f, decG f [] = []
  | 0 => rfl
  | _ + 1 => by rw [decG, if_pos rfl]
theorem decG_fuel : ∀ (n m : Nat) (l : List UInt8), l.length ≤ n → l.length ≤ m → decG n l = decG m l
  | 0, m, l, hn, _ => by
    have : l = [] := List.eq_nil_of_length_eq_zero (by omega)
    subst this
    rw [decG_nil, decG_nil]
  | n + 1, 0, l, _, hm => by
    have : l = [] := List.eq_nil_of_length_eq_zero (by omega)
    subst this
    rw [decG_nil, decG_nil]
  | n + 1, m + 1, l, hn, hm => by
    rw [decG, decG]
    by_cases hne : l = []
    · rw [if_pos hne, if_pos hne]
    · have hw := Lib.decodeL_width l
      have hl := len_pos hne
      rw [if_neg hne, if_neg hne, decG_fuel n m _ (by rw [List.length_drop]; omega) (by rw [List.length_drop]; omega)]
theorem decL_step {l : List UInt8} (hne : l ≠ []) : decL l = (Lib.decodeL l).1 :: decL (l.drop (Lib.decodeL l).2) := by
  have hl := len_pos hne
  have hw := Lib.decodeL_width l
  obtain ⟨n, hn⟩ : ∃ n, l.length = n + 1 := ⟨l.length - 1, by omega⟩
  unfold decL
  rw [hn, decG, if_neg hne, decG_fuel n _ _ (by rw [List.length_drop]; omega) (Nat.le_refl _)]
theorem decL_nil : decL [] = [] := rfl
theorem dec_point {l : List UInt8} (_hne : l ≠ []) : pointW (Lib.decodeL l).1 = true := by
  rw [pointW_dec, Lib.decodeL_N]
  refine decide_eq_true ?_
  rcases Lib.decodeN_shape l.length (l.getD 0 0).toNat (l.getD 1 0).toNat (l.getD 2 0).toNat (l.getD 3 0).toNat with ⟨c, e⟩ | ⟨c1, c2, c3, cv, e⟩ | ⟨c1, c2, c3, c4, cv, cs, e⟩ | ⟨c1, c2, c3, c4, c5, cv, cw, e⟩ | e
  all_goals (rw [e]; dsimp only; omega)
theorem decL_point : ∀ (n : Nat) (l : List UInt8), l.length ≤ n → ∀ x ∈ decL l, pointW x = true
  | n, l, hn => by
    by_cases hne : l = []
    · subst hne; intro x hx; cases hx
    · have hw := Lib.decodeL_width l
      have hl := len_pos hne
      rw [decL_step hne]
      intro x hx
      rcases List.mem_cons.1 hx with rfl | hx
      · exact dec_point hne
      · match n, hn with
        | 0, hn => omega
        | n + 1, hn => exact decL_point n _ (by rw [List.length_drop]; omega) x hx
theorem decL_len : ∀ (n : Nat) (l : List UInt8), l.length ≤ n → (decL l).length ≤ l.length
  | n, l, hn => by
    by_cases hne : l = []
    · subst hne; exact Nat.le_refl _
    · have hw := Lib.decodeL_width l
      have hl := len_pos hne
      rw [decL_step hne, List.length_cons]
      match n, hn with
      | 0, hn => omega
      | n + 1, hn =>
        have := decL_len n (l.drop (Lib.decodeL l).2) (by rw [List.length_drop]; omega)
        rw [List.length_drop] at this
        omega
def encL (xs : List Nat) : List UInt8 := xs.flatMap oneW
/-- what is valid is what encodes to itself -/
theorem valid_ref : ∀ (n : Nat) (l : List UInt8), l.length ≤ n → Lib.validD l = decide (encL (decL l) = l)
  | n, l, hn => by
    by_cases hne : l = []
    · subst hne; rfl
    · have hw := Lib.decodeL_width l
      have hl := len_pos hne
      have hs : encL (decL l) = oneW (Lib.decodeL l).1 ++ encL (decL (l.drop (Lib.decodeL l).2)) := by rw [decL_step hne]; rfl
      rw [Lib.validD_step l hne]
      by_cases hb : (Lib.decodeL l).1 = 65533 ∧ (Lib.decodeL l).2 = 1
      · rw [if_pos hb]
        refine (decide_eq_false fun h => ?_).symm
        rw [hs, hb.1] at h
        have h3 : oneW 65533 = [239, 191, 189] := by decide
        rw [h3] at h
        generalize encL (decL (l.drop (Lib.decodeL l).2)) = r at h
        obtain ⟨_, hb2⟩ := hb
        subst h
        rw [Lib.decodeL_N] at hb2
        have : (Lib.decodeN ([239, 191, 189] ++ r).length ((([239, 191, 189] : List UInt8) ++ r).getD 0 0).toNat ((([239, 191, 189] : List UInt8) ++ r).getD 1 0).toNat ((([239, 191, 189] : List UInt8) ++ r).getD 2 0).toNat ((([239, 191, 189] : List UInt8) ++ r).getD 3 0).toNat).2 = 3 := by
          have e0 : ((([239, 191, 189] : List UInt8) ++ r).getD 0 0).toNat = 239 := rfl
          have e1 : ((([239, 191, 189] : List UInt8) ++ r).getD 1 0).toNat = 191 := rfl
          have e2 : ((([239, 191, 189] : List UInt8) ++ r).getD 2 0).toNat = 189 := rfl
          rw [e0, e1, e2]
          have hlen : 3 ≤ ([239, 191, 189] ++ r : List UInt8).length := by simp
          unfold Lib.decodeN
          rw [if_neg (by omega), if_neg (by omega), if_pos (by omega), if_pos (by omega)]
        omega
      · rw [if_neg hb]
        have he := Lib.encode_decode l hne hb
        rw [encodeRune_oneW (dec_point hne)] at he
        match n, hn with
        | 0, hn => omega
        | n + 1, hn =>
          rw [valid_ref n (l.drop (Lib.decodeL l).2) (by rw [List.length_drop]; omega), hs, he]
          refine decide_eq_decide.2 ⟨fun h => ?_, fun h => ?_⟩
          · rw [h, List.take_append_drop]
          · have h2 : l.take (Lib.decodeL l).2 ++ encL (decL (l.drop (Lib.decodeL l).2)) = l.take (Lib.decodeL l).2 ++ l.drop (Lib.decodeL l).2 := by rw [h, List.take_append_drop]
            exact List.append_cancel_left h2
def intsV (xs : List Nat) : List Value := xs.map fun (x : Nat) => Value.int .i64 (x : Int)
theorem intsV_snoc (xs : List Nat) (x : Nat) : intsV (xs ++ [x]) = intsV xs ++ [.int .i64 (x : Int)] := by simp [intsV]
theorem infoI : (Tryz.prog.info? 3).map (fun i => (i.zero, i.size, i.bytes)) = some (some (.int .i64 0), 1, 8) := by kernel_rfl
def strSz : Value → Nat
  | .string b => b.size
  | _ => 0
set_option maxRecDepth 20000 in
set_option maxHeartbeats 4000000 in
theorem rdecode_any (l : List UInt8) (hl : l.length ≤ 100000) (w : World) :
    Calls Tryz.prog 42 #[.string (bs l)] w fun e w' => ∃ ad c, e = .returned (.slice ad (decL l).length c) ∧ w'.ownsRow w.heap.size 3 1 (.slice ad (decL l).length c) (decL l).length (intsV (decL l)) ∧ Below w.heap.size w w' := by
  obtain ⟨i0, hi, hz0, hz1, hz2⟩ := info_parts infoI
  have HI := Lib.hid hi
  have HZ0 := Lib.hid hz0
  have HZ1 := Lib.hid hz1
  have HZ2 := Lib.hid hz2
  have HDL := Lib.hid (decL_len _ l (Nat.le_refl _))
  clear hi hz0 hz1 hz2
  go_enter Tryz.func42, Tryz.ntmps42
  go_wp2_with fail
  go_loopw [0, 3] (fun s v wr => ∃ (r : List UInt8) (xs : List Nat) (ad : Option Addr) (c : Nat), s = .string (bs r) ∧ r.length ≤ l.length ∧ xs.length + r.length ≤ l.length ∧ xs ++ decL r = decL l ∧ v = .slice ad xs.length c ∧ wr.ownsRow w.heap.size 3 1 (.slice ad xs.length c) xs.length (intsV xs) ∧ Below w.heap.size w wr) (fun s _ _ => strSz s)
  case atStart => exact ⟨l, [], none, 0, rfl, Nat.le_refl _, by simp, rfl, rfl, World.ownsRow_nil _ _ _ _, Below.refl _ _⟩
  case round =>
    obtain ⟨r, xs, ad, c, rfl, hr, hxr, hdc, rfl, hown, hbl⟩ := hrel
    have HOWN := Lib.hid hown
    have HBL := Lib.hid hbl
    have HDC := Lib.hid hdc
    have hzr := hbl.size
    have hsz : (bs r).size = r.length := bs_size r
    have HSZ := Lib.hid hsz
    clear hown hbl hdc
    by_cases hne : r = []
    · subst hne
      have hs0 : ¬ 0 < ((bs ([] : List UInt8)).size : Int) := by decide
      have hd : xs = decL l := by have := HDC.out; rwa [decL_nil, List.append_nil] at this
      subst hd
      clear hsz
      generalize bs ([] : List UInt8) = S at *
      go_wp2_with fail
      go_ret
      exact ⟨ad, c, rfl, HOWN.out, HBL.out⟩
    · have h1 := len_pos hne
      have hw := Lib.decodeL_width r
      have hle := Lib.decodeL_le r hne
      have hp := dec_point hne
      have hrb := Lib.decodeL_rune r
      have HNX := Lib.hid (fun w => rnext_any r hne (by omega) w)
      have HST : Hid (xs ++ [(Lib.decodeL r).1] ++ decL (r.drop (Lib.decodeL r).2) = decL l) := by unfold Hid; rw [List.append_assoc, List.singleton_append, ← decL_step hne]; exact HDC.out
      have hex := ext_drop r (Lib.decodeL r).2
      have hdl : (r.drop (Lib.decodeL r).2).length = r.length - (Lib.decodeL r).2 := List.length_drop ..
      unfold NxtP at HNX
      have hpos : 0 < ((bs r).size : Int) := by omega
      have hsb : (bs r).size ≤ 100000 := by omega
      have hzw : 0 < (bs r).size := by omega
      generalize Lib.decodeL r = D at *
      obtain ⟨v, k⟩ := D
      simp only at HNX HST hex hdl hw hle hrb
      have HM : Hid ((bs (r.drop k)).size < (bs r).size) := by unfold Hid; rw [bs_size, bs_size]; omega
      have hks : (k : Int) ≤ ((bs r).size : Int) := by omega
      have hks2 : k ≤ (bs r).size := by omega
      have HHH : Hid (r.length ≤ l.length ∧ xs.length + r.length ≤ l.length ∧ 1 ≤ k ∧ k ≤ r.length ∧ (r.drop k).length = r.length - k) := ⟨hr, hxr, hw, hle, hdl⟩
      have hxl : xs.length ≤ 100000 := by omega
      clear hsz hdl HDC hp hr hxr hne h1 HSZ
      generalize hE : bs (r.drop k) = E at *
      have HEE := Lib.hid hE
      clear hE
      generalize bs r = S at *
      go_wp2_with fail
      refine (HNX.out _).mono ?_
      rintro e w2 ⟨rfl, hb2⟩
      have HO2 := Lib.hid (own_below2 HOWN.out hb2)
      have HB2 : Hid (Below w.heap.size w w2) := HBL.out.trans (hb2.mono hzr)
      have hz2 := HB2.out.size
      clear hb2
      go_wp2_with (at_builtin; refine wpList_app 69 3 8 Tryz.underlying69 i0 _ HI.out HZ0.out HZ1.out HZ2.out rfl rfl _ _ rfl w.heap.size ad xs.length c _ rfl HO2.out _ _ rfl rfl (by unfold maxLen; omega) (by omega) hz2 ?_; intro ad6 c6 w3 hown3 hb3 hg3 hz3; have HOWN3 := Lib.hid hown3; have HB3 := Lib.hid hb3; clear hown3 hb3 hg3 hz3)
      go_roundw
      case rel =>
        obtain ⟨q1, q2, q3, q4, q5⟩ := HHH.out
        exact ⟨r.drop k, xs ++ [v], ad6, c6, by rw [HEE.out], by omega, by rw [List.length_append, q5]; simp; omega, HST.out, by rw [List.length_append]; rfl, by rw [intsV_snoc, List.length_append]; exact HOWN3.out, HB2.out.trans HB3.out⟩
      case measure => exact HM.out
set_option maxRecDepth 20000 in
set_option maxHeartbeats 4000000 in
theorem rencode_any (ad : Option Addr) (n c : Nat) (xs : List Nat) (w : World) (b off : Nat) (hx : SlAt w ad n (intsV xs) b off) (hp : ∀ x ∈ xs, pointW x = true) (hn : n ≤ 100000) :
    Calls Tryz.prog 41 #[.slice ad n c] w fun e w' => e = .returned (.string (bs (encL xs))) ∧ Below w.heap.size w w' := by
  have hxl : xs.length = n := by have := hx.len; simpa [intsV] using this
  have HXL := Lib.hid hxl
  have HX := Lib.hid hx
  have HP := Lib.hid hp
  clear hx hp hxl
  go_enter Tryz.func41, Tryz.ntmps41
  go_wp2_with fail
  go_loopw [3, 4] (fun s i wr => ∃ k : Nat, k ≤ n ∧ i = .int .i64 (k : Int) ∧ s = .string (bs (encL (xs.take k))) ∧ (encL (xs.take k)).length ≤ 4 * k ∧ Below w.heap.size w wr) (fun _ i _ => n - (intOf i).toNat)
  case atStart => exact ⟨0, Nat.zero_le _, rfl, rfl, Nat.le_refl _, Below.refl _ _⟩
  case round =>
    obtain ⟨k, hk, rfl, rfl, hlen, hbl⟩ := hrel
    have HBL := Lib.hid hbl
    have hzr := hbl.size
    clear hbl
    by_cases hlt : k < n
    · have hxr := HX.out.below HBL.out
      have hix := fun W => hxr.ix (c := c) 69 3 Tryz.underlying69 (by kernel_rfl) hlt W
      have hcl := hxr.cell k hlt
      have hkx : k < xs.length := by rw [HXL.out]; exact hlt
      rw [show (intsV xs).getD k undef = .int .i64 ((xs.getD k 0 : Nat) : Int) by simp [intsV, List.getD, List.getElem?_eq_getElem hkx]] at hcl
      have hpt : pointW (xs.getD k 0) = true := HP.out _ (by simp [List.getD, List.getElem?_eq_getElem hkx])
      have hsn : encL (xs.take (k + 1)) = encL (xs.take k) ++ oneW (xs.getD k 0) := by
        unfold encL
        rw [List.take_succ_eq_append_getElem hkx, List.flatMap_append]
        congr 1
        simp [List.getD, List.getElem?_eq_getElem hkx]
      have hol := oneW_len (xs.getD k 0)
      have HSN : Hid (bs (encL (xs.take k)) ++ bs (oneW (xs.getD k 0)) = bs (encL (xs.take (k + 1)))) := by unfold Hid; rw [bs_append, hsn]
      have HLN : Hid ((encL (xs.take (k + 1))).length ≤ 4 * (k + 1)) := by unfold Hid; rw [hsn, List.length_append]; omega
      have hsl : (bs (encL (xs.take k))).size ≤ 400000 := by rw [bs_size]; omega
      have hol2 : (bs (oneW (xs.getD k 0))).size ≤ 4 := by rw [bs_size]; exact hol
      have hvm : xs.getD k 0 ≤ 1114111 := by rw [pointW_dec] at hpt; have := of_decide_eq_true hpt; omega
      have HPT := Lib.hid (fun w => rpointw_any (xs.getD k 0) (by omega) w)
      have HON := Lib.hid (fun w => ronew_any (xs.getD k 0) hvm w)
      rw [hpt] at HPT
      clear hxr hkx hpt hsn hol
      generalize xs.getD k 0 = v at *
      generalize bs (oneW v) = O at *
      generalize bs (encL (xs.take k)) = S at *
      go_wp2_with fail
      refine (HPT.out _).mono ?_
      rintro e _ ⟨rfl, rfl⟩
      go_wp2_with fail
      refine (HON.out _).mono ?_
      rintro e w2 ⟨rfl, hb2⟩
      have HB2 : Hid (Below w.heap.size w w2) := HBL.out.trans (hb2.mono hzr)
      clear hb2
      go_wp2_with fail
      go_roundw
      case rel => exact ⟨k + 1, hlt, by go_num, by rw [← HSN.out], HLN.out, HB2.out⟩
      case measure => simp [intOf]; omega
    · obtain rfl : k = n := by omega
      have HE : Hid (xs.take k = xs) := List.take_of_length_le (by rw [HXL.out]; exact Nat.le_refl _)
      go_wp2_with fail
      go_ret
      exact ⟨by rw [HE.out]; rfl, HBL.out⟩
set_option maxRecDepth 20000 in
theorem rvalidu_any (l : List UInt8) (hl : l.length ≤ 100000) (w : World) : Calls Tryz.prog 25 #[.string (bs l)] w fun e w' => e = .returned (.bool (Lib.validD l)) ∧ Below w.heap.size w w' := by
  have HD := Lib.hid (fun w => rdecode_any l hl w)
  have HV := Lib.hid (valid_ref _ l (Nat.le_refl _))
  have hdl := decL_len _ l (Nat.le_refl _)
  have hen : ∀ (n : Nat) (ad : Option Addr) (c : Nat) (w : World) (base : Nat), n = (decL l).length → w.ownsRow base 3 1 (.slice ad n c) n (intsV (decL l)) → Calls Tryz.prog 41 #[.slice ad n c] w fun e w' => e = .returned (.string (bs (encL (decL l)))) ∧ Below w.heap.size w w' := fun n ad c w base hn hown => by
    rcases Nat.eq_zero_or_pos n with h0 | h0
    · subst h0
      exact rencode_any ad 0 c (decL l) w 0 0 ⟨by simpa [intsV] using hn.symm, by omega, fun h => absurd rfl h, fun i h => absurd h (Nat.not_lt_zero _)⟩ (decL_point _ l (Nat.le_refl _)) (by omega)
    · have hown2 := hown
      obtain ⟨g, e, _⟩ := own_parts hown h0
      subst e
      exact rencode_any _ n c (decL l) w _ 0 (own_slat hown2 h0) (decL_point _ l (Nat.le_refl _)) (by omega)
  have HEN := Lib.hid hen
  clear hen
  have hdl2 : (decL l).length ≤ 100000 := by omega
  generalize hn : (decL l).length = n at *
  go_enter Tryz.func25, Tryz.ntmps25
  go_wp2_with fail
  refine (HD.out _).mono ?_
  rintro e w2 ⟨ad, c, rfl, hown, hb⟩
  have HE2 := Lib.hid (HEN.out n ad c w2 _ rfl hown)
  have HB := Lib.hid hb
  clear hown hb
  go_wp2_with fail
  refine HE2.out.mono ?_
  rintro e w3 ⟨rfl, hb3⟩
  have HB3 : Hid (Below w.heap.size w w3) := HB.out.trans (hb3.mono HB.out.size)
  clear hb3
  by_cases he : encL (decL l) = l
  · have HR : Hid (Lib.validD l = true) := by unfold Hid; rw [HV.out, decide_eq_true he]
    rw [he]
    generalize bs l = S at *
    have hxx : (S.toList == S.toList) = true := by simp
    go_wp2_with fail
    go_ret
    exact ⟨by rw [HR.out]; rfl, HB3.out⟩
  · have HR : Hid (Lib.validD l = false) := by unfold Hid; rw [HV.out, decide_eq_false he]
    have hxe : ((bs (encL (decL l))).toList == (bs l).toList) = false := by rw [bs_toList, bs_toList, beq_eq_false_iff_ne]; exact he
    generalize bs (encL (decL l)) = X at *
    generalize bs l = S at *
    go_wp2_with fail
    go_ret
    exact ⟨by rw [HR.out]; rfl, HB3.out⟩
end Go.Proofs.YtpionddponmdmaaGreatDoor
/- Walks: the reference's escaped form of a string. -/
namespace Go.Proofs.YtpionddponmdmaaGreatDoor
open Go.RowKit
attribute [local go_sem] Ext.cell Ext.frozen
attribute [local go_sem ↓] Go.wp_at_zero Go.wp_at_succ
theorem dig16 {u : Nat} (hu : u < 16) (h : u < (⟨#[48, 49, 50, 51, 52, 53, 54, 55, 56, 57, 97, 98, 99, 100, 101, 102]⟩ : ByteArray).size) :
    (⟨#[48, 49, 50, 51, 52, 53, 54, 55, 56, 57, 97, 98, 99, 100, 101, 102]⟩ : ByteArray)[u] = hexD u := by
  have k : ∀ v : Fin 16, (⟨#[48, 49, 50, 51, 52, 53, 54, 55, 56, 57, 97, 98, 99, 100, 101, 102]⟩ : ByteArray)[v.1]'(Nat.lt_of_lt_of_le v.2 (by decide)) = hexD v.1 := by decide +kernel
  exact k ⟨u, hu⟩
theorem conv2D (y z : Int) (b c : UInt8) (hy : y = (b.toNat : Int)) (hz : z = (c.toNat : Int)) (W : World) :
    (convert 59 9 (.slice (some ⟨W.heap.size, 0, none⟩) 2 2)).run Tryz.prog (W.alloc (.cells #[.int .u8 y, .int .u8 z] 5)).drew = .ok (.string (bs [b, c])) (W.alloc (.cells #[.int .u8 y, .int .u8 z] 5)).drew := by
  refine run_convert_bytes_back _ 59 9 5 ⟨W.heap.size, 0, none⟩ 2 [b, c] Tryz.underlying59 Tryz.underlying5 Tryz.underlying9 ?_
  intro j hj
  subst hy hz
  match j, hj with
  | 0, _ => simp [go_sem, Addr.add]
  | 1, _ => simp [go_sem, Addr.add]
  | j + 2, hj => exact absurd (show j + 2 < 2 from hj) (by omega)
set_option maxRecDepth 20000 in
set_option maxHeartbeats 4000000 in
theorem rhex_any (n : Nat) (hn : n < 256) (w : World) : Calls Tryz.prog 54 #[.int .i64 (n : Int)] w fun e w' => e = .returned (.string (bs [hexD (n / 16), hexD (n % 16)])) ∧ Below w.heap.size w w' := by
  obtain ⟨q, hq⟩ : ∃ q, n / 16 = q := ⟨_, rfl⟩
  obtain ⟨r, hr⟩ : ∃ r, n % 16 = r := ⟨_, rfl⟩
  have iq : (n : Int) / 16 = (q : Int) := by omega
  have ir : (n : Int) % 16 = (r : Int) := by omega
  have t1 : (n : Int).tdiv 16 = (q : Int) := by rw [Int.tdiv_eq_ediv_of_nonneg (by omega), iq]
  have t3 : (n : Int).tmod 16 = (r : Int) := by rw [Int.tmod_eq_emod_of_nonneg (by omega), ir]
  have t0 : IntKind.i64.wrap (q : Int) = (q : Int) := IntWalk.i64_in _ (by omega)
  have q16 : q < 16 := by omega
  have r16 : r < 16 := by omega
  rw [hq, hr]
  have dq := dig16 q16
  have dr := dig16 r16
  have kc := conv2H ((hexD q).toNat : Int) ((hexD r).toNat : Int) (hexD q) (hexD r) rfl rfl
  have bq : q < (⟨#[48, 49, 50, 51, 52, 53, 54, 55, 56, 57, 97, 98, 99, 100, 101, 102]⟩ : ByteArray).size := q16
  have br : r < (⟨#[48, 49, 50, 51, 52, 53, 54, 55, 56, 57, 97, 98, 99, 100, 101, 102]⟩ : ByteArray).size := r16
  have jq : (q : Int) < 16 := by omega
  have jr : (r : Int) < 16 := by omega
  have kq : (0 : Int) ≤ (q : Int) := by omega
  have kr : (0 : Int) ≤ (r : Int) := by omega
  have kd := conv2D ((hexD q).toNat : Int) ((hexD r).toNat : Int) (hexD q) (hexD r) rfl rfl
  clear hq hr
  generalize hexD q = a at *
  generalize hexD r = b at *
  go_enter Tryz.func54, Tryz.ntmps54
  go_wp2_with fail
  go_region_held (fun _ => True) (trivial) (fail)
  all_goals
    go_wp2_with fail
    go_ret
    exact ⟨rfl, ((Below.refl _ _).alloc (Nat.le_refl _) _).drew⟩
end Go.Proofs.YtpionddponmdmaaGreatDoor
