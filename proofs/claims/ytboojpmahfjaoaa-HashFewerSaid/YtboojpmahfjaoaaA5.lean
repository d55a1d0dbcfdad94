/- Walks: the set of slots, said as a set; the checks of a table. -/
import Derived.Test.YtboojpmahfjaoaaA4
namespace Go.Proofs.Ytboojpmahfjaoaa
open Go.RowKit
attribute [local go_sem] Ext.cell Ext.frozen

/-- block B holds the set f of numbers below 1000 -/
def SetAt (w : World) (B : Nat) (f : Nat → Bool) : Prop :=
  ∃ wd : Nat → Nat, (∀ j, j < 16 → wd j < 18446744073709551616 ∧ w.cell? ⟨B, j, none⟩ = some (.int .u64 (wd j : Nat)) ∧ w.frozen? ⟨B, j, none⟩ = false) ∧
    ∀ i, i < 1000 → (wd (i / 64)).testBit (i % 64) = f i

theorem SetAt.below {w w' : World} {B : Nat} {f : Nat → Bool} (h : SetAt w B f) (hb : Below w.heap.size w w') : SetAt w' B f := by
  obtain ⟨wd, h1, h2⟩ := h
  refine ⟨wd, fun j hj => ?_, h2⟩
  obtain ⟨a, b, c⟩ := h1 j hj
  have hlt : B < w.heap.size := World.block_lt_of_cell? w _ b
  exact ⟨a, by rw [hb.cell (p := ⟨B, j, none⟩) hlt]; exact b, by rw [hb.frozen (p := ⟨B, j, none⟩) hlt]; exact c⟩

theorem SetAt.lt {w : World} {B : Nat} {f : Nat → Bool} (h : SetAt w B f) : B < w.heap.size := by
  obtain ⟨wd, h1, h2⟩ := h
  exact World.block_lt_of_cell? w _ (h1 0 (by omega)).2.1

theorem SetAt.congr {w : World} {B : Nat} {f g : Nat → Bool} (h : SetAt w B f) (hg : ∀ i, i < 1000 → f i = g i) : SetAt w B g := by
  obtain ⟨wd, h1, h2⟩ := h
  exact ⟨wd, h1, fun i hi => (h2 i hi).trans (hg i hi)⟩

theorem set_has (B i : Nat) (f : Nat → Bool) (w : World) (h : SetAt w B f) (hi : i < 1000) :
    Calls Try.prog 30 #[.pointer (some ⟨B, 0, none⟩), .int .i64 i] w fun e w' => e = .returned (.bool (f i)) ∧ w = w' := by
  obtain ⟨wd, h1, h2⟩ := h
  obtain ⟨a, b, c⟩ := h1 (i / 64) (by omega)
  exact (has_any B i _ w hi b a).mono fun e w' ⟨he, hw⟩ => ⟨by rw [he, h2 i hi], hw⟩

theorem set_add_no (B i : Nat) (f : Nat → Bool) (w : World) (h : SetAt w B f) (hi : i < 1000) (hf : f i = true) :
    Calls Try.prog 31 #[.pointer (some ⟨B, 0, none⟩), .int .i64 i] w fun e w' => e = .returned (.bool false) ∧ w = w' := by
  obtain ⟨wd, h1, h2⟩ := h
  obtain ⟨a, b, c⟩ := h1 (i / 64) (by omega)
  exact add_no B i _ w hi b a ((h2 i hi).trans hf)

/-- with one number more -/
def plus (f : Nat → Bool) (i : Nat) : Nat → Bool := fun j => f j || decide (j = i)

theorem set_add_yes (B i : Nat) (f : Nat → Bool) (w : World) (h : SetAt w B f) (hi : i < 1000) (hf : f i = false) :
    Calls Try.prog 31 #[.pointer (some ⟨B, 0, none⟩), .int .i64 i] w fun e w' => e = .returned (.bool true) ∧ SetAt w' B (plus f i) ∧ w.grownBy w' (some B) := by
  have hlt := h.lt
  obtain ⟨wd, h1, h2⟩ := h
  obtain ⟨a, b, c⟩ := h1 (i / 64) (by omega)
  refine (add_yes B i _ w hi b c a ((h2 i hi).trans hf)).mono ?_
  rintro e w' ⟨he, n, rfl⟩
  refine ⟨he, ⟨fun j => if j = i / 64 then wd (i / 64) ||| 2 ^ (i % 64) else wd j, fun j hj => ?_, fun k hk => ?_⟩, ?_⟩
  · by_cases hji : j = i / 64
    · subst hji
      refine ⟨?_, ?_, ?_⟩
      · show (if i / 64 = i / 64 then wd (i / 64) ||| 2 ^ (i % 64) else wd (i / 64)) < _
        rw [if_pos rfl]
        have h64 : wd (i / 64) < 2 ^ 64 := by simpa using a
        have hp : 2 ^ (i % 64) < 2 ^ 64 := Nat.pow_lt_pow_right (by omega) (by omega)
        have := Nat.or_lt_two_pow h64 hp
        simpa using this
      · simp only [if_true]
        show (w.setCell ⟨B, i / 64, none⟩ _).cell? _ = _
        exact World.cell?_setCell_same w _ _ b
      · show (w.setCell ⟨B, i / 64, none⟩ _).frozen? _ = _
        simp [World.frozen?_setCell, c]
    · obtain ⟨a', b', c'⟩ := h1 j hj
      simp only [hji, if_false]
      refine ⟨a', ?_, ?_⟩
      · show (w.setCell ⟨B, i / 64, none⟩ _).cell? _ = _
        rw [World.cell?_setCell_other]
        · exact b'
        · simp
      · show (w.setCell ⟨B, i / 64, none⟩ _).frozen? _ = _
        simp [World.frozen?_setCell, c']
  · unfold plus
    rw [← h2 k hk]
    by_cases hq : k / 64 = i / 64
    · simp only [hq, if_true]
      rw [Nat.testBit_or, Nat.testBit_two_pow]
      congr 1
      rw [decide_eq_decide]
      omega
    · simp only [hq, if_false]
      have : k ≠ i := fun e => hq (by rw [e])
      simp [this]
  · exact ⟨rfl, rfl, rfl, by simp, fun k hk hne => Below.heap_setCell w _ _ k (fun e => hne (by rw [e]))⟩

/-- the first k slots are numbers, and different -/
def okSl (sl : List Int) : Nat → Bool
  | 0 => true
  | k + 1 => okSl sl k && (decide (0 ≤ sl.getD k 0) && !((sl.take k).any (· == sl.getD k 0)))
theorem okSl_false {sl : List Int} {k n : Nat} (h : okSl sl k = false) (hk : k ≤ n) : okSl sl n = false := by
  induction n with
  | zero => obtain rfl : k = 0 := by omega
            exact h
  | succ n ih =>
    rcases Nat.lt_or_eq_of_le hk with h1 | h1
    · simp [okSl, ih (by omega)]
    · subst h1; exact h

theorem slotT_range (size : Int) (zs : List Int) (key : ByteArray) (hv : validT size zs = true) : slotT size zs key = -1 ∨ (0 ≤ slotT size zs key ∧ slotT size zs key < size) := by
  obtain ⟨g1, g2, g3, g4⟩ := validT_size hv
  unfold slotT
  split
  · exact .inl rfl
  · split
    · exact .inl rfl
    · rename_i h _
      right
      have h0 : size ≠ 0 := fun e => h (.inr e)
      have := hval_lt key (zs.getD (hval key 0 zs.length) 0) size.toNat (by omega)
      omega

def checkT (size : Int) (zs : List Int) (keys : List ByteArray) : Bool := validT size zs && decide (size = keys.length) && okSl (keys.map (slotT size zs)) keys.length

theorem set_new (w : World) (T : TypeId) : SetAt (w.alloc (.cells (Array.replicate 16 (.int .u64 0)) T)) w.heap.size (fun _ => false) := by
  refine ⟨fun _ => 0, fun j hj => ⟨by show 0 < _; omega, ?_, ?_⟩, fun i _ => by simp⟩
  · simp [World.cell?, World.alloc, -World.alloc_eq, hj]
  · simp [World.frozen?, World.alloc, -World.alloc_eq]

set_option maxHeartbeats 1000000 in
theorem check_any (size : Int) (ad ad2 : Option Addr) (n c n2 c2 : Nat) (zs : List Int) (keys : List ByteArray) (w : World) (hs : Sl w ad n (ints zs)) (hk : Sl w ad2 n2 (strs keys))
    (hm : ∀ s ∈ keys, s.size ≤ 9223372036854775807) :
    Calls Try.prog 18 #[.agg #[.int .i64 size, .slice ad n c], .slice ad2 n2 c2] w fun e w' => e = .returned (.bool (checkT size zs keys)) ∧ Below w.heap.size w w' := by
  have HS := Lib.hid hs
  have hl := hk.len
  rw [strs_length] at hl
  have hmax := hk.max
  cases hv : validT size zs with
  | false =>
    have HV := Lib.hid hv
    have HR : Hid (checkT size zs keys = false) := by simp [checkT, hv, Hid]
    clear hv hs
    go_enter Try.func18, Try.ntmps18
    go_wp2_with fail
    refine (valid_any _ _ _ _ zs _ (HS.out.alloc _)).mono ?_
    rintro e w1 ⟨rfl, hb⟩
    have hb' : Below w.heap.size w w1 := ((Below.refl _ w).alloc (Nat.le_refl _) _).trans (hb.mono (by simp))
    rw [HV.out]
    clear hb HV
    go_wp2
    go_ret
    exact ⟨ret_bool HR.out.symm, hb'⟩
  | true =>
    have HV := Lib.hid hv
    by_cases hsz : size = (n2 : Int)
    · have HR : Hid (checkT size zs keys = okSl (keys.map (slotT size zs)) n2) := by unfold Hid checkT; rw [hv, hl, hsz]; simp
      obtain ⟨g1, g2, g3, g4⟩ := validT_size hv
      have hn : (size != (n2 : Int)) = false := by simp [hsz]
      have HRG := Lib.hid (fun k => slotT_range size zs k hv)
      have HL := Lib.hid hl
      clear hv hs hl g3 hsz
      obtain ⟨b, off, hk⟩ := hk
      have HK := Lib.hid hk
      have HM := Lib.hid hm
      have hbl : n2 ≠ 0 → b < w.heap.size := fun h => hk.block h
      clear hk hm
      go_enter Try.func18, Try.ntmps18
      go_wp2_with fail
      refine (valid_any _ _ _ _ zs _ (HS.out.alloc _)).mono ?_
      rintro e w1 ⟨rfl, hb⟩
      have hb' : Below w.heap.size w w1 := ((Below.refl _ w).alloc (Nat.le_refl _) _).trans (hb.mono (by simp))
      have hc0 := hb.cell (p := ⟨w.heap.size, 0, none⟩) (by simp)
      have hc1 := hb.cell (p := ⟨w.heap.size, 1, none⟩) (by simp)
      have hz1 : w.heap.size < w1.heap.size := by have := hb.size; simp at this; omega
      rw [HV.out]
      clear hb
      go_wp2_with fail
      go_loopw [21] (fun i wr => ∃ k : Nat, k ≤ n2 ∧ i = .int .i64 k ∧ okSl (keys.map (slotT size zs)) k = true ∧
          SetAt wr w1.heap.size (fun j => ((keys.map (slotT size zs)).take k).any (· == (j : Int))) ∧ Below w1.heap.size w1 wr) (fun i _ => n2 - (intOf i).toNat)
      case atStart => exact ⟨0, Nat.zero_le _, rfl, rfl, (set_new w1 52).congr (fun _ _ => rfl), (Below.refl _ _).alloc (Nat.le_refl _) _⟩
      case round =>
        obtain ⟨k, hkn, rfl, ho, hset, hbr⟩ := hrel
        have HO := Lib.hid ho
        have HSET := Lib.hid hset
        have HBR := Lib.hid hbr
        have hbw := hb'.trans (hbr.mono (by omega))
        have hc0r := (hbr.cell (p := ⟨w.heap.size, 0, none⟩) hz1).trans hc0
        have hc1r := (hbr.cell (p := ⟨w.heap.size, 1, none⟩) hz1).trans hc1
        have hlts := hset.lt
        clear ho hset hbr
        by_cases hlt : k < n2
        · have hix := HK.out.ix (P := Try.prog) (c := c2) 22 9 Try.underlying22 cells9 hlt
          have hcl := HK.out.cell k hlt
          have hks := HM.out _ (getD_mem keys k .empty (by rw [HL.out]; exact hlt))
          rw [strs_getD keys k (by rw [HL.out]; exact hlt)] at hcl
          have hclr := (hbw.cell (p := ⟨b, off + k, none⟩) (hbl (by omega))).trans hcl
          have HGD : Hid ((keys.map (slotT size zs)).getD k 0 = slotT size zs (keys.getD k .empty)) := by
            have : k < keys.length := by rw [HL.out]; exact hlt
            simp [List.getD, List.getElem?_map, List.getElem?_eq_getElem this, Hid]
          have HTK := Lib.hid (fun x : Int => any_take_succ (· == x) (keys.map (slotT size zs)) k (by rw [List.length_map, HL.out]; exact hlt) 0)
          have hr := HRG.out (keys.getD k .empty)
          generalize keys.getD k .empty = key at *
          go_wp2_with fail
          refine (slot_any size ad n c zs key _ (HS.out.below hbw) hks).mono ?_
          rintro e w2 ⟨rfl, hb2⟩
          have HB2 := Lib.hid (HBR.out.trans (hb2.mono (by omega)))
          have HSET2 := Lib.hid (HSET.out.below hb2)
          have HBW2 := Lib.hid (hbw.trans (hb2.mono (by have := hbw.size; omega)))
          clear hb2 hbw hc0r hc1r hclr HBR HSET hlts
          generalize hsv : slotT size zs key = sv at *
          have HSV := Lib.hid hsv
          clear hsv
          by_cases hneg : sv < 0
          · have HF : Hid (okSl (keys.map (slotT size zs)) (k + 1) = false) := by
              have hd : decide (0 ≤ sv) = false := by simp; omega
              simp only [okSl, HGD.out, HO.out, Hid, hd, Bool.false_and, Bool.and_false]
            go_wp2
            go_ret
            exact ⟨ret_bool (by rw [HR.out, okSl_false HF.out hlt]), HBW2.out⟩
          · obtain ⟨i, rfl⟩ : ∃ i : Nat, sv = i := ⟨sv.toNat, by omega⟩
            have hi : i < 1000 := by omega
            cases hin : ((keys.map (slotT size zs)).take k).any (· == (i : Int)) with
            | true =>
              have HIN := Lib.hid hin
              have HF : Hid (okSl (keys.map (slotT size zs)) (k + 1) = false) := by
                simp only [okSl, HGD.out, hin, Hid]
                simp
              clear hin
              go_wp2_with (go_at_call 30; refine (set_has _ i _ _ HSET2.out hi).mono ?_; rintro e w' ⟨rfl, rfl⟩; rw [HIN.out])
              go_ret
              exact ⟨ret_bool (by rw [HR.out, okSl_false HF.out hlt]), HBW2.out⟩
            | false =>
              have HIN := Lib.hid hin
              have HF : Hid (okSl (keys.map (slotT size zs)) (k + 1) = true) := by
                simp only [okSl, HGD.out, hin, HO.out, Hid]
                simp
              clear hin
              go_wp2_with (first
                | (go_at_call 30; refine (set_has _ i _ _ HSET2.out hi).mono ?_; rintro e w' ⟨rfl, rfl⟩; rw [HIN.out])
                | (go_at_call 31; refine (set_add_yes _ i _ _ HSET2.out hi HIN.out).mono ?_; rintro e w3 ⟨rfl, hset3, hg3⟩; have HSET3 := Lib.hid hset3; have HG3 := Lib.hid hg3; clear hset3 hg3))
              go_roundw
              case rel =>
                refine ⟨k + 1, by omega, by go_num, HF.out, HSET3.out.congr (fun j _ => ?_), HB2.out.grown HG3.out (by have := HSET2.out.lt; omega) (fun q hq => by injection hq with hq; omega)⟩
                rw [HTK.out (j : Int), HGD.out]
                simp only [plus]
                congr 1
                rw [Bool.eq_iff_iff]
                simp
                omega
              case measure => simp [intOf]; omega
        · obtain rfl : k = n2 := by omega
          go_wp2
          go_ret
          exact ⟨ret_bool (by rw [HR.out, HO.out]), hbw⟩
    · have HR : Hid (checkT size zs keys = false) := by unfold Hid checkT; rw [hl]; simp [hsz]
      have hn : (size != (n2 : Int)) = true := by simp [hsz]
      clear hv hs hl hsz
      go_enter Try.func18, Try.ntmps18
      go_wp2_with fail
      refine (valid_any _ _ _ _ zs _ (HS.out.alloc _)).mono ?_
      rintro e w1 ⟨rfl, hb⟩
      have hb' : Below w.heap.size w w1 := ((Below.refl _ w).alloc (Nat.le_refl _) _).trans (hb.mono (by simp))
      have hc0 := hb.cell (p := ⟨w.heap.size, 0, none⟩) (by simp)
      rw [HV.out]
      clear hb HV
      go_wp2
      go_ret
      exact ⟨ret_bool HR.out.symm, hb'⟩

end Go.Proofs.Ytboojpmahfjaoaa
