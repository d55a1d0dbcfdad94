/- Walks over a condition in the program: whether it is valid; whether a number lies in spans. -/
import Derived.Test.YtadhblppeaamlaaGreatDoorQ09
import Derived.Test.YtadhblppeaamlaaGreatDoorQ06
import Derived.Test.YtadhblppeaamlaaGreatDoorQ10
namespace Go.Proofs.YtadhblppeaamlaaGreatDoor
open Go.RowKit
attribute [local go_sem] Ext.cell Ext.frozen
attribute [local go_sem ↓] Go.wp_at_zero Go.wp_at_succ

theorem nproper_any (x : Nat → Value) (r : Rel) (w : World) (h : RelC w x r) : Calls Tryz.prog 71 #[.agg #[x 0, x 1, x 2, x 3]] w fun e w' => e = .returned (.bool (!properV r)) ∧ Below w.heap.size w w' := by
  have HP : Hid (∀ W, Below w.heap.size w W → Calls Tryz.prog 72 #[.agg #[x 0, x 1, x 2, x 3]] W fun e w' => e = .returned (.bool (properV r)) ∧ Below W.heap.size W w') := fun W hb => proper_any x r W (h.below hb)
  clear h
  generalize properV r = q at *
  generalize x 0 = x0 at *
  generalize x 1 = x1 at *
  generalize x 2 = x2 at *
  generalize x 3 = x3 at *
  go_enter Tryz.func71, Tryz.ntmps71
  go_wp2_with fail
  refine (HP.out _ ((Below.refl _ _).alloc (Nat.le_refl _) _)).mono ?_
  rintro e w' ⟨rfl, hb⟩
  have HB : Hid (Below w.heap.size w w') := ((Below.refl _ _).alloc (Nat.le_refl _) _).trans (hb.mono (by simp))
  clear hb
  go_wp2_with fail
  go_ret
  exact ⟨by cases q <;> rfl, HB.out⟩
theorem all_any {α : Type} (q : α → Bool) (l : List α) : (l.any fun r => !q r) = !l.all q := by
  induction l with
  | nil => rfl
  | cons a l ih => simp only [List.any_cons, List.all_cons, ih, Bool.not_and]
/-- whether a list has an invalid relation -/
theorem crel_any (v : Value) (l : List Rel) (w : World) (h : RowsOf 4 RelC w v l) : Calls Tryz.prog 70 #[v, .func (.func 71) #[] #[]] w fun e w' => e = .returned (.bool (!l.all properV)) ∧ Below w.heap.size w w' := by
  obtain ⟨ad, c, f, b, off, rfl, hr, _, _, _, hf⟩ := h
  have := cont_Rel (fun i => !properV (l.getD i ⟨0, 0, false, []⟩)) 71 #[] (enters_of Tryz.func71 (by kernel_rfl) rfl) ad l.length c f b off w hr (fun W i hi hb => by
    have h1 := RowsOf.get hf hi ⟨0, 0, false, []⟩
    exact nproper_any (f i) _ W (h1.below hb))
  rw [anyP_list (fun r => !properV r), all_any] at this
  exact this
theorem relN_le {c : List (List Rel)} {M : Nat} (h : ∀ l ∈ c, l.length ≤ M) : relN c ≤ c.length * M := by
  induction c with
  | nil => exact Nat.zero_le _
  | cons a c ih =>
    have h1 := h a (List.mem_cons_self ..)
    have h2 := ih fun l hl => h l (List.mem_cons_of_mem _ hl)
    have : relN (a :: c) = a.length + relN c := by simp [relN]
    rw [this, List.length_cons, Nat.succ_mul]
    omega
set_option maxRecDepth 20000 in
set_option maxHeartbeats 4000000 in
theorem cvalid_any (v : Value) (l : List (List Rel)) (w : World) (h : CondAt w v l) (hl : l.length ≤ 30) : Calls Tryz.prog 51 #[v] w fun e w' => e = .returned (.bool (validC l)) ∧ Below w.heap.size w w' := by
  obtain ⟨ad, c, f, b, off, rfl, hr, _, _, _, hf⟩ := h
  obtain ⟨n, hn⟩ : ∃ n, l.length = n := ⟨_, rfl⟩
  rw [hn] at hr hl ⊢
  have hbig : ∀ k, k ≤ n → relN (l.take k) ≤ 30 * 140737488351232 := fun k hk => by
    have h1 := relN_le (c := l.take k) (M := 140737488351232) fun x hx => by
      obtain ⟨i, hi⟩ := List.getElem?_of_mem (List.mem_of_mem_take hx)
      obtain ⟨_, _, _, _, _, _, _, _, _, h5, _⟩ := hf i x hi
      exact h5
    rw [List.length_take] at h1
    exact Nat.le_trans h1 (Nat.mul_le_mul_right _ (by omega))
  have HN := Lib.hid hn
  have HR := Lib.hid hr
  have HF := Lib.hid hf
  have HBG := Lib.hid hbig
  clear hr hf hn hbig
  obtain ⟨q, hq⟩ : ∃ q, validC l = q := ⟨_, rfl⟩
  rw [hq]
  have HQ := Lib.hid hq
  clear hq
  go_enter Tryz.func51, Tryz.ntmps51
  go_wp2_with fail
  go_loopw [3, 8] (fun u v wr => ∃ k : Nat, v = .int .i64 (k : Int) ∧ k ≤ n ∧ u = .int .i64 (relN (l.take k) : Nat) ∧ (∀ i, i < k → listOk (l.getD i []) = true) ∧ Below w.heap.size w wr) (fun _ v _ => n - (intOf v).toNat)
  case atStart => exact ⟨0, rfl, Nat.zero_le _, rfl, fun i hi => absurd hi (Nat.not_lt_zero _), Below.refl _ _⟩
  case round =>
    obtain ⟨k, rfl, hkn, rfl, hal, hbl⟩ := hrel
    have HAL := Lib.hid hal
    have HBL := Lib.hid hbl
    clear hal hbl
    by_cases hlt : k < n
    · have hrr := HR.out.below HBL.out
      have hix := fun W => hrr.ix 78 94 Tryz.underlying78 (by kernel_rfl) (by omega) hlt c W
      rw [Nat.mul_one] at hix
      have c0 : wr.cell? ⟨b, off + k * 1, none⟩ = some (f k 0) := hrr.cell k 0 hlt (by omega)
      rw [Nat.mul_one] at c0
      have hk0 : k < l.length := by rw [HN.out]; exact hlt
      have HL : Hid (RowsOf 4 RelC wr (f k 0) (l.getD k [])) := (RowsOf.get HF.out hk0 []).below HBL.out
      have hbg := HBG.out (k + 1) hlt
      rw [relN_getD hk0] at hbg
      have HEQ : Hid (relN (l.take (k + 1)) = relN (l.take k) + (l.getD k []).length) := relN_getD hk0
      have HNO : Hid (listOk (l.getD k []) = false → q = false) := fun h => HQ.out.symm.trans (validC_no hk0 h)
      have HYES : Hid (listOk (l.getD k []) = true → ∀ i, i < k + 1 → listOk (l.getD i []) = true) := fun h i hi => by
        by_cases e : i = k
        · subst e; exact h
        · exact HAL.out i (by omega)
      clear hrr hk0
      generalize l.getD k [] = ls at *
      have HC := Lib.hid (crel_any (f k 0) ls wr HL.out)
      obtain ⟨ad2, c2, f2, b2, off2, hv2, _, _, _, _, _⟩ := HL.out
      rw [hv2] at c0
      rw [Hid, hv2] at HC
      have HC := Lib.hid HC
      clear hv2 HL
      generalize relN (l.take k) = s at *
      by_cases h0 : ls.length = 0
      · have HO := Lib.hid (HNO.out (by unfold listOk; rw [List.length_eq_zero_iff.1 h0]; rfl))
        rw [h0] at c0
        clear HNO HYES
        go_wp2_with fail
        go_ret
        exact ⟨by rw [HO.out]; rfl, HBL.out⟩
      · have h1 : ¬ ((ls.length : Int) = 0) := by omega
        have HE : Hid (listOk ls = ls.all properV) := by
          unfold Hid listOk
          cases ls with
          | nil => exact absurd rfl h0
          | cons a r => rfl
        rw [Hid, HE.out] at HNO HYES
        have HNO := Lib.hid HNO
        have HYES := Lib.hid HYES
        generalize ls.length = m at *
        cases hp : ls.all properV with
        | false =>
          have HO := Lib.hid (HNO.out hp)
          rw [Hid, hp] at HC
          have HC := Lib.hid HC
          clear HNO HYES HE hp
          go_wp2_with fail
          refine HC.out.mono ?_
          rintro e w' ⟨rfl, hb⟩
          have HB2 := Lib.hid (HBL.out.trans (hb.mono HBL.out.size))
          clear hb
          go_wp2_with fail
          go_ret
          exact ⟨by rw [HO.out]; rfl, HB2.out⟩
        | true =>
          have HO := Lib.hid (HYES.out hp)
          rw [Hid, hp] at HC
          have HC := Lib.hid HC
          clear HNO HYES HE hp
          go_wp2_with fail
          refine HC.out.mono ?_
          rintro e w' ⟨rfl, hb⟩
          have HB2 := Lib.hid (HBL.out.trans (hb.mono HBL.out.size))
          clear hb
          go_wp2_with fail
          go_roundw
          case rel => exact ⟨k + 1, by go_num, by omega, by rw [HEQ.out]; go_num, HO.out, HB2.out⟩
          case measure => simp [intOf]; omega
    · obtain rfl : k = n := by omega
      have HE : Hid (q = (decide (0 < k) && decide (relN l ≤ 6))) := HQ.out.symm.trans (by rw [← HN.out]; exact validC_end (by rw [HN.out]; exact HAL.out))
      have HT : Hid (relN (l.take k) = relN l) := by unfold Hid; rw [← HN.out, List.take_length]
      rw [HT.out]
      generalize relN l = s at *
      by_cases p1 : 0 < k
      · have p2 : 0 < (k : Int) := by omega
        go_wp2_with fail
        go_ret
        exact ⟨by rw [HE.out, decide_eq_true p1]; simp; omega, HBL.out⟩
      · have p2 : ¬ 0 < (k : Int) := by omega
        go_wp2_with fail
        go_ret
        exact ⟨by rw [HE.out, decide_eq_false p1]; rfl, HBL.out⟩
end Go.Proofs.YtadhblppeaamlaaGreatDoor
/- Walks over a condition in the program: whether it holds for a number. -/
namespace Go.Proofs.YtadhblppeaamlaaGreatDoor
open Go.RowKit
attribute [local go_sem] Ext.cell Ext.frozen
attribute [local go_sem ↓] Go.wp_at_zero Go.wp_at_succ

theorem insp_any (a z : Int) (p : Addr) (n : Int) (W : World) (hp : W.cell? p = some (.int .i64 n)) : Calls Tryz.prog 106 #[.agg #[.int .i64 a, .int .i64 z], .pointer (some p)] W fun e w' => e = .returned (.bool (decide (a ≤ n) && decide (n ≤ z))) ∧ Below W.heap.size W w' := by
  have hlt : p.block < W.heap.size := World.block_lt_of_cell? _ _ hp
  have h9 := fun o => Lib.cell?_alloc_some o hp
  by_cases h1 : a ≤ n
  · by_cases h2 : n ≤ z
    · rw [decide_eq_true h1, decide_eq_true h2]
      go_enter Tryz.func106, Tryz.ntmps106
      go_wp2_with fail
      go_ret
      exact ⟨rfl, (Below.refl _ _).alloc (Nat.le_refl _) _⟩
    · rw [decide_eq_true h1, decide_eq_false h2]
      go_enter Tryz.func106, Tryz.ntmps106
      go_wp2_with fail
      go_ret
      exact ⟨rfl, (Below.refl _ _).alloc (Nat.le_refl _) _⟩
  · rw [decide_eq_false h1]
    go_enter Tryz.func106, Tryz.ntmps106
    go_wp2_with fail
    go_ret
    exact ⟨rfl, (Below.refl _ _).alloc (Nat.le_refl _) _⟩
theorem in_any (v : Value) (l : List (Int × Int)) (n : Int) (w : World) (h : RowsOf 2 SpanC w v l) : Calls Tryz.prog 95 #[v, .int .i64 n] w fun e w' => e = .returned (.bool (insideV l n)) ∧ Below w.heap.size w w' := by
  obtain ⟨ad, c, f, b, off, rfl, hr, _, _, _, hf⟩ := h
  have HC : Hid (∀ e, Calls Tryz.prog 105 #[.slice ad l.length c, .func (.func 106) #[] #[.pointer (some ⟨w.heap.size, 0, none⟩)]] (w.alloc (.cells #[.int .i64 n] e)) fun e' w' => e' = .returned (.bool (insideV l n)) ∧ Below (w.alloc (.cells #[.int .i64 n] e)).heap.size (w.alloc (.cells #[.int .i64 n] e)) w') := fun e => by
    have hb0 : Below w.heap.size w (w.alloc (.cells #[.int .i64 n] e)) := (Below.refl _ _).alloc (Nat.le_refl _) _
    have := cont_Span (fun i => decide ((l.getD i (0, 0)).1 ≤ n) && decide (n ≤ (l.getD i (0, 0)).2)) 106 #[.pointer (some ⟨w.heap.size, 0, none⟩)] (enters_of Tryz.func106 (by kernel_rfl) rfl) ad l.length c f b off (w.alloc (.cells #[.int .i64 n] e)) (hr.below hb0) (fun W i hi hb => by
      obtain ⟨h0, h1⟩ := RowsOf.get hf hi (0, 0)
      rw [h0, h1]
      refine insp_any _ _ ⟨w.heap.size, 0, none⟩ n W ?_
      rw [hb.cell (p := ⟨w.heap.size, 0, none⟩) (by simp)]
      simp [go_sem])
    rw [anyP_list (fun s : Int × Int => decide (s.1 ≤ n) && decide (n ≤ s.2))] at this
    exact this
  generalize insideV l n = q at *
  generalize l.length = m at *
  have hmf : ∀ (fn : Fn) (first cap : Array Value) (w : World), (Instr.makeFunc fn first cap).run Tryz.prog w = .ok (.func fn first cap) w := fun _ _ _ _ => rfl
  go_enter Tryz.func95, Tryz.ntmps95
  go_wp2_with fail
  refine (HC.out _).mono ?_
  rintro e w' ⟨rfl, hb⟩
  have HB : Hid (Below w.heap.size w w') := ((Below.refl _ _).alloc (Nat.le_refl _) _).trans (hb.mono (by simp))
  clear hb
  go_wp2_with fail
  go_ret
  exact ⟨rfl, HB.out⟩
set_option maxRecDepth 20000 in
set_option maxHeartbeats 2000000 in
theorem holds_any (x : Nat → Value) (r : Rel) (s : ByteArray) (w : World) (h : RelC w x r) (hs : s.size ≤ 1000) (hp : properV r = true) : Calls Tryz.prog 79 #[.agg #[x 0, x 1, x 2, x 3], .string s] w fun e w' => e = .returned (.bool (holdsR s.data.toList r)) ∧ Below w.heap.size w w' := by
  obtain ⟨x0, x1, x2, hsp⟩ := h
  have hmd := proper_md hp
  rw [x0, x1, x2]
  obtain ⟨op, md, neg, sp⟩ := r
  simp only at hsp hmd ⊢
  have HOP : Hid (∀ W, Calls Tryz.prog 94 #[.string s, .int .i64 op] W fun e w' => e = .returned (.tuple #[.int .i64 ((opV s.data.toList op).1 : Nat), .int .i64 ((opV s.data.toList op).2 : Nat)]) ∧ Below W.heap.size W w') := fun W => operand_any s op W hs
  have HI : Hid (∀ W z, Below w.heap.size w W → Calls Tryz.prog 95 #[x 3, .int .i64 z] W fun e w' => e = .returned (.bool (insideV sp z)) ∧ Below W.heap.size W w') := fun W z hb => in_any _ sp z W (hsp.map hb fun _ _ h => h)
  have HR : Hid (holdsR s.data.toList ⟨op, md, neg, sp⟩ = if (opV s.data.toList op).2 = 0 then insideV sp (if md = 0 then ((opV s.data.toList op).1 : Int) else ((opV s.data.toList op).1 : Int) % md) != neg else neg) := rfl
  generalize holdsR s.data.toList ⟨op, md, neg, sp⟩ = qq at *
  generalize x 3 = v3 at *
  generalize opV s.data.toList op = ov at *
  obtain ⟨a, er⟩ := ov
  simp only at HR HOP
  clear hsp x0 x1 x2 hp
  by_cases he : er = 0
  · subst he
    rw [Hid, if_pos rfl] at HR
    replace HR := Lib.hid HR
    by_cases hm : md = 0
    · subst hm
      rw [Hid, if_pos rfl] at HR
      replace HR := Lib.hid HR
      replace HI := Lib.hid (fun W hb => HI.out W (a : Int) hb)
      generalize insideV sp (a : Int) = q at *
      clear hmd
      go_enter Tryz.func79, Tryz.ntmps79
      go_wp2_with fail
      refine (Calls.toExt (HOP.out _)).mono ?_
      rintro e _ ⟨rfl, x1, rfl⟩
      have hx1 : w.heap.size < x1.1.heap.size := by have := x1.2.size; simp at this; omega
      go_wp2_with fail
      refine wp_region_ext (by kernel_rfl) (by kernel_rfl) ?_
      repeat (go_big_quiet_step ((go_at_call 95; refine Calls.ext (HI.out _ ?_); show Bel w _; repeat (first | exact Bel.refl _ | refine Bel.drew ?_ | refine Bel.drewN ?_ _ | refine Bel.alloc ?_ _ | refine Bel.ext ?_ _))))
      refine wpQuiet_nil ?_
      intro _ hw'
      obtain ⟨y, hw''⟩ := hw'
      subst hw''
      go_wp2_with fail
      go_ret
      exact ⟨by rw [HR.out]; cases q <;> cases neg <;> rfl, by show Bel w _; repeat (first | exact Bel.refl _ | refine Bel.drew ?_ | refine Bel.drewN ?_ _ | refine Bel.alloc ?_ _ | refine Bel.ext ?_ _)⟩
    · rw [Hid, if_neg hm] at HR
      replace HR := Lib.hid HR
      have h1 : 2 ≤ md ∧ md ≤ 100 := hmd.resolve_left hm
      have hz0 : 0 ≤ (a : Int) % md := Int.emod_nonneg _ hm
      have hz1 : (a : Int) % md < md := Int.emod_lt_of_pos _ (by omega)
      have hq : (a : Int).tmod md = (a : Int) % md := Int.tmod_eq_emod_of_nonneg (by omega)
      replace HI := Lib.hid (fun W hb => HI.out W ((a : Int) % md) hb)
      have hw : IntKind.i64.wrap ((a : Int) % md) = (a : Int) % md := by rw [IntKind.wrap_i64]; omega
      have h30 : (md != 0) = true := by simpa using hm
      generalize insideV sp ((a : Int) % md) = q at *
      generalize (a : Int) % md = z at *
      clear hmd hz0 hz1
      go_enter Tryz.func79, Tryz.ntmps79
      go_wp2_with fail
      refine (Calls.toExt (HOP.out _)).mono ?_
      rintro e _ ⟨rfl, x1, rfl⟩
      have hx1 : w.heap.size < x1.1.heap.size := by have := x1.2.size; simp at this; omega
      go_wp2_with fail
      refine wp_region_ext (by kernel_rfl) (by kernel_rfl) ?_
      repeat (go_big_quiet_step ((go_at_call 95; refine Calls.ext (HI.out _ ?_); show Bel w _; repeat (first | exact Bel.refl _ | refine Bel.drew ?_ | refine Bel.drewN ?_ _ | refine Bel.alloc ?_ _ | refine Bel.ext ?_ _))))
      refine wpQuiet_nil ?_
      intro _ hw'
      obtain ⟨y, hw''⟩ := hw'
      subst hw''
      go_wp2_with fail
      go_ret
      exact ⟨by rw [HR.out]; cases q <;> cases neg <;> rfl, by show Bel w _; repeat (first | exact Bel.refl _ | refine Bel.drew ?_ | refine Bel.drewN ?_ _ | refine Bel.alloc ?_ _ | refine Bel.ext ?_ _)⟩
  · rw [Hid, if_neg he] at HR
    replace HR := Lib.hid HR
    have h1 : ((er : Int) != 0) = true := by simpa using he
    clear he hmd HI
    go_enter Tryz.func79, Tryz.ntmps79
    go_wp2_with fail
    refine (Calls.toExt (HOP.out _)).mono ?_
    rintro e _ ⟨rfl, x1, rfl⟩
    go_wp2_with fail
    go_ret
    exact ⟨by rw [HR.out]; rfl, by show Bel w _; repeat (first | exact Bel.refl _ | refine Bel.drew ?_ | refine Bel.drewN ?_ _ | refine Bel.alloc ?_ _ | refine Bel.ext ?_ _)⟩
end Go.Proofs.YtadhblppeaamlaaGreatDoor
/- Walks over a condition in the program: whether it holds for a number, and the error. -/
namespace Go.Proofs.YtadhblppeaamlaaGreatDoor
open Go.RowKit
attribute [local go_sem] Ext.cell Ext.frozen
attribute [local go_sem ↓] Go.wp_at_zero Go.wp_at_succ

/-- whether a condition holds, and the error -/
def holdsV (s : List UInt8) (c : List (List Rel)) : Bool × Nat := if validC c && dOk s then (holdsC s c, 0) else (false, 1)
theorem nholds_any (x : Nat → Value) (r : Rel) (s : ByteArray) (p : Addr) (w : World) (h : RelC w x r) (hs : s.size ≤ 1000) (hp : properV r = true) (hc : w.cell? p = some (.string s)) :
    Calls Tryz.prog 78 #[.agg #[x 0, x 1, x 2, x 3], .pointer (some p)] w fun e w' => e = .returned (.bool (!holdsR s.data.toList r)) ∧ Below w.heap.size w w' := by
  have HP : Hid (∀ W, Below w.heap.size w W → Calls Tryz.prog 79 #[.agg #[x 0, x 1, x 2, x 3], .string s] W fun e w' => e = .returned (.bool (holdsR s.data.toList r)) ∧ Below W.heap.size W w') := fun W hb => holds_any x r s W (h.below hb) hs hp
  have hlt : p.block < w.heap.size := World.block_lt_of_cell? _ _ hc
  have h9 := fun o => Lib.cell?_alloc_some o hc
  clear h hp hs
  generalize holdsR s.data.toList r = q at *
  generalize x 0 = x0 at *
  generalize x 1 = x1 at *
  generalize x 2 = x2 at *
  generalize x 3 = x3 at *
  go_enter Tryz.func78, Tryz.ntmps78
  go_wp2_with fail
  refine (HP.out _ ((Below.refl _ _).alloc (Nat.le_refl _) _)).mono ?_
  rintro e w' ⟨rfl, hb⟩
  have HB : Hid (Below w.heap.size w w') := ((Below.refl _ _).alloc (Nat.le_refl _) _).trans (hb.mono (by simp))
  clear hb
  go_wp2_with fail
  go_ret
  exact ⟨by cases q <;> rfl, HB.out⟩
theorem lholds_any (v : Value) (l : List Rel) (s : ByteArray) (p : Addr) (w : World) (h : RowsOf 4 RelC w v l) (hs : s.size ≤ 1000) (hp : ∀ r ∈ l, properV r = true) (hc : w.cell? p = some (.string s)) :
    Calls Tryz.prog 77 #[v, .pointer (some p)] w fun e w' => e = .returned (.bool (l.all (holdsR s.data.toList))) ∧ Below w.heap.size w w' := by
  obtain ⟨ad, c, f, b, off, rfl, hr, _, _, _, hf⟩ := h
  have hlt : p.block < w.heap.size := World.block_lt_of_cell? _ _ hc
  have HC : Hid (Calls Tryz.prog 70 #[.slice ad l.length c, .func (.func 78) #[] #[.pointer (some p)]] w fun e w' => e = .returned (.bool (!l.all (holdsR s.data.toList))) ∧ Below w.heap.size w w') := by
    have := cont_Rel (fun i => !holdsR s.data.toList (l.getD i ⟨0, 0, false, []⟩)) 78 #[.pointer (some p)] (enters_of Tryz.func78 (by kernel_rfl) rfl) ad l.length c f b off w hr (fun W i hi hb => by
      have h1 := RowsOf.get hf hi ⟨0, 0, false, []⟩
      exact nholds_any (f i) _ s p W (h1.below hb) hs (hp _ (getD_mem l i _ hi)) ((hb.cell hlt).trans hc))
    rw [anyP_list (fun r => !holdsR s.data.toList r), all_any] at this
    exact this
  clear hf hr hp hs
  generalize l.all (holdsR s.data.toList) = q at *
  generalize l.length = m at *
  have hmf : ∀ (fn : Fn) (first cap : Array Value) (w : World), (Instr.makeFunc fn first cap).run Tryz.prog w = .ok (.func fn first cap) w := fun _ _ _ _ => rfl
  go_enter Tryz.func77, Tryz.ntmps77
  go_wp2_with fail
  refine HC.out.mono ?_
  rintro e w' ⟨rfl, hb⟩
  have HB := Lib.hid hb
  clear hb
  go_wp2_with fail
  go_ret
  exact ⟨by cases q <;> rfl, HB.out⟩
theorem cholds_any (v : Value) (c : List (List Rel)) (s : ByteArray) (w : World) (h : CondAt w v c) (hl : c.length ≤ 30) (hs : s.size ≤ 1000) :
    Calls Tryz.prog 64 #[v, .string s] w fun e w' => e = .returned (.tuple #[.bool (holdsV s.data.toList c).1, .int .i64 ((holdsV s.data.toList c).2 : Nat)]) ∧ Below w.heap.size w w' := by
  have HV : Hid (∀ W, Below w.heap.size w W → Calls Tryz.prog 51 #[v] W fun e w' => e = .returned (.bool (validC c)) ∧ Below W.heap.size W w') := fun W hb => cvalid_any v c W (h.below hb) hl
  have HD := Lib.hid (fun W => valid_any s W hs)
  cases hv : validC c with
  | false =>
    have HO : Hid (holdsV s.data.toList c = (false, 1)) := by unfold Hid holdsV; rw [hv]; rfl
    rw [Hid, hv] at HV
    replace HV := Lib.hid HV
    generalize holdsV s.data.toList c = q at *
    clear h
    go_enter Tryz.func64, Tryz.ntmps64
    go_wp2_with fail
    refine (HV.out _ ((Below.refl _ _).alloc (Nat.le_refl _) _)).mono ?_
    rintro e w' ⟨rfl, hb⟩
    have HB : Hid (Below w.heap.size w w') := ((Below.refl _ _).alloc (Nat.le_refl _) _).trans (hb.mono (by simp))
    clear hb
    go_wp2_with fail
    go_ret2
    exact ⟨by rw [HO.out]; rfl, HB.out⟩
  | true =>
    have hpr := validC_all hv
    rw [Hid, hv] at HV
    replace HV := Lib.hid HV
    cases hd : dOk s.data.toList with
    | false =>
      have HO : Hid (holdsV s.data.toList c = (false, 1)) := by unfold Hid holdsV; rw [hv, hd]; rfl
      rw [Hid, hd] at HD
      replace HD := Lib.hid HD
      generalize holdsV s.data.toList c = q at *
      clear h hpr
      go_enter Tryz.func64, Tryz.ntmps64
      go_wp2_with fail
      refine (Calls.toExt (HV.out _ ((Below.refl _ _).alloc (Nat.le_refl _) _))).mono ?_
      rintro e _ ⟨rfl, x1, rfl⟩
      go_wp2_with fail
      refine (Calls.toExt (HD.out _)).mono ?_
      rintro e _ ⟨rfl, x2, rfl⟩
      go_wp2_with fail
      go_ret2
      exact ⟨by rw [HO.out]; rfl, by show Bel w _; exact ((Bel.refl _).alloc _).ext x1 |>.ext x2⟩
    | true =>
      have HO : Hid (holdsV s.data.toList c = (holdsC s.data.toList c, 0)) := by unfold Hid holdsV; rw [hv, hd]; rfl
      rw [Hid, hd] at HD
      replace HD := Lib.hid HD
      obtain ⟨ad, c2, f, b, off, rfl, hr, _, _, _, hf⟩ := h
      have HC : Hid (∀ W, Below w.heap.size w W → W.cell? ⟨w.heap.size, 0, none⟩ = some (.string s) → Calls Tryz.prog 76 #[.slice ad c.length c2, .func (.func 77) #[] #[.pointer (some ⟨w.heap.size, 0, none⟩)]] W fun e w' => e = .returned (.bool (holdsC s.data.toList c)) ∧ Below W.heap.size W w') := fun W hb hc => by
        have hlt : w.heap.size < W.heap.size := World.block_lt_of_cell? _ _ hc
        have := cont_Rels (fun i => (c.getD i []).all (holdsR s.data.toList)) 77 #[.pointer (some ⟨w.heap.size, 0, none⟩)] (enters_of Tryz.func77 (by kernel_rfl) rfl) ad c.length c2 f b off W (hr.below hb) (fun W2 i hi hb2 => by
          have h1 : RowsOf 4 RelC w (f i 0) (c.getD i []) := RowsOf.get hf hi []
          exact lholds_any (f i 0) _ s ⟨w.heap.size, 0, none⟩ W2 ((RelsC.below (x := fun _ => f i 0) h1 hb).below hb2) hs (hpr _ (getD_mem c i _ hi)) ((hb2.cell (p := ⟨w.heap.size, 0, none⟩) hlt).trans hc))
        rw [anyP_list (fun l : List Rel => l.all (holdsR s.data.toList))] at this
        exact this
      generalize holdsV s.data.toList c = q at *
      generalize holdsC s.data.toList c = qc at *
      generalize c.length = m at *
      clear hr hf hpr
      have hmf : ∀ (fn : Fn) (first cap : Array Value) (w : World), (Instr.makeFunc fn first cap).run Tryz.prog w = .ok (.func fn first cap) w := fun _ _ _ _ => rfl
      go_enter Tryz.func64, Tryz.ntmps64
      go_wp2_with fail
      refine (Calls.toExt (HV.out _ ((Below.refl _ _).alloc (Nat.le_refl _) _))).mono ?_
      rintro e _ ⟨rfl, x1, rfl⟩
      have hx1 : w.heap.size < x1.1.heap.size := by have := x1.2.size; simp at this; omega
      go_wp2_with fail
      refine (Calls.toExt (HD.out _)).mono ?_
      rintro e _ ⟨rfl, x2, rfl⟩
      go_wp2_with fail
      refine (Calls.toExt (HC.out _ ?hq1 ?hq2)).mono ?_
      case hq1 => show Bel w _; exact ((Bel.refl _).alloc _).ext x1 |>.ext x2
      case hq2 => simp [go_sem, hx1]
      rintro e _ ⟨rfl, x3, rfl⟩
      go_wp2_with fail
      go_ret2
      exact ⟨by rw [HO.out]; rfl, by show Bel w _; exact (((Bel.refl _).alloc _).ext x1 |>.ext x2).ext x3⟩
end Go.Proofs.YtadhblppeaamlaaGreatDoor
/- Walks over a condition in the reference. -/
namespace Go.Proofs.YtadhblppeaamlaaGreatDoor
open Go.RowKit
attribute [local go_sem] Ext.cell Ext.frozen
attribute [local go_sem ↓] Go.wp_at_zero Go.wp_at_succ

/-- a truth value, the world as it was; if it is true, P holds -/
def BoolIf (w : World) (P : Prop) (e : Ending) (w' : World) : Prop := ∃ q : Bool, e = .returned (.bool q) ∧ w = w' ∧ (q = true → P)
theorem insideV_hit {l : List (Int × Int)} {n : Int} {k : Nat} (hk : k < l.length) (h1 : (l.getD k (0, 0)).1 ≤ n) (h2 : n ≤ (l.getD k (0, 0)).2) : insideV l n = true := by
  unfold insideV; exact any_getD (0, 0) hk (by rw [Bool.and_eq_true, decide_eq_true_eq, decide_eq_true_eq]; exact ⟨h1, h2⟩)
theorem insideV_miss {l : List (Int × Int)} {n : Int} (h : ∀ i, i < l.length → ¬ ((l.getD i (0, 0)).1 ≤ n ∧ n ≤ (l.getD i (0, 0)).2)) : insideV l n = false := by
  unfold insideV
  refine any_not (0, 0) fun i hi => ?_
  rw [← Bool.not_eq_true, Bool.and_eq_true, decide_eq_true_eq, decide_eq_true_eq]
  exact h i hi
set_option maxRecDepth 20000 in
theorem rinside_any (v : Value) (l : List (Int × Int)) (z : Int) (w : World) (h : RowsOf 2 SpanC w v l) : Calls Tryz.prog 97 #[v, .int .i64 z] w fun e w' => e = .returned (.bool (insideV l z)) ∧ w = w' := by
  obtain ⟨ad, c, f, b, off, rfl, hr, _, _, _, hf⟩ := h
  obtain ⟨n, hn⟩ : ∃ n, l.length = n := ⟨_, rfl⟩
  rw [hn] at hr ⊢
  have hnm := hr.max
  have HN := Lib.hid hn
  have HR := Lib.hid hr
  have HF := Lib.hid hf
  clear hr hf hn
  obtain ⟨q, hq⟩ : ∃ q, insideV l z = q := ⟨_, rfl⟩
  rw [hq]
  have HQ := Lib.hid hq
  clear hq
  go_enter Tryz.func97, Tryz.ntmps97
  go_wp2_with fail
  go_loop [5] (fun v => ∃ k : Nat, v = .int .i64 (k : Int) ∧ k ≤ n ∧ (∀ i, i < k → ¬ ((l.getD i (0, 0)).1 ≤ z ∧ z ≤ (l.getD i (0, 0)).2))) (fun v => n - (intOf v).toNat)
  case atStart => exact ⟨0, rfl, Nat.zero_le _, fun i hi => absurd hi (Nat.not_lt_zero _)⟩
  case round =>
    obtain ⟨k, rfl, hkn, hal⟩ := hrel
    have HAL := Lib.hid hal
    clear hal
    by_cases hlt : k < n
    · have hix := fun W => HR.out.ix 91 90 Tryz.underlying91 (by kernel_rfl) (by omega) hlt c W
      have hk0 : k < l.length := by rw [HN.out]; exact hlt
      have c0 : w.cell? ⟨b, off + k * 2, none⟩ = some (f k 0) := HR.out.cell k 0 hlt (by omega)
      have c1 : w.cell? ⟨b, off + k * 2 + 1, none⟩ = some (f k 1) := HR.out.cell k 1 hlt (by omega)
      obtain ⟨f0, f1⟩ := RowsOf.get HF.out hk0 (0, 0)
      rw [f0] at c0
      rw [f1] at c1
      have HHIT : Hid ((l.getD k (0, 0)).1 ≤ z → z ≤ (l.getD k (0, 0)).2 → q = true) := fun h1 h2 => HQ.out.symm.trans (insideV_hit hk0 h1 h2)
      have HMISS : Hid (¬ ((l.getD k (0, 0)).1 ≤ z ∧ z ≤ (l.getD k (0, 0)).2) → ∀ i, i < k + 1 → ¬ ((l.getD i (0, 0)).1 ≤ z ∧ z ≤ (l.getD i (0, 0)).2)) := fun h i hi => by
        by_cases e : i = k
        · subst e; exact h
        · exact HAL.out i (by omega)
      clear f0 f1 hk0
      generalize l.getD k (0, 0) = s at *
      obtain ⟨a, t⟩ := s
      simp only at c0 c1 HHIT HMISS
      by_cases q1 : a ≤ z
      · by_cases q2 : z ≤ t
        · have HO := Lib.hid (HHIT.out q1 q2)
          clear HHIT HMISS
          go_wp2_with fail
          go_ret
          exact ⟨by rw [HO.out]; rfl, rfl⟩
        · have HO := Lib.hid (HMISS.out fun h => q2 h.2)
          clear HHIT HMISS
          go_wp2_with fail
          go_round
          case rel => exact ⟨k + 1, by go_num, by omega, HO.out⟩
          case measure => simp [intOf]; omega
      · have HO := Lib.hid (HMISS.out fun h => q1 h.1)
        clear HHIT HMISS
        go_wp2_with fail
        go_round
        case rel => exact ⟨k + 1, by go_num, by omega, HO.out⟩
        case measure => simp [intOf]; omega
    · obtain rfl : k = n := by omega
      have HO : Hid (q = false) := HQ.out.symm.trans (insideV_miss (by rw [HN.out]; exact HAL.out))
      go_wp2_with fail
      go_ret
      exact ⟨by rw [HO.out]; rfl, rfl⟩
theorem rinside_b (v : Value) (l : List (Int × Int)) (z : Int) (w : World) (h : RowsOf 2 SpanC w v l) : Calls Tryz.prog 97 #[v, .int .i64 z] w fun e w' => e = .returned (.bool (insideV l z)) ∧ Below w.heap.size w w' :=
  (rinside_any v l z w h).mono fun _ _ h => ⟨h.1, h.2 ▸ Below.refl _ _⟩
set_option maxRecDepth 20000 in
set_option maxHeartbeats 2000000 in
theorem rholdsr_any (x : Nat → Value) (r : Rel) (s : ByteArray) (w : World) (h : RelC w x r) (hs : s.size ≤ 1000) (hp : properV r = true) : Calls Tryz.prog 82 #[.agg #[x 0, x 1, x 2, x 3], .string s] w fun e w' => e = .returned (.bool (holdsR s.data.toList r)) ∧ Below w.heap.size w w' := by
  obtain ⟨x0, x1, x2, hsp⟩ := h
  have hmd := proper_md hp
  rw [x0, x1, x2]
  obtain ⟨op, md, neg, sp⟩ := r
  simp only at hsp hmd ⊢
  have HOP : Hid (∀ W, Calls Tryz.prog 96 #[.string s, .int .i64 op] W fun e w' => e = .returned (.tuple #[.int .i64 ((opV s.data.toList op).1 : Nat), .int .i64 ((opV s.data.toList op).2 : Nat)]) ∧ Below W.heap.size W w') := fun W => roperand_any s op W hs
  have HI : Hid (∀ W z, Below w.heap.size w W → Calls Tryz.prog 97 #[x 3, .int .i64 z] W fun e w' => e = .returned (.bool (insideV sp z)) ∧ Below W.heap.size W w') := fun W z hb => rinside_b _ sp z W (hsp.map hb fun _ _ h => h)
  have HR : Hid (holdsR s.data.toList ⟨op, md, neg, sp⟩ = if (opV s.data.toList op).2 = 0 then insideV sp (if md = 0 then ((opV s.data.toList op).1 : Int) else ((opV s.data.toList op).1 : Int) % md) != neg else neg) := rfl
  generalize holdsR s.data.toList ⟨op, md, neg, sp⟩ = qq at *
  generalize x 3 = v3 at *
  generalize opV s.data.toList op = ov at *
  obtain ⟨a, er⟩ := ov
  simp only at HR HOP
  clear hsp x0 x1 x2 hp
  by_cases he : er = 0
  · subst he
    rw [Hid, if_pos rfl] at HR
    replace HR := Lib.hid HR
    by_cases hm : md = 0
    · subst hm
      rw [Hid, if_pos rfl] at HR
      replace HR := Lib.hid HR
      replace HI := Lib.hid (fun W hb => HI.out W (a : Int) hb)
      generalize insideV sp (a : Int) = q at *
      clear hmd
      go_enter Tryz.func82, Tryz.ntmps82
      go_wp2_with fail
      refine (Calls.toExt (HOP.out _)).mono ?_
      rintro e _ ⟨rfl, x1, rfl⟩
      have hx1 : w.heap.size < x1.1.heap.size := by have := x1.2.size; simp at this; omega
      go_wp2_with fail
      refine wp_region_ext (by kernel_rfl) (by kernel_rfl) ?_
      repeat (go_big_quiet_step ((go_at_call 97; refine Calls.ext (HI.out _ ?_); show Bel w _; repeat (first | exact Bel.refl _ | refine Bel.drew ?_ | refine Bel.drewN ?_ _ | refine Bel.alloc ?_ _ | refine Bel.ext ?_ _))))
      refine wpQuiet_nil ?_
      intro _ hw'
      obtain ⟨y, hw''⟩ := hw'
      subst hw''
      go_wp2_with fail
      go_ret
      exact ⟨by rw [HR.out]; cases q <;> cases neg <;> rfl, by show Bel w _; repeat (first | exact Bel.refl _ | refine Bel.drew ?_ | refine Bel.drewN ?_ _ | refine Bel.alloc ?_ _ | refine Bel.ext ?_ _)⟩
    · rw [Hid, if_neg hm] at HR
      replace HR := Lib.hid HR
      have h1 : 2 ≤ md ∧ md ≤ 100 := hmd.resolve_left hm
      have hz0 : 0 ≤ (a : Int) % md := Int.emod_nonneg _ hm
      have hz1 : (a : Int) % md < md := Int.emod_lt_of_pos _ (by omega)
      have hq : (a : Int).tmod md = (a : Int) % md := Int.tmod_eq_emod_of_nonneg (by omega)
      replace HI := Lib.hid (fun W hb => HI.out W ((a : Int) % md) hb)
      have hw : IntKind.i64.wrap ((a : Int) % md) = (a : Int) % md := by rw [IntKind.wrap_i64]; omega
      have h30 : (md != 0) = true := by simpa using hm
      generalize insideV sp ((a : Int) % md) = q at *
      generalize (a : Int) % md = z at *
      clear hmd hz0 hz1
      go_enter Tryz.func82, Tryz.ntmps82
      go_wp2_with fail
      refine (Calls.toExt (HOP.out _)).mono ?_
      rintro e _ ⟨rfl, x1, rfl⟩
      have hx1 : w.heap.size < x1.1.heap.size := by have := x1.2.size; simp at this; omega
      go_wp2_with fail
      refine wp_region_ext (by kernel_rfl) (by kernel_rfl) ?_
      repeat (go_big_quiet_step ((go_at_call 97; refine Calls.ext (HI.out _ ?_); show Bel w _; repeat (first | exact Bel.refl _ | refine Bel.drew ?_ | refine Bel.drewN ?_ _ | refine Bel.alloc ?_ _ | refine Bel.ext ?_ _))))
      refine wpQuiet_nil ?_
      intro _ hw'
      obtain ⟨y, hw''⟩ := hw'
      subst hw''
      go_wp2_with fail
      go_ret
      exact ⟨by rw [HR.out]; cases q <;> cases neg <;> rfl, by show Bel w _; repeat (first | exact Bel.refl _ | refine Bel.drew ?_ | refine Bel.drewN ?_ _ | refine Bel.alloc ?_ _ | refine Bel.ext ?_ _)⟩
  · rw [Hid, if_neg he] at HR
    replace HR := Lib.hid HR
    have h1 : ((er : Int) != 0) = true := by simpa using he
    clear he hmd HI
    go_enter Tryz.func82, Tryz.ntmps82
    go_wp2_with fail
    refine (Calls.toExt (HOP.out _)).mono ?_
    rintro e _ ⟨rfl, x1, rfl⟩
    go_wp2_with fail
    go_ret
    exact ⟨by rw [HR.out]; rfl, by show Bel w _; repeat (first | exact Bel.refl _ | refine Bel.drew ?_ | refine Bel.drewN ?_ _ | refine Bel.alloc ?_ _ | refine Bel.ext ?_ _)⟩
set_option maxRecDepth 20000 in
set_option maxHeartbeats 1000000 in
theorem cfewl_any (v : Value) (l : List (List Rel)) (w : World) (h : CondAt w v l) : Calls Tryz.prog 65 #[v] w (BoolIf w (l.length ≤ 30)) := by
  obtain ⟨ad, c, f, b, off, rfl, hr, _, _, _, hf0⟩ := h
  have hf : ∀ i, i < l.length → RelRows w (f i 0) := fun i hi => by
    obtain ⟨ad2, c2, f2, b2, off2, h1, h2, _, _, _, h5⟩ := RowsOf.get hf0 hi []
    exact ⟨ad2, _, c2, f2, b2, off2, h1, h2, fun j hj => by
      obtain ⟨_, _, _, ad3, c3, f3, b3, off3, h6, h7, _⟩ := RowsOf.get h5 hj ⟨0, 0, false, []⟩
      exact ⟨ad3, _, c3, h6, h7.max⟩⟩
  generalize l.length = n at *
  clear hf0
  have HR := Lib.hid hr
  have HF := Lib.hid hf
  have hnm := hr.max
  clear hr hf
  go_enter Tryz.func65, Tryz.ntmps65
  go_wp2_with fail
  go_loop [3, 4] (fun u v => ∃ (k : Nat) (z : Int), v = .int .i64 (k : Int) ∧ k ≤ n ∧ u = .int .i64 z) (fun _ v => n - (intOf v).toNat)
  case atStart => exact ⟨0, 0, rfl, Nat.zero_le _, rfl⟩
  case round =>
    obtain ⟨k, z, rfl, hkn, rfl⟩ := hrel
    by_cases hlt : k < n
    · have hix := fun W => HR.out.ix 78 94 Tryz.underlying78 (by kernel_rfl) (by omega) hlt c W
      rw [Nat.mul_one] at hix
      have hc := HR.out.cell k 0 hlt (by omega)
      rw [Nat.mul_one, Nat.add_zero] at hc
      obtain ⟨ad2, n2, c2, f2, b2, off2, hv2, hr2, hs2⟩ := HF.out k hlt
      rw [hv2] at hc
      have HR2 := Lib.hid hr2
      have HS2 := Lib.hid hs2
      have hnm2 := hr2.max
      clear hv2 hr2 hs2
      go_wp2_with fail
      go_loop [3, 5] (fun u v => ∃ (q : Nat) (z : Int), v = .int .i64 (q : Int) ∧ q ≤ n2 ∧ u = .int .i64 z) (fun _ v => n2 - (intOf v).toNat)
      case atStart => exact ⟨0, z, rfl, Nat.zero_le _, rfl⟩
      case round =>
        obtain ⟨q, z2, rfl, hqn, rfl⟩ := hrel
        by_cases hlt2 : q < n2
        · have hix2 := fun W => HR2.out.ix 94 93 Tryz.underlying94 (by kernel_rfl) (by omega) hlt2 c2 W
          obtain ⟨a3, m3, c3, h3, hm3⟩ := HS2.out q hlt2
          have hc2 := HR2.out.cell q 3 hlt2 (by omega)
          rw [h3] at hc2
          clear h3
          go_wp2_with fail
          go_round
          case rel => exact ⟨q + 1, _, by go_num, by omega, rfl⟩
          case measure => simp [intOf]; omega
        · obtain rfl : q = n2 := by omega
          by_cases h80 : 80 < z2
          · go_wp2_with fail
            go_ret
            exact ⟨false, rfl, rfl, fun h => (by cases h)⟩
          · go_wp2_with fail
            go_round
            case rel => exact ⟨k + 1, z2, by go_num, by omega, rfl⟩
            case measure => simp [intOf]; omega
    · obtain rfl : k = n := by omega
      go_wp2_with fail
      go_ret
      exact ⟨_, rfl, rfl, fun h => by have := of_decide_eq_true h; omega⟩
end Go.Proofs.YtadhblppeaamlaaGreatDoor
/- Walks over a condition in the reference: whether it is valid, whether it holds. -/
namespace Go.Proofs.YtadhblppeaamlaaGreatDoor
open Go.RowKit
attribute [local go_sem] Ext.cell Ext.frozen
attribute [local go_sem ↓] Go.wp_at_zero Go.wp_at_succ

theorem listOk_ne {l : List Rel} (h0 : l.length ≠ 0) : listOk l = l.all properV := by
  unfold listOk
  cases l with
  | nil => exact absurd rfl h0
  | cons a r => rfl
set_option maxRecDepth 20000 in
set_option maxHeartbeats 4000000 in
theorem rcvalid_any (v : Value) (l : List (List Rel)) (w : World) (h : CondAt w v l) (hl : l.length ≤ 30) : Calls Tryz.prog 58 #[v] w fun e w' => e = .returned (.bool (validC l)) ∧ Below w.heap.size w w' := by
  obtain ⟨ad, c, f, b, off, rfl, hr, _, _, _, hf⟩ := h
  obtain ⟨n, hn⟩ : ∃ n, l.length = n := ⟨_, rfl⟩
  rw [hn] at hr hl ⊢
  have hbig : ∀ k, k ≤ n → relN (l.take k) ≤ 30 * 140737488351232 := fun k hk => by
    have h1 := relN_le (c := l.take k) (M := 140737488351232) fun x hx => by
      obtain ⟨i, hi⟩ := List.getElem?_of_mem (List.mem_of_mem_take hx)
      obtain ⟨_, _, _, _, _, _, _, _, _, h5, _⟩ := hf i x hi
      exact h5
    rw [List.length_take] at h1
    exact Nat.le_trans h1 (Nat.mul_le_mul_right _ (by omega))
  have HN := Lib.hid hn
  have HR := Lib.hid hr
  have HF := Lib.hid hf
  have HBG := Lib.hid hbig
  clear hr hf hn hbig
  obtain ⟨q, hq⟩ : ∃ q, validC l = q := ⟨_, rfl⟩
  rw [hq]
  have HQ := Lib.hid hq
  clear hq
  go_enter Tryz.func58, Tryz.ntmps58
  go_wp2_with fail
  go_loopw [3, 4] (fun u v wr => ∃ k : Nat, v = .int .i64 (k : Int) ∧ k ≤ n ∧ u = .int .i64 (relN (l.take k) : Nat) ∧ (∀ i, i < k → listOk (l.getD i []) = true) ∧ Below w.heap.size w wr) (fun _ v _ => n - (intOf v).toNat)
  case atStart => exact ⟨0, rfl, Nat.zero_le _, rfl, fun i hi => absurd hi (Nat.not_lt_zero _), Below.refl _ _⟩
  case round =>
    obtain ⟨wo, rfl⟩ : ∃ wo : World, wo = wr := ⟨_, rfl⟩
    obtain ⟨k, rfl, hkn, rfl, hal, hbl⟩ := hrel
    have HAL := Lib.hid hal
    have HBL := Lib.hid hbl
    have hzr := hbl.size
    clear hal hbl
    by_cases hlt : k < n
    · have hrr := HR.out.below HBL.out
      have hix := fun W => hrr.ix 78 94 Tryz.underlying78 (by kernel_rfl) (by omega) hlt c W
      rw [Nat.mul_one] at hix
      have c0 : wo.cell? ⟨b, off + k * 1, none⟩ = some (f k 0) := hrr.cell k 0 hlt (by omega)
      rw [Nat.mul_one] at c0
      have hk0 : k < l.length := by rw [HN.out]; exact hlt
      obtain ⟨ad2, c2, f2, b2, off2, hv2, hr2, _, _, hm5, hf2⟩ := (RowsOf.get HF.out hk0 [] : RelsC w (f k) _).below HBL.out
      rw [hv2] at c0
      have hbg := HBG.out (k + 1) hlt
      rw [relN_getD hk0] at hbg
      have HEQ : Hid (relN (l.take (k + 1)) = relN (l.take k) + (l.getD k []).length) := relN_getD hk0
      have HNO : Hid (listOk (l.getD k []) = false → q = false) := fun h => HQ.out.symm.trans (validC_no hk0 h)
      have HYES : Hid (listOk (l.getD k []) = true → ∀ i, i < k + 1 → listOk (l.getD i []) = true) := fun h i hi => by
        by_cases e : i = k
        · subst e; exact h
        · exact HAL.out i (by omega)
      clear hrr hk0 hv2
      generalize l.getD k [] = ls at *
      obtain ⟨m, hm⟩ : ∃ m, ls.length = m := ⟨_, rfl⟩
      rw [hm] at hr2 c0 hbg hm5
      rw [Hid, hm] at HEQ
      replace HEQ := Lib.hid HEQ
      have HM := Lib.hid hm
      have HR2 := Lib.hid hr2
      have HF2 := Lib.hid hf2
      have C0 := Lib.hid c0
      have hbz : b < wo.heap.size := World.block_lt_of_cell? _ _ c0
      clear hm hr2 hf2
      generalize relN (l.take k) = s at *
      by_cases h0 : m = 0
      · subst h0
        have HO := Lib.hid (HNO.out (by unfold listOk; rw [List.length_eq_zero_iff.1 HM.out]; rfl))
        clear HNO HYES
        go_wp2_with fail
        go_ret
        exact ⟨by rw [HO.out]; rfl, HBL.out⟩
      · have h1 : ¬ ((m : Int) = 0) := by omega
        have e0 : ((m : Int) == 0) = false := by rw [beq_eq_false_iff_ne]; exact h1
        have HE : Hid (listOk ls = ls.all properV) := listOk_ne (by rw [HM.out]; exact h0)
        rw [Hid, HE.out] at HNO HYES
        replace HNO := Lib.hid HNO
        replace HYES := Lib.hid HYES
        clear HE c0
        have c0 := C0.out
        go_wp2_with fail
        go_loopw [3, 5] (fun u v wi => ∃ j : Nat, v = .int .i64 (j : Int) ∧ j ≤ m ∧ u = .int .i64 ((s + j : Nat) : Int) ∧ (∀ i, i < j → properV (ls.getD i ⟨0, 0, false, []⟩) = true) ∧ Below wo.heap.size wo wi) (fun _ v _ => m - (intOf v).toNat)
        case atStart => exact ⟨0, rfl, Nat.zero_le _, rfl, fun i hi => absurd hi (Nat.not_lt_zero _), Below.refl _ _⟩
        case round =>
          obtain ⟨wi, rfl⟩ : ∃ wi : World, wi = wr := ⟨_, rfl⟩
          obtain ⟨j, rfl, hjm, rfl, hal2, hbi⟩ := hrel
          have HAL2 := Lib.hid hal2
          have HBI := Lib.hid hbi
          have HBZ : Hid (Below w.heap.size w wi) := HBL.out.trans (hbi.mono hzr)
          have ci : wi.cell? ⟨b, off + k, none⟩ = some (.slice ad2 m c2) := (hbi.cell (p := ⟨b, off + k, none⟩) hbz).trans C0.out
          clear hal2 hbi c0
          by_cases hlt2 : j < m
          · have hr2 := HR2.out.below HBI.out
            have hix2 := fun W => hr2.ix 94 93 Tryz.underlying94 (by kernel_rfl) (by omega) hlt2 c2 W
            have d0 : wi.cell? ⟨b2, off2 + j * 4, none⟩ = some (f2 j 0) := hr2.cell j 0 hlt2 (by omega)
            have d1 : wi.cell? ⟨b2, off2 + j * 4 + 1, none⟩ = some (f2 j 1) := hr2.cell j 1 hlt2 (by omega)
            have d2 : wi.cell? ⟨b2, off2 + j * 4 + 2, none⟩ = some (f2 j 2) := hr2.cell j 2 hlt2 (by omega)
            have d3 : wi.cell? ⟨b2, off2 + j * 4 + 3, none⟩ = some (f2 j 3) := hr2.cell j 3 hlt2 (by omega)
            have hj0 : j < ls.length := by rw [HM.out]; exact hlt2
            have hre := (RowsOf.get HF2.out hj0 ⟨0, 0, false, []⟩).below HBI.out
            have HP := Lib.hid (rproper_any (f2 j) _ wi hre)
            have HNO2 : Hid (properV (ls.getD j ⟨0, 0, false, []⟩) = false → q = false) := fun h => HNO.out (all_not _ hj0 h)
            have HYES2 : Hid (properV (ls.getD j ⟨0, 0, false, []⟩) = true → ∀ i, i < j + 1 → properV (ls.getD i ⟨0, 0, false, []⟩) = true) := fun h i hi => by
              by_cases e : i = j
              · subst e; exact h
              · exact HAL2.out i (by omega)
            clear hre hr2 hj0
            generalize properV (ls.getD j ⟨0, 0, false, []⟩) = pv at *
            generalize f2 j 0 = y0 at *
            generalize f2 j 1 = y1 at *
            generalize f2 j 2 = y2 at *
            generalize f2 j 3 = y3 at *
            cases pv with
            | false =>
              have HO := Lib.hid (HNO2.out rfl)
              clear HNO2 HYES2
              go_wp2_with fail
              refine HP.out.mono ?_
              rintro e w' ⟨rfl, hb⟩
              have HB3 := Lib.hid (HBZ.out.trans (hb.mono HBZ.out.size))
              clear hb
              go_wp2_with fail
              go_ret
              exact ⟨by rw [HO.out]; rfl, HB3.out⟩
            | true =>
              have HO := Lib.hid (HYES2.out rfl)
              clear HNO2 HYES2
              have hsz := HBI.out.size
              go_wp2_with fail
              refine HP.out.mono ?_
              rintro e w' ⟨rfl, hb⟩
              have HB3 := Lib.hid (HBI.out.trans (hb.mono hsz))
              clear hb
              go_wp2_with fail
              go_roundw
              case rel => exact ⟨j + 1, by go_num, by omega, by go_num, HO.out, HB3.out⟩
              case measure => simp [intOf]; omega
          · obtain rfl : j = m := by omega
            have HO := Lib.hid (HYES.out (all_getD ⟨0, 0, false, []⟩ (by rw [HM.out]; exact HAL2.out)))
            clear HNO HYES
            go_wp2_with fail
            go_roundw
            case rel => exact ⟨k + 1, by go_num, by omega, by rw [HEQ.out], HO.out, HBZ.out⟩
            case measure => simp [intOf]; omega
    · obtain rfl : k = n := by omega
      have HE : Hid (q = (decide (0 < k) && decide (relN l ≤ 6))) := HQ.out.symm.trans (by rw [← HN.out]; exact validC_end (by rw [HN.out]; exact HAL.out))
      have HT : Hid (relN (l.take k) = relN l) := by unfold Hid; rw [← HN.out, List.take_length]
      rw [HT.out]
      generalize relN l = s at *
      by_cases p1 : 0 < k
      · have p2 : 0 < (k : Int) := by omega
        go_wp2_with fail
        go_ret
        exact ⟨by rw [HE.out, decide_eq_true p1]; simp; omega, HBL.out⟩
      · have p2 : ¬ 0 < (k : Int) := by omega
        go_wp2_with fail
        go_ret
        exact ⟨by rw [HE.out, decide_eq_false p1]; rfl, HBL.out⟩
end Go.Proofs.YtadhblppeaamlaaGreatDoor
