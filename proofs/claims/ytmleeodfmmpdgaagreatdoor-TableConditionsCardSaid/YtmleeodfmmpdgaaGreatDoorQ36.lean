/- Walk: TableConditions. -/
import Derived.Test.YtmleeodfmmpdgaaGreatDoorQ35
import Derived.Test.YtmleeodfmmpdgaaGreatDoorQ28
import Derived.Deep.DeepCutAuto
namespace Go.Proofs.YtmleeodfmmpdgaaGreatDoor
open Go.RowKit
attribute [local go_sem] Ext.cell Ext.frozen
attribute [local go_sem ↓] Go.wp_at_zero Go.wp_at_succ
theorem rows_one {α : Type} {k : Nat} {C : World → (Nat → Value) → α → Prop} {w : World} {B : Nat} {cs : Array Value} {T : TypeId} (hb : w.heap[B]? = some (.cells cs T (0, 0))) (hk : cs.size = k) (y : α) (hC : C w (fun j => cs.getD j undef) y) : RowsOf k C w (.slice (some ⟨B, 0, none⟩) 1 1) [y] := by
  refine ⟨some ⟨B, 0, none⟩, 1, fun _ j => cs.getD j undef, B, 0, rfl, ⟨by simp, fun _ => rfl, fun i j hi hj => ?_⟩, fun h => (by cases h), Nat.le_refl _, by simp, fun i x hx => ?_⟩
  · obtain rfl : i = 0 := by simpa using hi
    have hj' : j < cs.size := by omega
    simp only [World.cell?, hb, Nat.zero_mul, Nat.zero_add]
    simp [Array.getD, hj']
  · obtain rfl : i = 0 := by
      rcases Nat.eq_zero_or_pos i with h | h
      · exact h
      · rw [List.getElem?_eq_none (by simp; omega)] at hx; cases hx
    simp only [List.getElem?_cons_zero, Option.some.injEq] at hx
    subst hx
    exact hC
theorem condTb_small (s : ByteArray) (cs : List (List Rel)) (hs : s.size ≤ 100) (hc : cs.length ≤ 30) : SmT (condTb s cs) := by
  refine ⟨⟨by simp [condTb], fun y hy => ?_⟩, ⟨by simp [condTb], fun x hx => by cases hx⟩, ⟨by simp [condTb], fun x hx => by cases hx⟩⟩
  rw [List.mem_singleton.1 hy]
  refine ⟨fun z hz => ?_, ⟨by simp [condLc], fun z hz => by cases hz⟩, ⟨by simp [condLc], fun z hz => by cases hz⟩, ⟨by simp [condLc], fun z hz => by cases hz⟩, ⟨by simp [condLc], fun z hz => by cases hz⟩, ⟨by simp [condLc], fun z hz => by cases hz⟩, ⟨by simp [condLc], fun r hr => ?_⟩, ⟨by simp [condLc], fun z hz => by cases hz⟩⟩
  · simp only [condLc, List.mem_cons, List.not_mem_nil, or_false] at hz
    rcases hz with rfl | rfl | rfl | rfl | rfl | rfl | rfl <;> decide
  · rw [List.mem_singleton.1 hr]
    exact ⟨by simp only; omega, hc⟩
theorem cond_tab (s : ByteArray) (cs : List (List Rel)) (_hs : s.size ≤ 100) (W : World) (ad : Option Addr) (n c : Nat) (h : CondAt W (.slice ad n c) cs) :
    TbC ((W.alloc (.cells #[.string s, .slice ad n c] 51)).alloc (.cells #[.string ⟨#[120]⟩, .string ⟨#[]⟩, .string ⟨#[]⟩, .slice (some ⟨W.heap.size, 0, none⟩) 1 1, .slice none 0 0, .string ⟨#[]⟩, .string ⟨#[]⟩, .string ⟨#[]⟩, .string ⟨#[]⟩, .int .i64 0, .int .i64 0, .slice none 0 0, .slice none 0 0, .slice none 0 0, .slice none 0 0, .slice none 0 0] 46)) (fun j => (#[.slice (some ⟨W.heap.size + 1, 0, none⟩) 1 1, .slice none 0 0, .slice none 0 0] : Array Value).getD j undef) (condTb s cs) := by
  have hb1 : Below W.heap.size W (W.alloc (.cells #[.string s, .slice ad n c] 51)) := (Below.refl _ _).alloc (Nat.le_refl _) _
  have hb2 : Below W.heap.size W ((W.alloc (.cells #[.string s, .slice ad n c] 51)).alloc (.cells #[.string ⟨#[120]⟩, .string ⟨#[]⟩, .string ⟨#[]⟩, .slice (some ⟨W.heap.size, 0, none⟩) 1 1, .slice none 0 0, .string ⟨#[]⟩, .string ⟨#[]⟩, .string ⟨#[]⟩, .string ⟨#[]⟩, .int .i64 0, .int .i64 0, .slice none 0 0, .slice none 0 0, .slice none 0 0, .slice none 0 0, .slice none 0 0] 46)) := hb1.alloc (by simp) _
  have k1 : ((W.alloc (.cells #[.string s, .slice ad n c] 51)).alloc (.cells #[.string ⟨#[120]⟩, .string ⟨#[]⟩, .string ⟨#[]⟩, .slice (some ⟨W.heap.size, 0, none⟩) 1 1, .slice none 0 0, .string ⟨#[]⟩, .string ⟨#[]⟩, .string ⟨#[]⟩, .string ⟨#[]⟩, .int .i64 0, .int .i64 0, .slice none 0 0, .slice none 0 0, .slice none 0 0, .slice none 0 0, .slice none 0 0] 46)).heap[W.heap.size]? = some (.cells #[.string s, .slice ad n c] 51 (0, 0)) := by
    rw [Below.heap_alloc _ _ _ (by simp)]
    exact heap_alloc_new _ _
  have k2 : ((W.alloc (.cells #[.string s, .slice ad n c] 51)).alloc (.cells #[.string ⟨#[120]⟩, .string ⟨#[]⟩, .string ⟨#[]⟩, .slice (some ⟨W.heap.size, 0, none⟩) 1 1, .slice none 0 0, .string ⟨#[]⟩, .string ⟨#[]⟩, .string ⟨#[]⟩, .string ⟨#[]⟩, .int .i64 0, .int .i64 0, .slice none 0 0, .slice none 0 0, .slice none 0 0, .slice none 0 0, .slice none 0 0] 46)).heap[W.heap.size + 1]? = some (.cells #[.string ⟨#[120]⟩, .string ⟨#[]⟩, .string ⟨#[]⟩, .slice (some ⟨W.heap.size, 0, none⟩) 1 1, .slice none 0 0, .string ⟨#[]⟩, .string ⟨#[]⟩, .string ⟨#[]⟩, .string ⟨#[]⟩, .int .i64 0, .int .i64 0, .slice none 0 0, .slice none 0 0, .slice none 0 0, .slice none 0 0, .slice none 0 0] 46 (0, 0)) := by
    have := heap_alloc_new (W.alloc (.cells #[.string s, .slice ad n c] 51)) (.cells #[.string ⟨#[120]⟩, .string ⟨#[]⟩, .string ⟨#[]⟩, .slice (some ⟨W.heap.size, 0, none⟩) 1 1, .slice none 0 0, .string ⟨#[]⟩, .string ⟨#[]⟩, .string ⟨#[]⟩, .string ⟨#[]⟩, .int .i64 0, .int .i64 0, .slice none 0 0, .slice none 0 0, .slice none 0 0, .slice none 0 0, .slice none 0 0] 46)
    rwa [show (W.alloc (.cells #[.string s, .slice ad n c] 51)).heap.size = W.heap.size + 1 by simp] at this
  have zE : (ByteArray.empty).size ≤ 140737488351232 := by decide
  have zX : (bs [120]).size ≤ 140737488351232 := by decide
  have z1 : (-9223372036854775808 : Int) ≤ 0 := by decide
  have z2 : (0 : Int) ≤ 9223372036854775807 := by decide
  refine ⟨rows_one k2 rfl (condLc s cs) ?_, RowsOf.nil _ _ _, RowsOf.nil _ _ _⟩
  exact ⟨⟨rfl, zX⟩, ⟨rfl, zE⟩, ⟨rfl, zE⟩, rows_one k1 rfl (s, cs) ⟨rfl, h.below hb2⟩, RowsOf.nil _ _ _, ⟨rfl, zE⟩, ⟨rfl, zE⟩, ⟨rfl, zE⟩, ⟨rfl, zE⟩, ⟨rfl, z1, z2⟩, ⟨rfl, z1, z2⟩, RowsOf.nil _ _ _, RowsOf.nil _ _ _, RowsOf.nil _ _ _, RowsOf.nil _ _ _, RowsOf.nil _ _ _⟩
theorem print_cond (s : ByteArray) (cs : List (List Rel)) (V : World) (B : Nat) (h : TbC V (fun j => (#[.slice (some ⟨B, 0, none⟩) 1 1, .slice none 0 0, .slice none 0 0] : Array Value).getD j undef) (condTb s cs)) (hs : SmT (condTb s cs)) (hU : TabU V) (hT : TabTen V) (hD : TabDeB V) (P : List UInt8 × Nat) (hP : printV (condTb s cs) = P) : Calls Tryz.prog 15 #[.agg #[.slice (some ⟨B, 0, none⟩) 1 1, .slice none 0 0, .slice none 0 0]] V fun e w' => e = .returned (.tuple #[.string (bs P.1), .int .i64 (P.2 : Nat)]) ∧ Below V.heap.size V w' := by
  have h1 := tprint_any (fun j => (#[.slice (some ⟨B, 0, none⟩) 1 1, .slice none 0 0, .slice none 0 0] : Array Value).getD j undef) (condTb s cs) V h hs hU hT hD
  rw [hP] at h1
  exact h1
theorem valid_cond (s : ByteArray) (cs : List (List Rel)) (V : World) (B : Nat) (h : TbC V (fun j => (#[.slice (some ⟨B, 0, none⟩) 1 1, .slice none 0 0, .slice none 0 0] : Array Value).getD j undef) (condTb s cs)) (hs : SmT (condTb s cs)) (hU : TabU V) : Calls Tryz.prog 20 #[.agg #[.slice (some ⟨B, 0, none⟩) 1 1, .slice none 0 0, .slice none 0 0]] V fun e w' => e = .returned (.bool (classL.contains s && validC cs)) ∧ Below V.heap.size V w' := by
  have h1 := tvalid_any (fun j => (#[.slice (some ⟨B, 0, none⟩) 1 1, .slice none 0 0, .slice none 0 0] : Array Value).getD j undef) (condTb s cs) V h hs hU
  rw [okTab_cond] at h1
  exact h1
set_option maxRecDepth 20000 in
set_option maxHeartbeats 8000000 in
theorem conditions_walk (s : ByteArray) (v : Value) (cs : List (List Rel)) (w : World) (h : CondAt w v cs) (hM : MaxLen w) (hU : TabU w) (hT : TabTen w) (hD : TabDeB w) : Calls Tryz.prog 7 #[.string s, v] w fun e w' => e = .returned (.bool true) ∧ Below w.heap.size w w' := by
  have HAW := Lib.hid (fun W (g : Below w.heap.size w W) => awake12_any W (hM.below g) (hU.below g))
  have HFW : Hid (∀ W, Below w.heap.size w W → Calls Tryz.prog 17 #[v] W (BoolIf W (cs.length ≤ 30))) := fun W g => cfewl_any v cs W (h.below g)
  by_cases hbig : 100 < s.size
  · have d1 : (100 : Int) < (s.size : Int) := by omega
    have d2 := decide_eq_true d1
    clear h hM hU hT hD HFW
    go_enter Tryz.func7, Tryz.ntmps7
    go_wp2_with fail
    refine (HAW.out _ (Below.refl _ _)).mono ?_
    rintro e w2 ⟨rfl, hb⟩
    have HB := Lib.hid hb
    clear hb
    go_wp2_with fail
    refine (HAW.out _ HB.out).mono ?_
    rintro e w3 ⟨rfl, hb⟩
    replace HB := Lib.hid (HB.out.trans (hb.mono HB.out.size))
    clear hb
    go_wp2_with fail
    go_ret
    exact ⟨rfl, HB.out⟩
  · have d1 : ¬ (100 : Int) < (s.size : Int) := by omega
    have d2 := decide_eq_false d1
    obtain ⟨ad, c, hv⟩ := RowsOf.shape h
    subst hv
    obtain ⟨PV, hPV⟩ : ∃ PV, printV (condTb s cs) = PV := ⟨_, rfl⟩
    have HTB : Hid (∀ W, Below w.heap.size w W → ∀ V, Below (((W.alloc (.cells #[.string s, .slice ad cs.length c] 51)).alloc (.cells #[.string ⟨#[120]⟩, .string ⟨#[]⟩, .string ⟨#[]⟩, .slice (some ⟨W.heap.size, 0, none⟩) 1 1, .slice none 0 0, .string ⟨#[]⟩, .string ⟨#[]⟩, .string ⟨#[]⟩, .string ⟨#[]⟩, .int .i64 0, .int .i64 0, .slice none 0 0, .slice none 0 0, .slice none 0 0, .slice none 0 0, .slice none 0 0] 46)).alloc (.cells #[.slice (some ⟨W.heap.size + 1, 0, none⟩) 1 1, .slice none 0 0, .slice none 0 0] 27)).heap.size (((W.alloc (.cells #[.string s, .slice ad cs.length c] 51)).alloc (.cells #[.string ⟨#[120]⟩, .string ⟨#[]⟩, .string ⟨#[]⟩, .slice (some ⟨W.heap.size, 0, none⟩) 1 1, .slice none 0 0, .string ⟨#[]⟩, .string ⟨#[]⟩, .string ⟨#[]⟩, .string ⟨#[]⟩, .int .i64 0, .int .i64 0, .slice none 0 0, .slice none 0 0, .slice none 0 0, .slice none 0 0, .slice none 0 0] 46)).alloc (.cells #[.slice (some ⟨W.heap.size + 1, 0, none⟩) 1 1, .slice none 0 0, .slice none 0 0] 27)) V → TbC V (fun j => (#[.slice (some ⟨W.heap.size + 1, 0, none⟩) 1 1, .slice none 0 0, .slice none 0 0] : Array Value).getD j undef) (condTb s cs) ∧ Below w.heap.size w V) := fun W g V gV => by
      have hb : Below W.heap.size W ((W.alloc (.cells #[.string s, .slice ad cs.length c] 51)).alloc (.cells #[.string ⟨#[120]⟩, .string ⟨#[]⟩, .string ⟨#[]⟩, .slice (some ⟨W.heap.size, 0, none⟩) 1 1, .slice none 0 0, .string ⟨#[]⟩, .string ⟨#[]⟩, .string ⟨#[]⟩, .string ⟨#[]⟩, .int .i64 0, .int .i64 0, .slice none 0 0, .slice none 0 0, .slice none 0 0, .slice none 0 0, .slice none 0 0] 46)) := ((Below.refl _ _).alloc (Nat.le_refl _) _).alloc (by simp) _
      have hb3 : Below ((W.alloc (.cells #[.string s, .slice ad cs.length c] 51)).alloc (.cells #[.string ⟨#[120]⟩, .string ⟨#[]⟩, .string ⟨#[]⟩, .slice (some ⟨W.heap.size, 0, none⟩) 1 1, .slice none 0 0, .string ⟨#[]⟩, .string ⟨#[]⟩, .string ⟨#[]⟩, .string ⟨#[]⟩, .int .i64 0, .int .i64 0, .slice none 0 0, .slice none 0 0, .slice none 0 0, .slice none 0 0, .slice none 0 0] 46)).heap.size ((W.alloc (.cells #[.string s, .slice ad cs.length c] 51)).alloc (.cells #[.string ⟨#[120]⟩, .string ⟨#[]⟩, .string ⟨#[]⟩, .slice (some ⟨W.heap.size, 0, none⟩) 1 1, .slice none 0 0, .string ⟨#[]⟩, .string ⟨#[]⟩, .string ⟨#[]⟩, .string ⟨#[]⟩, .int .i64 0, .int .i64 0, .slice none 0 0, .slice none 0 0, .slice none 0 0, .slice none 0 0, .slice none 0 0] 46)) (((W.alloc (.cells #[.string s, .slice ad cs.length c] 51)).alloc (.cells #[.string ⟨#[120]⟩, .string ⟨#[]⟩, .string ⟨#[]⟩, .slice (some ⟨W.heap.size, 0, none⟩) 1 1, .slice none 0 0, .string ⟨#[]⟩, .string ⟨#[]⟩, .string ⟨#[]⟩, .string ⟨#[]⟩, .int .i64 0, .int .i64 0, .slice none 0 0, .slice none 0 0, .slice none 0 0, .slice none 0 0, .slice none 0 0] 46)).alloc (.cells #[.slice (some ⟨W.heap.size + 1, 0, none⟩) 1 1, .slice none 0 0, .slice none 0 0] 27)) := (Below.refl _ _).alloc (Nat.le_refl _) _
      have hbV := hb3.trans (gV.mono hb3.size)
      exact ⟨(cond_tab s cs (by omega) W ad cs.length c (h.below g)).below hbV, g.trans ((hb.trans (hbV.mono hb.size)).mono g.size)⟩
    have HPR : Hid (cs.length ≤ 30 → ∀ W, Below w.heap.size w W → Calls Tryz.prog 15 #[.agg #[.slice (some ⟨W.heap.size + 1, 0, none⟩) 1 1, .slice none 0 0, .slice none 0 0]] (((W.alloc (.cells #[.string s, .slice ad cs.length c] 51)).alloc (.cells #[.string ⟨#[120]⟩, .string ⟨#[]⟩, .string ⟨#[]⟩, .slice (some ⟨W.heap.size, 0, none⟩) 1 1, .slice none 0 0, .string ⟨#[]⟩, .string ⟨#[]⟩, .string ⟨#[]⟩, .string ⟨#[]⟩, .int .i64 0, .int .i64 0, .slice none 0 0, .slice none 0 0, .slice none 0 0, .slice none 0 0, .slice none 0 0] 46)).alloc (.cells #[.slice (some ⟨W.heap.size + 1, 0, none⟩) 1 1, .slice none 0 0, .slice none 0 0] 27)) fun e w' => e = .returned (.tuple #[.string (bs PV.1), .int .i64 (PV.2 : Nat)]) ∧ Below (((W.alloc (.cells #[.string s, .slice ad cs.length c] 51)).alloc (.cells #[.string ⟨#[120]⟩, .string ⟨#[]⟩, .string ⟨#[]⟩, .slice (some ⟨W.heap.size, 0, none⟩) 1 1, .slice none 0 0, .string ⟨#[]⟩, .string ⟨#[]⟩, .string ⟨#[]⟩, .string ⟨#[]⟩, .int .i64 0, .int .i64 0, .slice none 0 0, .slice none 0 0, .slice none 0 0, .slice none 0 0, .slice none 0 0] 46)).alloc (.cells #[.slice (some ⟨W.heap.size + 1, 0, none⟩) 1 1, .slice none 0 0, .slice none 0 0] 27)).heap.size (((W.alloc (.cells #[.string s, .slice ad cs.length c] 51)).alloc (.cells #[.string ⟨#[120]⟩, .string ⟨#[]⟩, .string ⟨#[]⟩, .slice (some ⟨W.heap.size, 0, none⟩) 1 1, .slice none 0 0, .string ⟨#[]⟩, .string ⟨#[]⟩, .string ⟨#[]⟩, .string ⟨#[]⟩, .int .i64 0, .int .i64 0, .slice none 0 0, .slice none 0 0, .slice none 0 0, .slice none 0 0, .slice none 0 0] 46)).alloc (.cells #[.slice (some ⟨W.heap.size + 1, 0, none⟩) 1 1, .slice none 0 0, .slice none 0 0] 27)) w') := fun hl W g => by
      obtain ⟨h1, g2⟩ := HTB.out W g _ (Below.refl _ _)
      exact print_cond s cs _ _ h1 (condTb_small s cs (by omega) hl) (hU.below g2) (hT.below g2) (hD.below g2) PV hPV
    have HVA : Hid (cs.length ≤ 30 → ∀ W, Below w.heap.size w W → ∀ V, Below (((W.alloc (.cells #[.string s, .slice ad cs.length c] 51)).alloc (.cells #[.string ⟨#[120]⟩, .string ⟨#[]⟩, .string ⟨#[]⟩, .slice (some ⟨W.heap.size, 0, none⟩) 1 1, .slice none 0 0, .string ⟨#[]⟩, .string ⟨#[]⟩, .string ⟨#[]⟩, .string ⟨#[]⟩, .int .i64 0, .int .i64 0, .slice none 0 0, .slice none 0 0, .slice none 0 0, .slice none 0 0, .slice none 0 0] 46)).alloc (.cells #[.slice (some ⟨W.heap.size + 1, 0, none⟩) 1 1, .slice none 0 0, .slice none 0 0] 27)).heap.size (((W.alloc (.cells #[.string s, .slice ad cs.length c] 51)).alloc (.cells #[.string ⟨#[120]⟩, .string ⟨#[]⟩, .string ⟨#[]⟩, .slice (some ⟨W.heap.size, 0, none⟩) 1 1, .slice none 0 0, .string ⟨#[]⟩, .string ⟨#[]⟩, .string ⟨#[]⟩, .string ⟨#[]⟩, .int .i64 0, .int .i64 0, .slice none 0 0, .slice none 0 0, .slice none 0 0, .slice none 0 0, .slice none 0 0] 46)).alloc (.cells #[.slice (some ⟨W.heap.size + 1, 0, none⟩) 1 1, .slice none 0 0, .slice none 0 0] 27)) V → Calls Tryz.prog 20 #[.agg #[.slice (some ⟨W.heap.size + 1, 0, none⟩) 1 1, .slice none 0 0, .slice none 0 0]] V fun e w' => e = .returned (.bool (classL.contains s && validC cs)) ∧ Below V.heap.size V w') := fun hl W g V gV => by
      obtain ⟨h1, g2⟩ := HTB.out W g V gV
      exact valid_cond s cs V _ h1 (condTb_small s cs (by omega) hl) (hU.below g2)
    obtain ⟨CP, hCP⟩ : ∃ CP, condP cs = CP := ⟨_, rfl⟩
    have HRP : Hid (cs.length ≤ 30 → ∀ W, Below w.heap.size w W → Calls Tryz.prog 18 #[.slice ad cs.length c] W fun e w' => e = .returned (.tuple #[.string (bs CP.1), .int .i64 (CP.2 : Nat)]) ∧ Below W.heap.size W w') := fun hl W g => by
      rw [← hCP]
      exact rcprint_any _ cs W (h.below g) hl
    have HCL := Lib.hid classes_any
    have HPV := Lib.hid (hPV.symm.trans (printV_cond s cs (by omega)))
    have HCP : Hid (CP = if validC cs then (condT cs, 0) else ([], 1)) := hCP.symm
    have HCZ : Hid (validC cs = true → (condT cs).length ≤ 13000) := fun hv => condT_le (condF_of hv)
    have HMEM : Hid (∀ k (hk : k < classL.length), (classL.take (k + 1)).contains s = ((classL.take k).contains s || decide (classL[k] = s))) := fun k hk => by
      rw [List.take_succ_eq_append_getElem hk, Bool.eq_iff_iff, Bool.or_eq_true, List.contains_iff_mem, List.contains_iff_mem, List.mem_append, List.mem_singleton, decide_eq_true_eq]
      exact or_congr Iff.rfl eq_comm
    clear h hM hU hT hD HTB hPV hCP
    generalize cs.length = n at *
    go_enter Tryz.func7, Tryz.ntmps7
    go_wp2_with fail
    refine (HAW.out _ (Below.refl _ _)).mono ?_
    rintro e w2 ⟨rfl, hb⟩
    have HB := Lib.hid hb
    clear hb
    go_wp2_with fail
    refine (HFW.out _ HB.out).mono ?_
    rintro e _ ⟨q, rfl, rfl, hq⟩
    cases q with
    | false =>
      clear hq
      go_wp2_with fail
      refine (HAW.out _ HB.out).mono ?_
      rintro e w3 ⟨rfl, hb⟩
      replace HB := Lib.hid (HB.out.trans (hb.mono HB.out.size))
      clear hb
      go_wp2_with fail
      go_ret
      exact ⟨rfl, HB.out⟩
    | true =>
      have hl := hq rfl
      have HPW := Lib.hid (HPR.out hl w2 HB.out)
      have HVW := Lib.hid (HVA.out hl w2 HB.out)
      replace HRP := Lib.hid (HRP.out hl)
      clear hq HFW HAW HPR HVA
      have HW3 : Hid (Below w.heap.size w (((w2.alloc (.cells #[.string s, .slice ad n c] 51)).alloc (.cells #[.string ⟨#[120]⟩, .string ⟨#[]⟩, .string ⟨#[]⟩, .slice (some ⟨w2.heap.size, 0, none⟩) 1 1, .slice none 0 0, .string ⟨#[]⟩, .string ⟨#[]⟩, .string ⟨#[]⟩, .string ⟨#[]⟩, .int .i64 0, .int .i64 0, .slice none 0 0, .slice none 0 0, .slice none 0 0, .slice none 0 0, .slice none 0 0] 46)).alloc (.cells #[.slice (some ⟨w2.heap.size + 1, 0, none⟩) 1 1, .slice none 0 0, .slice none 0 0] 27))) := ((HB.out.alloc HB.out.size _).alloc (by have := HB.out.size; simp; omega) _).alloc (by have := HB.out.size; simp; omega) _
      have HX : Hid (Cel (((w2.alloc (.cells #[.string s, .slice ad n c] 51)).alloc (.cells #[.string ⟨#[120]⟩, .string ⟨#[]⟩, .string ⟨#[]⟩, .slice (some ⟨w2.heap.size, 0, none⟩) 1 1, .slice none 0 0, .string ⟨#[]⟩, .string ⟨#[]⟩, .string ⟨#[]⟩, .string ⟨#[]⟩, .int .i64 0, .int .i64 0, .slice none 0 0, .slice none 0 0, .slice none 0 0, .slice none 0 0, .slice none 0 0] 46)).alloc (.cells #[.slice (some ⟨w2.heap.size + 1, 0, none⟩) 1 1, .slice none 0 0, .slice none 0 0] 27)) (w2.heap.size + 2) 27 [.slice (some ⟨w2.heap.size + 1, 0, none⟩) 1 1, .slice none 0 0, .slice none 0 0]) := by
        have := Cel.new ((w2.alloc (.cells #[.string s, .slice ad n c] 51)).alloc (.cells #[.string ⟨#[120]⟩, .string ⟨#[]⟩, .string ⟨#[]⟩, .slice (some ⟨w2.heap.size, 0, none⟩) 1 1, .slice none 0 0, .string ⟨#[]⟩, .string ⟨#[]⟩, .string ⟨#[]⟩, .string ⟨#[]⟩, .int .i64 0, .int .i64 0, .slice none 0 0, .slice none 0 0, .slice none 0 0, .slice none 0 0, .slice none 0 0] 46)) [.slice (some ⟨w2.heap.size + 1, 0, none⟩) 1 1, .slice none 0 0, .slice none 0 0] 27
        rwa [show ((w2.alloc (.cells #[.string s, .slice ad n c] 51)).alloc (.cells #[.string ⟨#[120]⟩, .string ⟨#[]⟩, .string ⟨#[]⟩, .slice (some ⟨w2.heap.size, 0, none⟩) 1 1, .slice none 0 0, .string ⟨#[]⟩, .string ⟨#[]⟩, .string ⟨#[]⟩, .string ⟨#[]⟩, .int .i64 0, .int .i64 0, .slice none 0 0, .slice none 0 0, .slice none 0 0, .slice none 0 0, .slice none 0 0] 46)).heap.size = w2.heap.size + 2 by simp] at this
      go_wp2_with fail
      refine HPW.out.mono ?_
      rintro e w4 ⟨rfl, hb⟩
      have HB4 : Hid (Below w.heap.size w w4) := HW3.out.trans (hb.mono HW3.out.size)
      have H34 := Lib.hid hb
      replace HX := Lib.hid (HX.out.below hb)
      clear hb HPW
      have HZ3 : Hid (w.heap.size ≤ (((w2.alloc (.cells #[.string s, .slice ad n c] 51)).alloc (.cells #[.string ⟨#[120]⟩, .string ⟨#[]⟩, .string ⟨#[]⟩, .slice (some ⟨w2.heap.size, 0, none⟩) 1 1, .slice none 0 0, .string ⟨#[]⟩, .string ⟨#[]⟩, .string ⟨#[]⟩, .string ⟨#[]⟩, .int .i64 0, .int .i64 0, .slice none 0 0, .slice none 0 0, .slice none 0 0, .slice none 0 0, .slice none 0 0] 46)).alloc (.cells #[.slice (some ⟨w2.heap.size + 1, 0, none⟩) 1 1, .slice none 0 0, .slice none 0 0] 27)).heap.size) := HW3.out.size
      clear HW3
      go_wp2_with fail
      refine (HRP.out _ HB4.out).mono ?_
      rintro e w5 ⟨rfl, hb⟩
      replace H34 := Lib.hid (H34.out.trans (hb.mono H34.out.size))
      replace HX := Lib.hid (HX.out.below hb)
      replace HB4 := Lib.hid (HB4.out.trans (hb.mono HB4.out.size))
      clear hb HRP
      go_wp2_with fail
      refine (HCL.out _).mono ?_
      rintro e w6 ⟨ad6, n6, c6, rfl, hs6, hb⟩
      replace H34 := Lib.hid (H34.out.trans (hb.mono H34.out.size))
      replace HX := Lib.hid (HX.out.below hb)
      replace HB4 := Lib.hid (HB4.out.trans (hb.mono HB4.out.size))
      obtain ⟨b6, o6, hk6⟩ := hs6
      have hn6 : n6 = 5 := by have := hk6.len; rw [strs_length] at this; exact this.symm
      subst hn6
      have HS6 := Lib.hid hk6
      clear hb HCL hk6
      go_wp2_with fail
      go_loop [10, 45] (fun u i => ∃ k : Nat, i = .int .i64 (k : Int) ∧ k ≤ 5 ∧ u = .bool ((classL.take k).contains s)) (fun _ i => 5 - (intOf i).toNat)
      case atStart => exact ⟨0, rfl, Nat.zero_le _, rfl⟩
      case round =>
        obtain ⟨k, rfl, hkn, rfl⟩ := hrel
        by_cases hlt : k < 5
        · have hix := fun W => HS6.out.ix 44 9 Tryz.underlying44 (by kernel_rfl) hlt (c := c6) W
          have hc := HS6.out.cell k hlt
          have hkl : k < classL.length := hlt
          rw [strs_getD _ _ hkl] at hc
          have HTS := Lib.hid (HMEM.out k hkl)
          rw [Hid, ← getD_eq classL k .empty hkl] at HTS
          replace HTS := Lib.hid HTS
          generalize classL.getD k .empty = y at *
          generalize (classL.take k).contains s = kn at *
          cases kn with
          | true =>
            go_wp2_with fail
            go_round
            case rel => exact ⟨k + 1, by go_num, by omega, by rw [HTS.out]; rfl⟩
            case measure => simp [intOf]; omega
          | false =>
            have e1 := dec_toList y s
            by_cases he : y = s
            · rw [decide_eq_true he] at e1
              rw [Hid, decide_eq_true he] at HTS
              replace HTS := Lib.hid HTS
              clear he
              go_wp2_with fail
              go_round
              case rel => exact ⟨k + 1, by go_num, by omega, by rw [HTS.out]; rfl⟩
              case measure => simp [intOf]; omega
            · rw [decide_eq_false he] at e1
              rw [Hid, decide_eq_false he] at HTS
              replace HTS := Lib.hid HTS
              clear he
              go_wp2_with fail
              go_round
              case rel => exact ⟨k + 1, by go_num, by omega, by rw [HTS.out]; rfl⟩
              case measure => simp [intOf]; omega
        · obtain rfl : k = 5 := by omega
          generalize hkk : (classL.take 5).contains s = kk at *
          have HKK : Hid (classL.contains s = kk) := hkk
          clear hkk
          have x0 := HX.out.cell 0
          have x1 := HX.out.cell 1
          have x2 := HX.out.cell 2
          simp only [List.getElem?_cons_zero, List.getElem?_cons_succ] at x0 x1 x2
          have hlx := HX.out.lt
          rw [Hid, HKK.out] at HPV HVW
          generalize validC cs = vc at *
          have hemp : (bs []).toList.isEmpty = true := by rw [bs_toList]; rfl
          have hemp2 : ((bs []).toList == ([] : List UInt8)) = true := by rw [bs_toList]; rfl
          cases vc with
          | false =>
            have h1 := HPV
            have h2 := HCP.out
            simp only [Bool.and_false, Bool.false_eq_true, if_false] at h1 h2 HVW
            replace HVW := Lib.hid HVW
            subst h1 h2
            clear HPV HCP HCZ HKK HMEM HS6
            go_wp2_with fail
            refine (HVW.out _ H34.out).mono ?_
            rintro e w7 ⟨rfl, hb⟩
            replace HB4 := Lib.hid (HB4.out.trans (hb.mono HB4.out.size))
            clear hb
            go_wp2_with fail
            go_ret
            exact ⟨by first | rfl | simp, HB4.out⟩
          | true =>
            cases kk with
            | false =>
              have h1 := HPV
              have h2 := HCP.out
              simp only [Bool.and_true, if_true, Bool.false_eq_true, if_false] at h1 h2 HVW
              replace HVW := Lib.hid HVW
              subst h1 h2
              clear HPV HCP HCZ HKK HMEM HS6
              go_wp2_with fail
              refine (HVW.out _ H34.out).mono ?_
              rintro e w7 ⟨rfl, hb⟩
              replace HB4 := Lib.hid (HB4.out.trans (hb.mono HB4.out.size))
              clear hb
              go_wp2_with fail
              go_ret
              exact ⟨by first | rfl | simp, HB4.out⟩
            | true =>
              have h1 := HPV
              have h2 := HCP.out
              simp only [Bool.and_self, if_true] at h1 h2 HVW
              replace HVW := Lib.hid HVW
              have hz := HCZ.out rfl
              generalize condT cs = CT at *
              obtain ⟨TX, hTX⟩ : ∃ TX, [108, 111, 99, 97, 108, 101, 32, 120, 32, 123, 10, 9, 99, 97, 114, 100, 105, 110, 97, 108, 32] ++ s.data.toList ++ [32, 34] ++ CT ++ [34, 59, 10, 125, 10] = TX := ⟨_, rfl⟩
              rw [hTX] at h1
              have hct : (bs CT).size ≤ 13000 := by rw [bs_size]; exact hz
              have u1 : (⟨#[108, 111, 99, 97, 108, 101, 32, 120, 32, 123, 10, 9, 99, 97, 114, 100, 105, 110, 97, 108, 32]⟩ : ByteArray).size = 21 := rfl
              have u2 : (⟨#[32, 34]⟩ : ByteArray).size = 2 := rfl
              have u3 : (⟨#[34, 59, 10, 125, 10]⟩ : ByteArray).size = 5 := rfl
              have a1 := fun w => run_string_add_sum (P := Tryz.prog) (w := w) (⟨#[108, 111, 99, 97, 108, 101, 32, 120, 32, 123, 10, 9, 99, 97, 114, 100, 105, 110, 97, 108, 32]⟩ : ByteArray) s (by omega)
              have a2 := fun w => run_string_add_sum (P := Tryz.prog) (w := w) ((⟨#[108, 111, 99, 97, 108, 101, 32, 120, 32, 123, 10, 9, 99, 97, 114, 100, 105, 110, 97, 108, 32]⟩ : ByteArray) ++ s) ⟨#[32, 34]⟩ (by rw [ByteArray.size_append]; omega)
              have a3 := fun w => run_string_add_sum (P := Tryz.prog) (w := w) ((⟨#[108, 111, 99, 97, 108, 101, 32, 120, 32, 123, 10, 9, 99, 97, 114, 100, 105, 110, 97, 108, 32]⟩ : ByteArray) ++ s ++ ⟨#[32, 34]⟩) (bs CT) (by rw [ByteArray.size_append, ByteArray.size_append]; omega)
              have a4 := fun w => run_string_add_sum (P := Tryz.prog) (w := w) ((⟨#[108, 111, 99, 97, 108, 101, 32, 120, 32, 123, 10, 9, 99, 97, 114, 100, 105, 110, 97, 108, 32]⟩ : ByteArray) ++ s ++ ⟨#[32, 34]⟩ ++ bs CT) ⟨#[34, 59, 10, 125, 10]⟩ (by rw [ByteArray.size_append, ByteArray.size_append, ByteArray.size_append]; omega)
              have HE : (⟨#[108, 111, 99, 97, 108, 101, 32, 120, 32, 123, 10, 9, 99, 97, 114, 100, 105, 110, 97, 108, 32]⟩ : ByteArray) ++ s ++ ⟨#[32, 34]⟩ ++ bs CT ++ ⟨#[34, 59, 10, 125, 10]⟩ = bs TX := by
                rw [← hTX, ← bs_append, ← bs_append, ← bs_append, ← bs_append]
                rfl
              rw [HE] at a4
              have hself : ((bs TX).toList == (bs TX).toList) = true := by simp
              clear HE hTX u1 u2 u3 hct hz
              subst h1 h2
              clear HPV HCP HCZ HKK HMEM HS6
              go_wp2_with fail
              go_ret
              exact ⟨by first | rfl | simp, HB4.out⟩
theorem conditions_walk2 (s : ByteArray) (v : Value) (cs : List (List Rel)) (w : World) (_ : s.size ≤ 140737488351232) (h : CondAt w v cs) (hM : MaxLen w) (hU : TabU w) (hT : TabTen w) (hD : TabDeB w) : Calls Tryz.prog 7 #[.string s, v] w fun e w' => e = .returned (.bool true) ∧ Below w.heap.size w w' :=
  conditions_walk s v cs w h hM hU hT hD
end Go.Proofs.YtmleeodfmmpdgaaGreatDoor
