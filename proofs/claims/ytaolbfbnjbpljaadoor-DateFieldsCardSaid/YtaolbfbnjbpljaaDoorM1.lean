/- Walks: Format, where it writes. -/
import Derived.Test.YtaolbfbnjbpljaaDoorF2
import Derived.Test.YtaolbfbnjbpljaaDoorO1
import Derived.Test.YtaolbfbnjbpljaaDoorV11
namespace Go.Proofs.YtaolbfbnjbpljaaDoor
open Go.RowKit
attribute [local go_sem] Ext.cell Ext.frozen
attribute [local go_sem ↓] Go.wp_at_zero Go.wp_at_succ

set_option maxRecDepth 20000 in
set_option maxHeartbeats 16000000 in
theorem format_ok (v0 v1 v2 v3 v4 v5 v6 v7 v8 v9 v10 v11 v12 v14 v15 : Value) (ad : Option Addr) (n c : Nat) (ps : List (List UInt8 × List UInt8)) (b off : Nat) (s : ByteArray) (N : Int) (y m d i : Nat) (P : List UInt8) (FV : List UInt8 → Option (List UInt8)) (w : World)
    (hp : PatAt w ad n ps b off) (hs : s.size ≤ 1000) (hps : ∀ p ∈ ps, p.1.length ≤ 1000) (hc : civV N = ((y : Int), (m : Int), (d : Int), 0)) (hN1 : -25567 ≤ N) (hN2 : N ≤ 84005)
    (hbe : bestV ps s.data.toList = ((i : Int), 0)) (hi : i < n) (hPe : (ps.getD i ([], [])).2 = P) (hPl : P.length ≤ 1000) (ho : ownV P = true) {gs} (hg : runsV P.length P = some gs)
    (hF : ∀ f, isFld f = true → f ∈ gs → ∀ w', Below w.heap.size w w' → Calls Tryd.prog 74 #[.agg #[v0, v1, v2, v3, v4, v5, v6, v7, v8, v9, v10, v11, v12, .slice ad n c, v14, v15, .int .i64 (y : Int), .int .i64 (m : Int), .int .i64 (d : Int), .int .i64 ((N + 25567) % 7)], .string (bs f)] w' fun e w'' => e = .returned (fRes (FV f)) ∧ Below w'.heap.size w' w'')
    (hL : ∀ f t, FV f = some t → t.length ≤ 1000000) :
    Calls Tryd.prog 26 #[.agg #[v0, v1, v2, v3, v4, v5, v6, v7, v8, v9, v10, v11, v12, .slice ad n c, v14, v15], .string s, .int .i64 N] w fun e w' => e = .returned (fRes (textV FV P.length P)) ∧ Below w.heap.size w w' := by
  have HC := Lib.hid (fun w => civil_any N w)
  rw [hc] at HC
  have HB := Lib.hid (fun w (hp : PatAt w ad n ps b off) => best_any ad n c ps b off s w hp hs hps)
  rw [hbe] at HB
  have HOW := Lib.hid (fun w => own_any (bs P) w (by rw [bs_size]; exact hPl))
  rw [bs_data, ho] at HOW
  have HWD := Lib.hid (fun w => weekday_yes N w hN1 hN2)
  have HTX := Lib.hid (fun w' (hb : Below w.heap.size w w') => text_day v0 v1 v2 v3 v4 v5 v6 v7 v8 v9 v10 v11 v12 (.slice ad n c) v14 v15 (.int .i64 ((N + 25567) % 7)) y m d FV (bs P) w' (by rw [bs_size]; exact hPl) (by rw [bs_data]; exact hg) (fun f hf hm w2 h2 => hF f hf hm w2 (hb.trans (h2.mono hb.size))) hL)
  simp only [bs_data] at HTX
  have HP0 := Lib.hid hp
  have hnm := hp.max
  have HPE := Lib.hid hPe
  have hby : b < w.heap.size := hp.block (by omega)
  have HQ : Hid (∃ T : ByteArray × Int, fRes (textV FV P.length P) = .tuple #[.string T.1, .int .i64 T.2]) := by
    unfold Hid
    cases textV FV P.length P with
    | none => exact ⟨(_, _), rfl⟩
    | some t => exact ⟨(_, _), rfl⟩
  obtain ⟨T, hT⟩ := HQ.out
  rw [hT] at HTX ⊢
  obtain ⟨T1, T2⟩ := T
  simp only at HTX ⊢
  clear HQ hT hp hps hc hbe hPe ho hg hF hL
  go_enter Tryd.func26, Tryd.ntmps26
  go_wp2_with fail
  generalize hW : w.alloc (.cells #[v0, v1, v2, v3, v4, v5, v6, v7, v8, v9, v10, v11, v12, .slice ad n c, v14, v15] 52 (0, 0)) = W
  have hWs : W.heap.size = w.heap.size + 1 := by rw [← hW]; simp
  have HBW : Hid (Below w.heap.size w W) := by rw [← hW]; exact (Below.refl _ _).alloc (Nat.le_refl _) _
  have HCW : Hid (W.heap[w.heap.size]? = some (.cells #[v0, v1, v2, v3, v4, v5, v6, v7, v8, v9, v10, v11, v12, .slice ad n c, v14, v15] 52 (0, 0))) := by rw [← hW]; exact Array.getElem?_push_size
  have HPW := Lib.hid (HP0.out.below HBW.out)
  clear hW
  have k13 : W.cell? ⟨w.heap.size, 13, none⟩ = some (.slice ad n c) := by rw [Lib.cell_of_heap HCW.out]; rfl
  refine (HC.out _).mono ?_
  rintro e _ ⟨rfl, rfl⟩
  go_wp2_with fail
  refine (HB.out _ HPW.out).mono ?_
  rintro e w2 ⟨rfl, hb2⟩
  have HB2 := Lib.hid hb2
  have hz2 := hb2.size
  have HP2 := Lib.hid (HPW.out.below hb2)
  have HC2 : Hid (w2.heap[w.heap.size]? = some (.cells #[v0, v1, v2, v3, v4, v5, v6, v7, v8, v9, v10, v11, v12, .slice ad n c, v14, v15] 52 (0, 0))) := (hb2.block _ (by omega)).trans HCW.out
  have k13b : w2.cell? ⟨w.heap.size, 13, none⟩ = some (.slice ad n c) := by rw [Lib.cell_of_heap HC2.out]; rfl
  have hix := fun W => HP2.out.ix (c := c) hi W
  have h1 := HP2.out.c1 i hi
  rw [HPE.out] at h1
  clear hb2 k13
  go_wp2_with fail
  refine (HOW.out _).mono ?_
  rintro e w3 ⟨rfl, hb3⟩
  have HB3 := Lib.hid hb3
  have hz3 := hb3.size
  have HP3 := Lib.hid (HP2.out.below hb3)
  have HC3 : Hid (w3.heap[w.heap.size]? = some (.cells #[v0, v1, v2, v3, v4, v5, v6, v7, v8, v9, v10, v11, v12, .slice ad n c, v14, v15] 52 (0, 0))) := (hb3.block _ (by omega)).trans HC2.out
  have k13c : w3.cell? ⟨w.heap.size, 13, none⟩ = some (.slice ad n c) := by rw [Lib.cell_of_heap HC3.out]; rfl
  have h1b := HP3.out.c1 i hi
  rw [HPE.out] at h1b
  have HBX : Hid (Below w.heap.size w w3) := (HBW.out.trans (HB2.out.mono (by omega))).trans (HB3.out.mono (by omega))
  have hbw3 : b < w3.heap.size := by omega
  have hww3 : w.heap.size < w3.heap.size := by omega
  clear hb3 k13b h1
  go_wp2_with fail
  refine (HWD.out _).mono ?_
  rintro e _ ⟨rfl, rfl⟩
  go_wp2_with fail
  have HLD : Hid (∀ w', (∃ x : Ext w3, w' = x.1) → (loadVar 52 ⟨w.heap.size, 0, none⟩).run Tryd.prog w' = .ok (.agg #[v0, v1, v2, v3, v4, v5, v6, v7, v8, v9, v10, v11, v12, .slice ad n c, v14, v15]) w') := by
    rintro _ ⟨x, rfl⟩
    refine run_loadVar_row x.1 w.heap.size 52 52 _ (0, 0) _ ?_ Tryd.underlying52 rfl (by kernel_rfl)
    rw [x.2.block _ (by omega)]
    exact HC3.out
  have HTY : Hid (∀ x : Ext w3, Calls Tryd.prog 50 #[.agg #[v0, v1, v2, v3, v4, v5, v6, v7, v8, v9, v10, v11, v12, .slice ad n c, v14, v15, .int .i64 (y : Int), .int .i64 (m : Int), .int .i64 (d : Int), .int .i64 ((N + 25567) % 7)], .string (bs P)] x.1 fun e w' => e = .returned (.tuple #[.string T1, .int .i64 T2]) ∧ Below x.1.heap.size x.1 w') := fun x => HTX.out x.1 (HBX.out.trans (x.2.mono (by omega)))
  refine wp_region_ext (by kernel_rfl) (by kernel_rfl) ?_
  refine wpQuiet_load 52 (.tmp 3) rfl rfl ⟨w.heap.size, 0, none⟩ rfl _ HLD.out ?_
  simp only [Act.put, List.setIfInBounds_toArray, List.set_cons_succ, List.set_cons_zero]
  repeat (go_big_quiet_step ((go_at_call 50; exact Calls.ext (HTY.out _))))
  refine wpQuiet_nil ?_
  intro _ hw'
  obtain ⟨X9, hw''⟩ := hw'
  subst hw''
  have HX9 := Lib.hid X9.2
  go_wp2_with fail
  go_ret2
  exact ⟨rfl, HBX.out.trans (HX9.out.mono (by omega))⟩
end Go.Proofs.YtaolbfbnjbpljaaDoor
