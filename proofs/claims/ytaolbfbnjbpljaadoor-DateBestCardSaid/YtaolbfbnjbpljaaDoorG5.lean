/- Walks: the distance of two skeletons, by the reference. -/
import Derived.Test.YtaolbfbnjbpljaaDoorG4
import Derived.IntWalk
namespace Go.Proofs.YtaolbfbnjbpljaaDoor
open Go.RowKit
attribute [local go_sem] Ext.cell Ext.frozen
attribute [local go_sem ↓] Go.wp_at_zero Go.wp_at_succ

theorem rdist_bd {fs gs : List (List UInt8)} (hf : ∀ f ∈ fs, f.length ≤ 3) (hg : ∀ g ∈ gs, g.length ≤ 3) : ∀ k : Nat, 0 ≤ rdist fs gs k ∧ rdist fs gs k ≤ 3 * (k : Int)
  | 0 => by simp [rdist]
  | k + 1 => by
    have ih := rdist_bd hf hg k
    have h1 : ∀ {l : List (List UInt8)}, (∀ f ∈ l, f.length ≤ 3) → (l.getD k []).length ≤ 3 := fun {l} h => by
      rcases Nat.lt_or_ge k l.length with h2 | h2
      · exact h _ (getD_mem l k [] h2)
      · rw [List.getD_eq_getElem?_getD, List.getElem?_eq_none h2]; simp
    have a := h1 hf
    have b := h1 hg
    rw [rdist]
    omega
theorem strs_at {fs : List (List UInt8)} {n k : Nat} (hl : fs.length = n) (hk : k < n) : (strs (fs.map bs)).getD k undef = .string (bs (fs.getD k [])) := by
  rw [strs_getD _ _ (by rw [List.length_map, hl]; exact hk)]
  simp [List.getD, List.getElem?_map, List.getElem?_eq_getElem (show k < fs.length by rw [hl]; exact hk)]

set_option maxRecDepth 20000 in
set_option maxHeartbeats 4000000 in
theorem rdistance_any (ad : Option Addr) (n c : Nat) (fs : List (List UInt8)) (ad2 : Option Addr) (n2 c2 : Nat) (gs : List (List UInt8)) (w : World) (h : Sl w ad n (strs (fs.map bs))) (h2 : Sl w ad2 n2 (strs (gs.map bs))) (hn2 : n = n2)
    (hf : ∀ f ∈ fs, f.length ≤ 3) (hg : ∀ f ∈ gs, f.length ≤ 3) (hn : n ≤ 1000) :
    Calls Tryd.prog 45 #[.slice ad n c, .slice ad2 n2 c2] w fun e w' => e = .returned (.int .i64 (rdist fs gs n)) ∧ Below w.heap.size w w' := by
  subst hn2
  obtain ⟨b, off, hsa⟩ := h
  obtain ⟨b2, off2, hsb⟩ := h2
  have hl1 : fs.length = n := by have := hsa.len; simpa [strs] using this
  have hl2 : gs.length = n := by have := hsb.len; simpa [strs] using this
  have HSA := Lib.hid hsa
  have HSB := Lib.hid hsb
  have HL1 := Lib.hid hl1
  have HL2 := Lib.hid hl2
  have HIA := Lib.hid (fun k (hk : k < n) (W : World) => SlAt.ix (c := c) hsa 23 9 Tryd.underlying23 cellsStr2 hk W)
  have HIB := Lib.hid (fun k (hk : k < n) (W : World) => SlAt.ix (c := c2) hsb 23 9 Tryd.underlying23 cellsStr2 hk W)
  have hb1 : n ≠ 0 → b < w.heap.size := fun h => hsa.block h
  have hb2 : n ≠ 0 → b2 < w.heap.size := fun h => hsb.block h
  have HBD := Lib.hid (rdist_bd hf hg)
  have HF3 : Hid (∀ k, k < n → (fs.getD k []).length ≤ 3) := fun k hk => hf _ (getD_mem fs k [] (by omega))
  have HG3 : Hid (∀ k, k < n → (gs.getD k []).length ≤ 3) := fun k hk => hg _ (getD_mem gs k [] (by omega))
  clear hsa hsb hl1 hl2 hf hg
  go_enter Tryd.func45, Tryd.ntmps45
  go_wp2_with fail
  go_loopw [5, 6] (fun u v wr => ∃ k : Nat, k ≤ n ∧ v = .int .i64 (k : Int) ∧ u = .int .i64 (rdist fs gs k) ∧ Below w.heap.size w wr) (fun _ v _ => n - (intOf v).toNat)
  case atStart => exact ⟨0, Nat.zero_le _, rfl, rfl, Below.refl _ _⟩
  case round =>
    obtain ⟨k, hkn, rfl, rfl, hbl⟩ := hrel
    have HBL := Lib.hid hbl
    have hz := hbl.size
    clear hbl
    obtain ⟨d1, d2⟩ := HBD.out k
    by_cases hlt : k < n
    · have hia := fun W => HIA.out k hlt W
      have hib := fun W => HIB.out k hlt W
      have ca := HSA.out.cell k hlt
      rw [strs_at HL1.out hlt] at ca
      have cb := HSB.out.cell k hlt
      rw [strs_at HL2.out hlt] at cb
      have hbw1 := hb1 (by omega)
      have hbw2 := hb2 (by omega)
      have ha : wr.cell? ⟨b, off + k, none⟩ = some (.string (bs (fs.getD k []))) := (HBL.out.cell (p := ⟨b, off + k, none⟩) hbw1).trans ca
      have hb : wr.cell? ⟨b2, off2 + k, none⟩ = some (.string (bs (gs.getD k []))) := (HBL.out.cell (p := ⟨b2, off2 + k, none⟩) hbw2).trans cb
      have q1 : b < wr.heap.size := by omega
      have q2 : b2 < wr.heap.size := by omega
      clear ca cb
      have s1 : (bs (fs.getD k [])).size ≤ 3 := by rw [bs_size]; exact HF3.out k hlt
      have s2 : (bs (gs.getD k [])).size ≤ 3 := by rw [bs_size]; exact HG3.out k hlt
      have HST : Hid (rdist fs gs (k + 1) = rdist fs gs k + max (((bs (fs.getD k [])).size : Int) - ((bs (gs.getD k [])).size : Int)) (-(((bs (fs.getD k [])).size : Int) - ((bs (gs.getD k [])).size : Int)))) := by unfold Hid; rw [rdist, bs_size, bs_size]
      generalize bs (fs.getD k []) = X at *
      generalize bs (gs.getD k []) = Y at *
      have HN : Hid (∃ z, rdist fs gs (k + 1) = z) := ⟨_, rfl⟩
      generalize rdist fs gs k = R at *
      have w1 : IntKind.i64.wrap ((X.size : Int) - (Y.size : Int)) = (X.size : Int) - (Y.size : Int) := IntWalk.i64_in _ (by omega)
      go_wp2_with fail
      refine wp_region_ext (by kernel_rfl) (by kernel_rfl) ?_
      repeat (go_big_quiet_step (fail))
      refine wpQuiet_nil ?_
      intro _ hw'
      obtain ⟨X9, hw''⟩ := hw'
      subst hw''
      have HX9 := Lib.hid (HBL.out.trans (X9.2.mono hz))
      clear w1
      go_wp2_with fail
      go_roundw
      case rel => exact ⟨k + 1, by omega, by go_num, by rw [HST.out], HX9.out⟩
      case measure => simp [intOf]; omega
    · obtain rfl : k = n := by omega
      go_wp2_with fail
      go_ret
      exact ⟨rfl, HBL.out⟩
end Go.Proofs.YtaolbfbnjbpljaaDoor
