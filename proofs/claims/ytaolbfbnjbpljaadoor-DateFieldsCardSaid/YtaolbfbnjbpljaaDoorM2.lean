/- Walks: the fields with names, where there are none; awake. -/
import Derived.Test.YtaolbfbnjbpljaaDoorM1
namespace Go.Proofs.YtaolbfbnjbpljaaDoor
open Go.RowKit
attribute [local go_sem] Ext.cell Ext.frozen
attribute [local go_sem ↓] Go.wp_at_zero Go.wp_at_succ

set_option maxRecDepth 20000 in
set_option maxHeartbeats 4000000 in
theorem field_MMM_no (v0 v1 v2 v3 v4 v5 v6 v7 v8 v9 v10 v11 v12 v13 v15 wd : Value) (a : Option Addr) (l c : Nat) (hl : ((l : Int) == 12) = false) (y m d : Nat) (w : World) : Calls Tryd.prog 74 #[.agg #[v0, v1, v2, v3, v4, v5, v6, v7, v8, v9, v10, v11, v12, v13, .slice a l c, v15, .int .i64 (y : Int), .int .i64 (m : Int), .int .i64 (d : Int), wd], .string ⟨#[77, 77, 77]⟩] w fun e w' => e = .returned (.tuple #[.string ⟨#[]⟩, .int .i64 18]) ∧ Below w.heap.size w w' := by
  have hl2 : decide ((l : Int) = 12) = false := by simpa using hl
  go_enter Tryd.func74, Tryd.ntmps74
  go_wp2_with fail
  go_ret2
  exact ⟨rfl, (Below.refl w.heap.size w).alloc (Nat.le_refl _) _⟩

set_option maxRecDepth 20000 in
set_option maxHeartbeats 4000000 in
theorem field_E_no (v0 v1 v2 v3 v4 v5 v6 v7 v8 v9 v10 v11 v12 v13 v14 wd : Value) (a : Option Addr) (l c : Nat) (hl : ((l : Int) == 7) = false) (y m d : Nat) (w : World) : Calls Tryd.prog 74 #[.agg #[v0, v1, v2, v3, v4, v5, v6, v7, v8, v9, v10, v11, v12, v13, v14, .slice a l c, .int .i64 (y : Int), .int .i64 (m : Int), .int .i64 (d : Int), wd], .string ⟨#[69]⟩] w fun e w' => e = .returned (.tuple #[.string ⟨#[]⟩, .int .i64 18]) ∧ Below w.heap.size w w' := by
  have hl2 : decide ((l : Int) = 7) = false := by simpa using hl
  go_enter Tryd.func74, Tryd.ntmps74
  go_wp2_with fail
  go_ret2
  exact ⟨rfl, (Below.refl w.heap.size w).alloc (Nat.le_refl _) _⟩

def d1 (n : Nat) : List UInt8 := if n < 10 then [dgt n] else d2 n
theorem dec_d1 {n : Nat} (h : n < 100) : Lib.decDigits n = d1 n := by
  unfold d1
  split
  · rename_i h1; exact dec_1 h1
  · exact dec_2 (by omega) h
/-- a field without a name -/
def FVn (y m d : Nat) (f : List UInt8) : Option (List UInt8) :=
  if f = [121] then some (d4 y) else if f = [77] then some (d1 m) else if f = [77, 77] then some (d2 m) else if f = [100] then some (d1 d) else if f = [100, 100] then some (d2 d) else none
theorem FVn_len {y m d : Nat} (f t : List UInt8) (h : FVn y m d f = some t) : t.length ≤ 1000000 := by
  unfold FVn at h
  have e4 : ∀ n, (d4 n).length ≤ 1000000 := fun n => by simp [d4]
  have e2 : ∀ n, (d2 n).length ≤ 1000000 := fun n => by simp [d2]
  have e1 : ∀ n, (d1 n).length ≤ 1000000 := fun n => by unfold d1; split <;> simp [d2]
  repeat' split at h
  all_goals first | (cases h; done) | (injection h with h; subst h; first | exact e4 _ | exact e1 _ | exact e2 _)
theorem field_none (v0 v1 v2 v3 v4 v5 v6 v7 v8 v9 v10 v11 v12 v13 wd : Value) (a14 a15 : Option Addr) (l14 c14 l15 c15 : Nat) (h14 : ((l14 : Int) == 12) = false) (h15 : ((l15 : Int) == 7) = false) (y m d : Nat) (f : List UInt8) (w : World) (ht : Tab10 w) (hy1 : 1000 ≤ y) (hy : y < 10000) (hm : m < 100) (hd : d < 100) (hf : isFld f = true) :
    Calls Tryd.prog 74 #[.agg #[v0, v1, v2, v3, v4, v5, v6, v7, v8, v9, v10, v11, v12, v13, .slice a14 l14 c14, .slice a15 l15 c15, .int .i64 (y : Int), .int .i64 (m : Int), .int .i64 (d : Int), wd], .string (bs f)] w fun e w' => e = .returned (fRes (FVn y m d f)) ∧ Below w.heap.size w w' := by
  unfold isFld fieldL at hf
  rw [List.contains_iff_mem] at hf
  simp only [List.mem_cons, List.not_mem_nil, or_false] at hf
  rcases hf with h | h | h | h | h | h | h <;> subst h
  · have := field_y v0 v1 v2 v3 v4 v5 v6 v7 v8 v9 v10 v11 v12 v13 (.slice a14 l14 c14) (.slice a15 l15 c15) wd y m d w ht (by omega)
    rwa [dec_4 hy1 hy] at this
  · have := field_M v0 v1 v2 v3 v4 v5 v6 v7 v8 v9 v10 v11 v12 v13 (.slice a14 l14 c14) (.slice a15 l15 c15) wd y m d w hm
    rwa [dec_d1 hm] at this
  · exact field_MM v0 v1 v2 v3 v4 v5 v6 v7 v8 v9 v10 v11 v12 v13 (.slice a14 l14 c14) (.slice a15 l15 c15) wd y m d w hm
  · exact field_MMM_no v0 v1 v2 v3 v4 v5 v6 v7 v8 v9 v10 v11 v12 v13 (.slice a15 l15 c15) wd a14 l14 c14 h14 y m d w
  · exact field_E_no v0 v1 v2 v3 v4 v5 v6 v7 v8 v9 v10 v11 v12 v13 (.slice a14 l14 c14) wd a15 l15 c15 h15 y m d w
  · have := field_d v0 v1 v2 v3 v4 v5 v6 v7 v8 v9 v10 v11 v12 v13 (.slice a14 l14 c14) (.slice a15 l15 c15) wd y m d w hd
    rwa [dec_d1 hd] at this
  · exact field_dd v0 v1 v2 v3 v4 v5 v6 v7 v8 v9 v10 v11 v12 v13 (.slice a14 l14 c14) (.slice a15 l15 c15) wd y m d w hd

/-- awake's pattern -/
def awP : List UInt8 := [100, 46, 77, 77, 46, 121]
def awS : List UInt8 := [121, 77, 100]
theorem aw_of : ofV 2026 2 10 = (20494, 0) := by
  have h : vldP 2026 2 10 := by decide
  have h1 := ofV_nat h
  have h2 : num 2026 2 10 = 46061 := by decide +kernel
  rw [h2] at h1
  exact h1
theorem aw_civ : civV 20494 = (((2026 : Nat) : Int), ((2 : Nat) : Int), ((10 : Nat) : Int), 0) := by
  have h : vldP 2026 2 10 := by decide
  have h1 := civV_of h
  have h2 : num 2026 2 10 = 46061 := by decide +kernel
  rw [h2] at h1
  exact h1
theorem aw_best : bestV [(awS, awP)] [121, 77, 77, 100, 100] = (((0 : Nat) : Int), 0) := by decide +kernel
theorem aw_own : ownV awP = true := by
  refine ownV_yes (k := 13) (by decide) ?_
  rw [date_eq]; decide +kernel
theorem aw_runs : runsV awP.length awP = some [[100], [77, 77], [121]] := by decide +kernel
theorem aw_text : textV (FVn 2026 2 10) awP.length awP = some [49, 48, 46, 48, 50, 46, 50, 48, 50, 54] := by decide +kernel

set_option maxRecDepth 20000 in
set_option maxHeartbeats 8000000 in
theorem awake_any (w : World) (ht : Tab10 w) : Calls Tryd.prog 15 #[] w fun e w' => e = .returned (.bool true) ∧ Below w.heap.size w w' := by
  have HOF := Lib.hid (fun w => of_any 2026 2 10 w)
  rw [aw_of] at HOF
  have HFM : Hid (∀ w1, Below w.heap.size w w1 → Calls Tryd.prog 26 #[.agg #[.string ⟨#[]⟩, .string ⟨#[]⟩, .string ⟨#[]⟩, .slice none 0 0, .slice none 0 0, .string ⟨#[]⟩, .string ⟨#[]⟩, .string ⟨#[]⟩, .string ⟨#[]⟩, .int .i64 0, .int .i64 0, .slice none 0 0, .slice none 0 0, .slice (some ⟨w1.heap.size, 0, none⟩) 1 1, .slice none 0 0, .slice none 0 0], .string (bs [121, 77, 77, 100, 100]), .int .i64 20494]
      (w1.alloc (.cells #[.string (bs awS), .string (bs awP)] 39 (0, 0))) fun e w' => e = .returned (.tuple #[.string ⟨#[49, 48, 46, 48, 50, 46, 50, 48, 50, 54]⟩, .int .i64 0]) ∧ Below (w1.alloc (.cells #[.string (bs awS), .string (bs awP)] 39 (0, 0))).heap.size (w1.alloc (.cells #[.string (bs awS), .string (bs awP)] 39 (0, 0))) w') := by
    intro w1 hb1
    have hb2 : Below w.heap.size w (w1.alloc (.cells #[.string (bs awS), .string (bs awP)] 39 (0, 0))) := hb1.alloc hb1.size _
    have hpat : PatAt (w1.alloc (.cells #[.string (bs awS), .string (bs awP)] 39 (0, 0))) (some ⟨w1.heap.size, 0, none⟩) 1 [(awS, awP)] w1.heap.size 0 := by
      refine ⟨rfl, by decide, fun _ => rfl, ?_, ?_⟩
      · intro i hi
        obtain rfl : i = 0 := by omega
        simp [go_sem]
      · intro i hi
        obtain rfl : i = 0 := by omega
        simp [go_sem]
    have := format_ok (.string ⟨#[]⟩) (.string ⟨#[]⟩) (.string ⟨#[]⟩) (.slice none 0 0) (.slice none 0 0) (.string ⟨#[]⟩) (.string ⟨#[]⟩) (.string ⟨#[]⟩) (.string ⟨#[]⟩) (.int .i64 0) (.int .i64 0) (.slice none 0 0) (.slice none 0 0) (.slice none 0 0) (.slice none 0 0)
      (some ⟨w1.heap.size, 0, none⟩) 1 1 [(awS, awP)] w1.heap.size 0 (bs [121, 77, 77, 100, 100]) 20494 2026 2 10 0 awP (FVn 2026 2 10) (w1.alloc (.cells #[.string (bs awS), .string (bs awP)] 39 (0, 0)))
      hpat
      (by rw [bs_size]; decide) (by simp [awS]) aw_civ (by decide) (by decide) (by rw [bs_data]; exact aw_best) (by decide) rfl (by decide) aw_own aw_runs
      (fun f hf _ w' hb => field_none _ _ _ _ _ _ _ _ _ _ _ _ _ _ _ _ _ _ _ _ _ (by decide) (by decide) 2026 2 10 f w' (ht.on (hb2.trans (hb.mono hb2.size))) (by decide) (by decide) (by decide) (by decide) hf) FVn_len
    rw [aw_text] at this
    exact this
  go_enter Tryd.func15, Tryd.ntmps15
  go_wp2_with fail
  refine (HOF.out _).mono ?_
  rintro e w1 ⟨rfl, hb1⟩
  have HB1 := Lib.hid hb1
  have HFW := Lib.hid (HFM.out w1 hb1)
  clear hb1 HFM
  go_wp2_with fail
  refine HFW.out.mono ?_
  rintro e w2 ⟨rfl, hb2⟩
  have HB2 := Lib.hid hb2
  clear hb2
  go_wp2_with fail
  go_ret
  exact ⟨rfl, HB1.out.trans (((Below.refl w1.heap.size w1).alloc (Nat.le_refl _) _).trans (HB2.out.mono (by simp)) |>.mono HB1.out.size)⟩
end Go.Proofs.YtaolbfbnjbpljaaDoor
