import Derived.Test.YtboojpmahfjaoaaA8
import Derived.Deep.Cut
import Derived.Deep.CutRange
namespace Go.Proofs.Ytboojpmahfjaoaa
open Go.RowKit

def TryPost (cs : Array Value) (f : Nat → Bool) (ks : List ByteArray) (seed : Int) (N : Nat) (e : Ending) : Prop :=
  (fitK f (slots ks seed N) ks.length = true ∧ ∃ cs', e = .returned (.tuple #[.agg cs', .bool true]) ∧ SetV cs' (addAll f (slots ks seed N))) ∨
  (fitK f (slots ks seed N) ks.length = false ∧ e = .returned (.tuple #[.agg cs, .bool false]))

set_option maxRecDepth 100000 in
set_option maxHeartbeats 400000 in
theorem try_any (cs : Array Value) (f : Nat → Bool) (ad : Option Addr) (n c : Nat) (keys : List ByteArray) (seed : Int) (N : Nat) (w : World) (hv : SetV cs f) (hk : Sl w ad n (strs keys))
    (hm : ∀ s ∈ keys, s.size ≤ 9223372036854775807) (h0 : 0 ≤ seed) (hs1 : seed ≤ 100000) (hN : 0 < N) (hN1 : N ≤ 1000) :
    Calls Try.prog 24 #[.agg cs, .slice ad n c, .int .i64 seed, .int .i64 N] w fun e w' => TryPost cs f keys seed N e ∧ Below w.heap.size w w' := by
  have hcs := hv.1
  have h1 := hv.one
  have hmk : ∀ w, (Instr.makeSlice 65 (.int .i64 16) (.int .i64 16)).run Try.prog w = .ok (.slice (some ⟨w.heap.size, 0, none⟩) 16 16) (w.alloc (.cells (Array.replicate 16 (.int .u64 0)) 50)) := fun _ => by kernel_rfl
  have hclr := clear_new
  have hcp := fun Z => copy_new w Z cs hcs h1
  have hat : ∀ a W, (Instr.arrayAt 52 (.slice (some a) 16 16)).run Try.prog W = .ok (.pointer (some a)) W := fun _ _ => by kernel_rfl
  have hl := hk.len
  rw [strs_length] at hl
  have HL := Lib.hid hl
  have hmax := hk.max
  have HV := Lib.hid hv
  obtain ⟨b, off, hk⟩ := hk
  have HK := Lib.hid hk
  have HM := Lib.hid hm
  have hbl : n ≠ 0 → b < w.heap.size := fun h => hk.block h
  clear hl hv hk hm
  go_enter Try.func24, Try.ntmps24
  iterate 59 (first | go_values | go_skip | go_guarded | go_step | go_upon)
  refine wpList_load_row (o := ⟨some 21, _, _, _, _, _⟩) rfl 52 (.tmp 20) rfl (w.heap.size + 1 + 1) rfl 50 cs (0, 0) _ (heap3_new _ _ _ _) Try.underlying52 rfl (by rw [size52, hcs]) ?_
  iterate 3 (first | go_values | go_skip | go_guarded | go_step | go_upon)
  refine wpList_store_row (o := ⟨none, .store 52 (.tmp 11) (.tmp 21), _, _, _, _⟩) rfl 52 (.tmp 11) (.tmp 21) rfl (w.heap.size + 1 + 1 + 1) cs rfl rfl 52 _ (heap4_new _ _ _ _ _) (by rw [size52, hcs]) (by rw [hcs]; rfl) (all_of_list h1) ?_
  rw [setRow4]
  clear hmk hclr hcp hat
  obtain ⟨Z8, hz8, hW⟩ : ∃ Z8 : Array Value, Z8.size = 16 ∧ (((w.alloc (.cells cs 52)).alloc (.cells Z8 52)).alloc (.cells cs 50)).alloc (.cells cs 52) =
    (((w.alloc (.cells cs 52)).alloc (.cells #[.int .u64 0, .int .u64 0, .int .u64 0, .int .u64 0, .int .u64 0, .int .u64 0, .int .u64 0, .int .u64 0, .int .u64 0, .int .u64 0, .int .u64 0, .int .u64 0, .int .u64 0, .int .u64 0, .int .u64 0, .int .u64 0] 52)).alloc (.cells cs 50)).alloc (.cells cs 52) := ⟨_, rfl, rfl⟩
  rw [← hW]
  clear hW
  have hb0 : Below w.heap.size w ((((w.alloc (.cells cs 52)).alloc (.cells Z8 52)).alloc (.cells cs 50)).alloc (.cells cs 52)) :=
    ((((Below.refl _ w).alloc (Nat.le_refl _) _).alloc (by simp) _).alloc (by simp; omega) _).alloc (by simp; omega) _
  have hg4 : ((((w.alloc (.cells cs 52)).alloc (.cells Z8 52)).alloc (.cells cs 50)).alloc (.cells cs 52)).heap[w.heap.size]? = some (.cells cs 52 (0, 0)) := by
    rw [heap_alloc_old _ _ (by simp; omega), heap3_first]
  have hg8 : ((((w.alloc (.cells cs 52)).alloc (.cells Z8 52)).alloc (.cells cs 50)).alloc (.cells cs 52)).heap[w.heap.size + 1]? = some (.cells Z8 52 (0, 0)) := by
    rw [heap_alloc_old _ _ (by simp), heap_alloc_old _ _ (by simp)]
    have := heap_alloc_last (w.alloc (.cells cs 52)) (.cells Z8 52)
    simpa using this
  have hg11 := heap4_new w (.cells cs 52) (.cells Z8 52) (.cells cs 50) (.cells cs 52)
  have hsz : ((((w.alloc (.cells cs 52)).alloc (.cells Z8 52)).alloc (.cells cs 50)).alloc (.cells cs 52)).heap.size = w.heap.size + 4 := by simp
  generalize ((((w.alloc (.cells cs 52)).alloc (.cells Z8 52)).alloc (.cells cs 50)).alloc (.cells cs 52)) = W0 at *
  have HG4 := Lib.hid hg4
  have HG8 := Lib.hid hg8
  have HG11 := Lib.hid hg11
  have HSZ := Lib.hid hsz
  have hsz' : w.heap.size + 3 < W0.heap.size := by omega
  clear hg4 hg8 hg11 hsz
  go_wp2_with fail
  go_loopw [24] (fun i wr => ∃ (k : Nat) (cs' : Array Value), k ≤ n ∧ i = .int .i64 k ∧ fitK f (slots keys seed N) k = true ∧
      wr.heap[w.heap.size + 1 + 1 + 1]? = some (.cells cs' 52 (0, 0)) ∧ SetV cs' (addAll f ((slots keys seed N).take k)) ∧ Below (w.heap.size + 3) W0 wr) (fun i _ => n - (intOf i).toNat)
  case atStart => exact ⟨0, cs, Nat.zero_le _, rfl, rfl, HG11.out, HV.out.congr (fun i _ => by simp [addAll]), Below.refl _ _⟩
  case round =>
    obtain ⟨k, cs', hkn, rfl, hf, hgr, hset, hbr⟩ := hrel
    have HF := Lib.hid hf
    have HGR := Lib.hid hgr
    have HSET := Lib.hid hset
    have HBR := Lib.hid hbr
    have hbw := hb0.trans (hbr.mono (by omega))
    have hzr := hbr.size
    clear hf hgr hset hbr
    by_cases hlt : k < n
    · have hix := HK.out.ix (P := Try.prog) (c := c) 22 9 Try.underlying22 cells9 hlt
      have hcl := HK.out.cell k hlt
      have hks := HM.out _ (getD_mem keys k .empty (by rw [HL.out]; exact hlt))
      rw [strs_getD keys k (by rw [HL.out]; exact hlt)] at hcl
      have hclr := (hbw.cell (p := ⟨b, off + k, none⟩) (hbl (by omega))).trans hcl
      have HGD : Hid ((slots keys seed N).getD k 0 = hval (keys.getD k .empty) seed N) := by
        have : k < keys.length := by rw [HL.out]; exact hlt
        simp [slots, List.getD, List.getElem?_map, List.getElem?_eq_getElem this, Hid]
      have HTK : Hid ((slots keys seed N).take (k + 1) = (slots keys seed N).take k ++ [hval (keys.getD k .empty) seed N]) := by
        have : k < keys.length := by rw [HL.out]; exact hlt
        rw [← HGD.out]
        rw [List.take_succ_eq_append_getElem (by simpa [slots] using this)]
        simp [slots, List.getD, List.getElem?_eq_getElem this, Hid]
      generalize keys.getD k .empty = key at *
      have hq := hval_lt key seed N hN
      clear hcl
      go_wp2_with fail
      refine (value_any key seed N _ hks h0 hs1 hN (by omega)).mono ?_
      rintro e w2 ⟨rfl, hb2⟩
      generalize hval key seed N = q at *
      have HG2 := Lib.hid ((hb2.block _ (by omega)).trans HGR.out)
      have HB2 := Lib.hid (HBR.out.trans (hb2.mono (by omega)))
      have hzr2 := hb2.size
      clear hb2 hclr hbw HGR HBR
      cases hin : addAll f ((slots keys seed N).take k) q with
      | true =>
        have HIN := Lib.hid hin
        have HFF : Hid (fitK f (slots keys seed N) (k + 1) = false) := by
          unfold addAll at hin
          simp only [fitK, HGD.out, Hid]
          cases hfq : f q
          · rw [hfq] at hin; simp only [Bool.false_or] at hin; rw [hin]; simp
          · simp
        clear hin
        have HG42 := Lib.hid ((HB2.out.block _ (by omega)).trans HG4.out)
        have HG82 := Lib.hid ((HB2.out.block _ (by omega)).trans HG8.out)
        go_wp2_with fail
        refine (set_add_no _ q _ _ (HSET.out.at HG2.out) (by omega) HIN.out).mono ?_
        rintro e w3 ⟨rfl, rfl⟩
        go_upto_region 9 with (fail)
        go_step
        refine wpList_load_row (o := ⟨some 34, _, _, _, _, _⟩) rfl 52 (.tmp 4) rfl (w.heap.size) rfl 52 cs (0, 0) _ HG42.out Try.underlying52 rfl (by rw [size52, hcs]) ?_
        refine wpList_store_row (o := ⟨none, .store 52 (.tmp 8) (.tmp 34), _, _, _, _⟩) rfl 52 (.tmp 8) (.tmp 34) rfl (w.heap.size + 1) cs rfl rfl 52 _ HG82.out (by rw [size52, hcs]) (by rw [hcs]; exact hz8) (all_of_list h1) ?_
        go_wp2_with fail
        refine bodyPost_ret (run_results24 _ _ (w.heap.size + 1) cs false rfl rfl (setRow_heap _ _ _ _ _ _ HG82.out) hcs) rfl ?_
        exact ⟨.inr ⟨by have := fitK_false HFF.out hlt; rw [← HL.out] at this; exact this, rfl⟩, below_setRow (hb0.trans (HB2.out.mono (by omega))) (by omega) _⟩
      | false =>
        have HIN := Lib.hid hin
        have HFF : Hid (fitK f (slots keys seed N) (k + 1) = true) := by
          unfold addAll at hin
          simp only [Bool.or_eq_false_iff] at hin
          simp only [fitK, HGD.out, HF.out, hin.1, hin.2, Hid]
          rfl
        clear hin
        go_wp2_with fail
        refine (set_add_row _ q _ _ _ HG2.out HSET.out (by omega) HIN.out).mono ?_
        rintro e w3 ⟨rfl, ⟨cs3, hg3, hset3⟩, hgb3⟩
        have HG3 := Lib.hid hg3
        have HSET3 := Lib.hid hset3
        have HGB3 := Lib.hid hgb3
        clear hg3 hset3 hgb3
        go_wp2_with fail
        go_roundw
        case rel =>
          refine ⟨k + 1, cs3, by omega, by go_num, HFF.out, HG3.out, HSET3.out.congr (fun j _ => ?_), HB2.out.grown HGB3.out (by omega) (fun x hx => by injection hx with hx; omega)⟩
          unfold plus addAll
          rw [HTK.out, List.any_append, Bool.or_assoc]
          congr 1
          congr 1
          rw [Bool.eq_iff_iff]
          simp
          omega
        case measure => simp [intOf]; omega
    · obtain rfl : k = n := by omega
      have HG82 := Lib.hid ((HBR.out.block _ (by omega)).trans HG8.out)
      have hs' := HSET.out.1
      have hone' := HSET.out.one
      go_upto_region 11 with (fail)
      go_step
      refine wpList_load_row (o := ⟨some 36, _, _, _, _, _⟩) rfl 52 (.tmp 11) rfl (w.heap.size + 1 + 1 + 1) rfl 52 cs' (0, 0) _ HGR.out Try.underlying52 rfl (by rw [size52, hs']) ?_
      refine wpList_store_row (o := ⟨none, .store 52 (.tmp 8) (.tmp 36), _, _, _, _⟩) rfl 52 (.tmp 8) (.tmp 36) rfl (w.heap.size + 1) cs' rfl rfl 52 _ HG82.out (by rw [size52, hs']) (by rw [hs']; exact hz8) (all_of_list hone') ?_
      go_wp2_with fail
      refine bodyPost_ret (run_results24 _ _ (w.heap.size + 1) cs' true rfl rfl (setRow_heap _ _ _ _ _ _ HG82.out) hs') rfl ?_
      refine ⟨.inl ⟨by rw [HL.out]; exact HF.out, cs', rfl, ?_⟩, below_setRow hbw (by omega) _⟩
      have := HSET.out
      rwa [List.take_of_length_le (by simp [slots, HL.out])] at this
end Go.Proofs.Ytboojpmahfjaoaa
