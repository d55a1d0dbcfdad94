/- Plain: the lengths of fields by their kinds, as a map; the distance of two. -/
import Derived.Test.YtaolbfbnjbpljaaDoorV1
import Derived.Maps.Views
namespace Go.Proofs.YtaolbfbnjbpljaaDoor
open Go.Maps

/-- the first letter of each field -/
def hds (fs : List (List UInt8)) : List (List UInt8) := fs.map (·.take 1)
def putF (D : DataW Unit) (f : List UInt8) : DataW Unit := D.put (.string (f.take 1)) (.lit (.int .i64 (f.length : Int)))
def lenMap (fs : List (List UInt8)) : DataW Unit := fs.foldl putF (.map [])
theorem lenMap_snoc (fs : List (List UInt8)) (f : List UInt8) : lenMap (fs ++ [f]) = putF (lenMap fs) f := by unfold lenMap; rw [List.foldl_append]; rfl
theorem key_str (l : List UInt8) : WideAt.IsKeyLit (.string l) := trivial
theorem fold_isMap : ∀ (fs : List (List UInt8)) (m : DataW Unit), IsMap m → IsMap (fs.foldl putF m)
  | [], _, h => h
  | _f :: fs, _m, h => fold_isMap fs _ (h.put _ _)
theorem fold_tidy : ∀ (fs : List (List UInt8)) (m : DataW Unit), Tidy m → Tidy (fs.foldl putF m)
  | [], _, h => h
  | _f :: fs, _m, h => fold_tidy fs _ (h.put (key_str _) _)
theorem fold_has : ∀ (fs : List (List UInt8)) (m : DataW Unit) (k : List UInt8), IsMap m → has (fs.foldl putF m) (.string k) = (has m (.string k) || (hds fs).contains k)
  | [], m, k, _ => by simp [hds]
  | f :: fs, m, k, h => by
    rw [List.foldl_cons, fold_has fs (putF m f) k (h.put _ _)]
    unfold putF hds
    rw [List.map_cons, List.contains_cons]
    by_cases e : f.take 1 = k
    · rw [e, has_put_same h (key_str k)]; simp
    · rw [has_put_other (by intro e2; injection e2 with e2; exact e e2.symm)]
      have : (k == f.take 1) = false := by rw [beq_eq_false_iff_ne]; exact fun e2 => e e2.symm
      rw [this]; simp
theorem fold_at_other : ∀ (fs : List (List UInt8)) (m : DataW Unit) (k : List UInt8) (z : DataW Unit), k ∉ hds fs → (fs.foldl putF m).atKey (.string k) z = m.atKey (.string k) z
  | [], _, _, _, _ => rfl
  | f :: fs, m, k, z, h => by
    simp only [hds, List.map_cons, List.mem_cons, not_or] at h
    rw [List.foldl_cons, fold_at_other fs _ k z h.2]
    unfold putF
    exact atKey_put_other (by intro e; injection e with e; exact h.1 e) _ _
theorem fold_at : ∀ (fs : List (List UInt8)) (m : DataW Unit) (f : List UInt8) (z : DataW Unit), IsMap m → (hds fs).Nodup → f ∈ fs → (fs.foldl putF m).atKey (.string (f.take 1)) z = .lit (.int .i64 (f.length : Int))
  | [], _, _, _, _, _, h => by cases h
  | g :: fs, m, f, z, hm, hn, h => by
    simp only [hds, List.map_cons, List.nodup_cons] at hn
    rw [List.foldl_cons]
    rcases List.mem_cons.1 h with e | e
    · subst e
      rw [fold_at_other fs _ _ z hn.1]
      unfold putF
      exact atKey_put_same hm (key_str _) _ _
    · exact fold_at fs _ f z (hm.put _ _) hn.2 e
theorem fold_size : ∀ (fs : List (List UInt8)) (m : DataW Unit), Tidy m → (hds fs).Nodup → (∀ k ∈ hds fs, has m (.string k) = false) → size (fs.foldl putF m) = size m + fs.length
  | [], _, _, _, _ => rfl
  | f :: fs, m, ht, hn, h => by
    simp only [hds, List.map_cons, List.nodup_cons] at hn
    rw [List.foldl_cons, fold_size fs (putF m f) (ht.put (key_str _) _) hn.2 ?_]
    · unfold putF
      rw [size_put ht, if_neg (by rw [h _ (by simp [hds])]; simp), List.length_cons]; omega
    · intro k hk
      unfold putF
      rw [has_put_other (by intro e; injection e with e; exact hn.1 (by rw [← e]; exact hk))]
      exact h k (by simp only [hds, List.map_cons, List.mem_cons]; exact .inr hk)
theorem has_len (fs : List (List UInt8)) (k : List UInt8) : has (lenMap fs) (.string k) = (hds fs).contains k := by
  unfold lenMap; rw [fold_has fs _ k isMap_empty]; rfl
theorem at_len {fs : List (List UInt8)} {f : List UInt8} (hn : (hds fs).Nodup) (h : f ∈ fs) (z : DataW Unit) : (lenMap fs).atKey (.string (f.take 1)) z = .lit (.int .i64 (f.length : Int)) := fold_at fs _ f z isMap_empty hn h
theorem size_len' {fs : List (List UInt8)} (hn : (hds fs).Nodup) : size (lenMap fs) = fs.length := by
  unfold lenMap; rw [fold_size fs _ tidy_empty hn (fun _ _ => rfl)]
  show 0 + _ = _
  omega

/-- the kinds of a skeleton's fields are different -/
theorem stF_heads {s : List UInt8} : ∀ {i : Nat} {o r}, i ≤ 4 → stF s i = some (o, r) → List.Sublist (hds o) ((kindsL.take i).map fun k => [k])
  | 0, o, r, _, h => by simp [stF] at h; obtain ⟨rfl, rfl⟩ := h; exact List.Sublist.refl _
  | i + 1, o, r, hi, h => by
    rw [stF] at h
    cases hs : stF s i with
    | none => rw [hs] at h; cases h
    | some st =>
      obtain ⟨o', r'⟩ := st
      have ih := stF_heads (by omega) hs
      have hil : i < kindsL.length := by simp [kindsL]; omega
      have htk : (kindsL.take (i + 1)).map (fun k => [k]) = (kindsL.take i).map (fun k => [k]) ++ [[kindsL.getD i 0]] := by
        rw [List.take_succ_eq_append_getElem hil, List.map_append]
        simp [List.getD, List.getElem?_eq_getElem hil]
      rw [htk]
      rw [hs] at h
      change stepF _ (o', r') = some (o, r) at h
      unfold stepF at h
      split at h
      · injection h with h; injection h with h1 h2; subst h1 h2
        exact ih.trans (List.sublist_append_left _ _)
      · rename_i hne
        split at h
        · injection h with h; injection h with h1 h2; subst h1 h2
          unfold hds
          rw [List.map_append]
          refine List.Sublist.append ih ?_
          have : (r'.takeWhile (· == kindsL.getD i 0)).take 1 = [kindsL.getD i 0] := by
            cases r' with
            | nil => exact absurd rfl hne
            | cons c r' =>
              rw [List.takeWhile_cons] at hne ⊢
              split at hne
              · rename_i hc
                rw [if_pos hc]
                have : c = kindsL.getD i 0 := by simpa using hc
                simp [this]
              · exact absurd rfl hne
          simp only [List.map_cons, List.map_nil]
          rw [this]
          exact List.Sublist.refl _
        · cases h
theorem fieldsV_nodup {s : List UInt8} {fs} (h : fieldsV s = some fs) : (hds fs).Nodup := by
  unfold fieldsV at h
  cases hs : stF s 4 with
  | none => rw [hs] at h; cases h
  | some st =>
    obtain ⟨o, r⟩ := st
    rw [hs] at h
    have h1 := stF_heads (by omega) hs
    simp only at h
    split at h
    · injection h with h
      subst h
      exact List.Nodup.sublist h1 (by decide)
    · cases h

/-- the distance of a field from that of the same kind -/
def dist1 (gs : List (List UInt8)) (f : List UInt8) : Int :=
  match gs.find? (fun g => g.take 1 == f.take 1) with
  | some g => max ((f.length : Int) - (g.length : Int)) ((g.length : Int) - (f.length : Int))
  | none => 0
def sumD (gs fs : List (List UInt8)) : Int := (fs.map (dist1 gs)).sum
def allIn (fs gs : List (List UInt8)) : Bool := fs.all fun f => (hds gs).contains (f.take 1)
def distV (fs gs : List (List UInt8)) : Int × Bool := if allIn fs gs then (sumD gs fs, decide (fs.length = gs.length)) else (0, false)
theorem sum_one (gs : List (List UInt8)) : ∀ (fs : List (List UInt8)) (p : List UInt8 → Bool) (f0 : List UInt8), (hds fs).Nodup → f0 ∈ fs → p f0 = false →
    sumD gs (fs.filter fun f => p f || f.take 1 == f0.take 1) = sumD gs (fs.filter p) + dist1 gs f0
  | [], _, _, _, h, _ => by cases h
  | g :: fs, p, f0, hn, h, hp => by
    simp only [hds, List.map_cons, List.nodup_cons] at hn
    rcases List.mem_cons.1 h with e | e
    · subst e
      have h1 : ∀ x ∈ fs, (x.take 1 == f0.take 1) = false := fun x hx => by
        rw [beq_eq_false_iff_ne]; exact fun e => hn.1 (by rw [← e]; exact List.mem_map.2 ⟨x, hx, rfl⟩)
      have h2 : fs.filter (fun f => p f || f.take 1 == f0.take 1) = fs.filter p := List.filter_congr fun x hx => by rw [h1 x hx, Bool.or_false]
      rw [List.filter_cons, List.filter_cons, hp, h2]
      simp [sumD]
      omega
    · have ih := sum_one gs fs p f0 hn.2 e hp
      have h1 : (g.take 1 == f0.take 1) = false := by
        rw [beq_eq_false_iff_ne]; exact fun e2 => hn.1 (by rw [e2]; exact List.mem_map.2 ⟨f0, e, rfl⟩)
      rw [List.filter_cons, List.filter_cons, h1, Bool.or_false]
      split
      · simp only [sumD, List.map_cons, List.sum_cons] at ih ⊢; omega
      · exact ih
end Go.Proofs.YtaolbfbnjbpljaaDoor
