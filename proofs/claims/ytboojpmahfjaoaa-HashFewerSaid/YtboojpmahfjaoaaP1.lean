/- Plain facts on the table of seeds: slots are different, the order of the keys does not matter. -/
import Derived.Test.YtboojpmahfjaoaaA18
namespace Go.Proofs.Ytboojpmahfjaoaa
open Go.RowKit

theorem perm_range {sl : List Nat} {n : Nat} (hd : sl.Nodup) (hl : ∀ x ∈ sl, x < n) (hn : sl.length = n) : sl.Perm (List.range n) := by
  rw [List.perm_ext_iff_of_nodup hd List.nodup_range]
  intro x
  rw [List.mem_range]
  constructor
  · exact hl x
  · intro hx
    refine Classical.byContradiction fun h => ?_
    have h1 : (x :: sl).Nodup := List.nodup_cons.2 ⟨h, hd⟩
    have h2 := List.Nodup.length_le_of_subset (l₂ := List.range n) h1 (fun y hy => by
      rw [List.mem_range]
      rcases List.mem_cons.1 hy with e | e
      · rw [e]; exact hx
      · exact hl y e)
    simp at h2
    omega

theorem fitK_iff (f : Nat → Bool) (sl : List Nat) : ∀ k, k ≤ sl.length → (fitK f sl k = true ↔ (sl.take k).Nodup ∧ ∀ x ∈ sl.take k, f x = false)
  | 0, _ => by simp [fitK]
  | k + 1, h => by
    have ih := fitK_iff f sl k (by omega)
    have e : sl.getD k 0 = sl[k] := by simp [List.getD, List.getElem?_eq_getElem (show k < sl.length by omega)]
    rw [List.take_succ_eq_append_getElem (by omega)]
    simp only [fitK, Bool.and_eq_true, ih, e, Bool.not_eq_true', List.nodup_append, List.mem_append, List.mem_singleton, List.any_eq_false, beq_iff_eq]
    constructor
    · rintro ⟨⟨h1, h2⟩, h3, h4⟩
      refine ⟨⟨h1, by simp, fun a ha b hb => ?_⟩, fun x hx => ?_⟩
      · rw [hb]; exact h4 a ha
      · rcases hx with hx | hx
        · exact h2 x hx
        · rw [hx]; exact h3
    · rintro ⟨⟨h1, _, h3⟩, h4⟩
      exact ⟨⟨h1, fun x hx => h4 x (.inl hx)⟩, h4 _ (.inr rfl), fun x hx => h3 x hx _ rfl⟩

theorem goodSeed_iff {f : Nat → Bool} {ks : List ByteArray} {N s : Nat} : goodSeed f ks N s = true ↔ (slots ks (s : Int) N).Nodup ∧ ∀ x ∈ slots ks (s : Int) N, f x = false := by
  unfold goodSeed
  have hl : (slots ks (s : Int) N).length = ks.length := by simp [slots]
  rw [← hl, fitK_iff _ _ _ (Nat.le_refl _), List.take_length]

/-- what the search has found -/
structure Found (N : Nat) (L : Nat → List ByteArray) (l : List Nat) (f : Nat → Bool) (sd : Nat → Nat) : Prop where
  seed : ∀ b ∈ l, L b ≠ [] → 1 ≤ sd b ∧ sd b ≤ 100000
  nodup : ∀ b ∈ l, (slots (L b) (sd b : Nat) N).Nodup
  free : ∀ b ∈ l, ∀ x ∈ slots (L b) (sd b : Nat) N, f x = false
  sep : ∀ b ∈ l, ∀ b' ∈ l, b ≠ b' → ∀ x ∈ slots (L b) (sd b : Nat) N, x ∉ slots (L b') (sd b' : Nat) N

theorem procL_found {N : Nat} {L : Nat → List ByteArray} : ∀ {l : List Nat} {f : Nat → Bool} {sd : Nat → Nat} {f' : Nat → Bool} {sd' : Nat → Nat}, l.Nodup → procL N L l f sd = some (f', sd') →
    Found N L l f sd' ∧ ∀ b, b ∉ l → sd' b = sd b
  | [], f, sd, f', sd', _, h => by
    simp [procL] at h
    obtain ⟨_, rfl⟩ := h
    exact ⟨⟨fun b hb => by simp at hb, fun b hb => by simp at hb, fun b hb => by simp at hb, fun b hb => by simp at hb⟩, fun _ _ => rfl⟩
  | b :: r, f, sd, f', sd', hn, h => by
    obtain ⟨hb, hr⟩ := List.nodup_cons.1 hn
    simp only [procL] at h
    by_cases h0 : (L b).length = 0
    · rw [if_pos h0] at h
      obtain ⟨ih, hs⟩ := procL_found hr h
      have e : L b = [] := List.length_eq_zero_iff.1 h0
      have es : ∀ s : Int, slots (L b) s N = [] := fun s => by rw [e]; rfl
      refine ⟨⟨fun c hc hne => ?_, fun c hc => ?_, fun c hc x hx => ?_, fun c hc c' hc' hne x hx => ?_⟩, fun c hc => hs c (fun h => hc (List.mem_cons_of_mem _ h))⟩
      · rcases List.mem_cons.1 hc with rfl | hc
        · exact absurd e hne
        · exact ih.seed c hc hne
      · rcases List.mem_cons.1 hc with rfl | hc
        · rw [es]; exact List.nodup_nil
        · exact ih.nodup c hc
      · rcases List.mem_cons.1 hc with rfl | hc
        · rw [es] at hx; simp at hx
        · exact ih.free c hc x hx
      · rcases List.mem_cons.1 hc with rfl | hc
        · rw [es] at hx; simp at hx
        · rcases List.mem_cons.1 hc' with rfl | hc'
          · rw [es]; simp
          · exact ih.sep c hc c' hc' hne x hx
    · rw [if_neg h0] at h
      cases hsd : seedOf f (L b) N with
      | none => rw [hsd] at h; simp at h
      | some s =>
        rw [hsd] at h
        obtain ⟨g1, g2, g3⟩ := seedOf_spec hsd
        rw [goodSeed_iff] at g3
        obtain ⟨ih, hs⟩ := procL_found hr h
        have eb : sd' b = s := by rw [hs b hb]; simp [upd]
        have hfr : ∀ c ∈ r, ∀ x ∈ slots (L c) (sd' c : Nat) N, f x = false ∧ x ∉ slots (L b) (s : Int) N := fun c hc x hx => by
          have := ih.free c hc x hx
          simp only [addAll, Bool.or_eq_false_iff, List.any_eq_false, beq_iff_eq] at this
          exact ⟨this.1, fun hm => this.2 x hm rfl⟩
        refine ⟨⟨fun c hc hne => ?_, fun c hc => ?_, fun c hc x hx => ?_, fun c hc c' hc' hne x hx => ?_⟩, fun c hc => ?_⟩
        · rcases List.mem_cons.1 hc with rfl | hc
          · rw [eb]; exact ⟨g1, g2⟩
          · exact ih.seed c hc hne
        · rcases List.mem_cons.1 hc with rfl | hc
          · rw [eb]; exact g3.1
          · exact ih.nodup c hc
        · rcases List.mem_cons.1 hc with rfl | hc
          · rw [eb] at hx; exact g3.2 x hx
          · exact (hfr c hc x hx).1
        · rcases List.mem_cons.1 hc with e1 | k1
          · rcases List.mem_cons.1 hc' with e2 | k2
            · exact absurd (e1.trans e2.symm) hne
            · rw [e1, eb] at hx
              exact fun h => (hfr c' k2 x h).2 hx
          · rcases List.mem_cons.1 hc' with e2 | k2
            · rw [e2, eb]; exact (hfr c k1 x hx).2
            · exact ih.sep c k1 c' k2 hne x hx
        · rw [hs c (fun h => hc (List.mem_cons_of_mem _ h))]
          have : c ≠ b := fun e => hc (by rw [e]; exact List.mem_cons_self)
          simp [upd, this]

theorem refOrd_nodup (ln : Nat → Nat) (n m : Nat) : (refOrd ln n m).Nodup :=
  List.Pairwise.imp (fun {x y} h e => by subst e; exact Ins.R.irrefl h) (refOrd_sorted ln n m)

theorem dupK_iff (keys : List ByteArray) : ∀ k, k ≤ keys.length → (dupK keys k = false ↔ (keys.take k).Nodup)
  | 0, _ => by simp [dupK]
  | k + 1, h => by
    have ih := dupK_iff keys k (by omega)
    have e : keys.getD k .empty = keys[k] := by simp [List.getD, List.getElem?_eq_getElem (show k < keys.length by omega)]
    rw [List.take_succ_eq_append_getElem (by omega)]
    simp only [dupK, Bool.or_eq_false_iff, ih, e, List.nodup_append]
    constructor
    · rintro ⟨h1, h2⟩
      refine ⟨h1, by simp, fun a ha b hb => ?_⟩
      rw [List.mem_singleton] at hb
      intro e
      have : memB keys[k] (keys.take k) = true := by rw [memB_iff, ← hb, ← e]; exact ha
      rw [h2] at this; cases this
    · rintro ⟨h1, _, h3⟩
      refine ⟨h1, ?_⟩
      rw [← Bool.not_eq_true, memB_iff]
      exact fun hm => h3 _ hm _ (by simp) rfl
theorem dupK_all (keys : List ByteArray) : dupK keys keys.length = false ↔ keys.Nodup := by
  rw [dupK_iff _ _ (Nat.le_refl _), List.take_length]

theorem errB_zero {keys : List ByteArray} (h : errB keys = 0) : keys.Nodup ∧ ∃ f sd, built keys = some (f, sd) := by
  unfold errB at h
  cases hd : dupK keys keys.length with
  | true => simp [hd] at h
  | false =>
    refine ⟨(dupK_all keys).1 hd, ?_⟩
    cases hb : built keys with
    | none => simp [hd, hb] at h
    | some x => exact ⟨x.1, x.2, rfl⟩

theorem map_inj_of_nodup {α β : Type} {g : α → β} : ∀ {l : List α}, (l.map g).Nodup → ∀ x ∈ l, ∀ y ∈ l, g x = g y → x = y
  | [], _, x, hx, _, _, _ => by simp at hx
  | a :: l, h, x, hx, y, hy, e => by
    rw [List.map_cons, List.nodup_cons] at h
    rcases List.mem_cons.1 hx with e1 | k1
    · rcases List.mem_cons.1 hy with e2 | k2
      · exact e1.trans e2.symm
      · exact absurd (by rw [← e1, e]; exact List.mem_map_of_mem k2) h.1
    · rcases List.mem_cons.1 hy with e2 | k2
      · exact absurd (by rw [← e2, ← e]; exact List.mem_map_of_mem k1) h.1
      · exact map_inj_of_nodup h.2 x k1 y k2 e
theorem nodup_map_of_inj {α β : Type} {g : α → β} : ∀ {l : List α}, l.Nodup → (∀ x ∈ l, ∀ y ∈ l, g x = g y → x = y) → (l.map g).Nodup
  | [], _, _ => by simp
  | a :: l, h, hi => by
    rw [List.nodup_cons] at h
    rw [List.map_cons, List.nodup_cons]
    refine ⟨fun hm => ?_, nodup_map_of_inj h.2 (fun x hx y hy => hi x (List.mem_cons_of_mem _ hx) y (List.mem_cons_of_mem _ hy))⟩
    obtain ⟨x, hx, e⟩ := List.mem_map.1 hm
    have := hi x (List.mem_cons_of_mem _ hx) a List.mem_cons_self e
    rw [this] at hx
    exact h.1 hx

/-- the table of keys gives each key another slot -/
structure Perf (keys : List ByteArray) : Prop where
  valid : validT keys.length (seedsB keys) = true
  rng : ∀ k ∈ keys, ∃ x : Nat, slotT keys.length (seedsB keys) k = x ∧ x < keys.length
  nodup : (keys.map (slotT keys.length (seedsB keys))).Nodup

theorem perf_of {keys : List ByteArray} (h : errB keys = 0) (hn : keys.length ≤ 1000) : Perf keys := by
  obtain ⟨hd, f, sd, hb⟩ := errB_zero h
  have hf := procL_found (refOrd_nodup _ _ _) hb
  obtain ⟨hf, hrest⟩ := hf
  have hsl : (seedsB keys).length = nb keys.length := by simp [seedsB, h]
  have hsg : ∀ b, b < nb keys.length → (seedsB keys).getD b 0 = (sd b : Nat) := fun b hbm => by
    simp [seedsB, h, hb, List.getD, List.getElem?_map, List.getElem?_range hbm]
  have hmem : ∀ b, b < nb keys.length → bucket keys (nb keys.length) b ≠ [] → b ∈ refOrd (fun b => (bucket keys (nb keys.length) b).length) keys.length (nb keys.length) := fun b hbm hne => by
    rw [mem_refOrd]
    refine ⟨hbm, ?_, ?_⟩
    · have : (bucket keys (nb keys.length) b).length ≠ 0 := fun e => hne (List.length_eq_zero_iff.1 e)
      show 1 ≤ (bucket keys (nb keys.length) b).length
      omega
    · exact List.length_filter_le _ _
  have hv : validT keys.length (seedsB keys) = true := by
    unfold validT
    have e : (((seedsB keys).length : Nat) : Int) = ((keys.length : Int) + 3) / 4 := by rw [hsl]; unfold nb; omega
    have hno : (seedsB keys).any badSeed = false := by
      rw [List.any_eq_false]
      intro z hz
      obtain ⟨i, hi, rfl⟩ := List.getElem_of_mem hz
      have h1 := hsg i (by omega)
      simp only [List.getD, List.getElem?_eq_getElem hi, Option.getD_some] at h1
      rw [h1]
      have : sd i ≤ 100000 := by
        by_cases hm : i ∈ refOrd (fun b => (bucket keys (nb keys.length) b).length) keys.length (nb keys.length)
        · refine (hf.seed i hm ?_).2
          rw [mem_refOrd] at hm
          intro e
          have := hm.2.1
          rw [e] at this
          simp at this
        · rw [hrest i hm]; omega
      unfold badSeed
      simp
      omega
    simp [hno, e]
    omega
  have hslot : ∀ k ∈ keys, keys.length ≠ 0 ∧ hval k 0 (nb keys.length) < nb keys.length ∧ k ∈ bucket keys (nb keys.length) (hval k 0 (nb keys.length)) ∧
      slotT keys.length (seedsB keys) k = (hval k (sd (hval k 0 (nb keys.length)) : Nat) keys.length : Nat) := fun k hk => by
    have hn0 : keys.length ≠ 0 := fun e => by rw [List.length_eq_zero_iff.1 e] at hk; simp at hk
    have hm0 : 0 < nb keys.length := by unfold nb; omega
    have hlt := hval_lt k 0 (nb keys.length) hm0
    have hmb : k ∈ bucket keys (nb keys.length) (hval k 0 (nb keys.length)) := by simp [bucket, hk]
    have hseed := (hf.seed _ (hmem _ hlt (fun e => by rw [e] at hmb; simp at hmb)) (fun e => by rw [e] at hmb; simp at hmb)).1
    refine ⟨hn0, hlt, hmb, ?_⟩
    unfold slotT
    rw [hv, hsl, hsg _ hlt]
    have h1 : ¬ ((keys.length : Int) = 0) := by omega
    have h2 : ¬ (((sd (hval k 0 (nb keys.length)) : Nat) : Int) = 0) := by omega
    rw [if_neg (by rintro (h | h); · cases h
                   · exact h1 h), if_neg h2, Int.toNat_natCast]
  refine ⟨hv, fun k hk => ?_, nodup_map_of_inj hd fun x hx y hy e => ?_⟩
  · obtain ⟨h1, h2, h3, h4⟩ := hslot k hk
    exact ⟨_, h4, hval_lt _ _ _ (by omega)⟩
  · obtain ⟨h1, h2, h3, h4⟩ := hslot x hx
    obtain ⟨_, k2, k3, k4⟩ := hslot y hy
    rw [h4, k4] at e
    have e' : hval x (sd (hval x 0 (nb keys.length)) : Nat) keys.length = hval y (sd (hval y 0 (nb keys.length)) : Nat) keys.length := by omega
    generalize hval x 0 (nb keys.length) = bx at *
    generalize hval y 0 (nb keys.length) = bY at *
    have mx := hmem bx h2 (fun e => by rw [e] at h3; simp at h3)
    have my := hmem bY k2 (fun e => by rw [e] at k3; simp at k3)
    have sx : hval x (sd bx : Nat) keys.length ∈ slots (bucket keys (nb keys.length) bx) (sd bx : Nat) keys.length := List.mem_map_of_mem (f := fun s => hval s (sd bx : Nat) keys.length) h3
    have sy : hval y (sd bY : Nat) keys.length ∈ slots (bucket keys (nb keys.length) bY) (sd bY : Nat) keys.length := List.mem_map_of_mem (f := fun s => hval s (sd bY : Nat) keys.length) k3
    by_cases hbb : bx = bY
    · subst hbb
      exact map_inj_of_nodup (hf.nodup bx mx) x h3 y k3 e'
    · exact absurd (e' ▸ sx) (fun hs => hf.sep bY my bx mx (Ne.symm hbb) _ sy hs |>.elim)

theorem okSl_of {sl : List Int} (h0 : ∀ x ∈ sl, 0 ≤ x) (hd : sl.Nodup) : ∀ k, k ≤ sl.length → okSl sl k = true
  | 0, _ => rfl
  | k + 1, h => by
    have e : sl.getD k 0 = sl[k] := by simp [List.getD, List.getElem?_eq_getElem (show k < sl.length by omega)]
    have hd2 : (sl.take (k + 1)).Nodup := hd.sublist (List.take_sublist _ _)
    rw [List.take_succ_eq_append_getElem (by omega), List.nodup_append] at hd2
    simp only [okSl, okSl_of h0 hd k (by omega), e, Bool.true_and, Bool.and_eq_true, decide_eq_true_eq, Bool.not_eq_true', List.any_eq_false, beq_iff_eq]
    exact ⟨h0 _ (List.getElem_mem _), fun x hx => hd2.2.2 x hx _ (by simp)⟩
theorem okSl_nodup {sl : List Int} : ∀ k, k ≤ sl.length → okSl sl k = true → (sl.take k).Nodup
  | 0, _, _ => by simp
  | k + 1, h, ho => by
    have e : sl.getD k 0 = sl[k] := by simp [List.getD, List.getElem?_eq_getElem (show k < sl.length by omega)]
    simp only [okSl, Bool.and_eq_true, e, Bool.not_eq_true', List.any_eq_false, beq_iff_eq] at ho
    rw [List.take_succ_eq_append_getElem (by omega), List.nodup_append]
    exact ⟨okSl_nodup k (by omega) ho.1, by simp, fun a ha b hb => by rw [List.mem_singleton] at hb; rw [hb]; exact ho.2.2 a ha⟩

theorem perf_check {keys : List ByteArray} (h : Perf keys) : checkT keys.length (seedsB keys) keys = true := by
  unfold checkT
  rw [h.valid]
  have : okSl (keys.map (slotT keys.length (seedsB keys))) keys.length = true := by
    have := okSl_of (sl := keys.map (slotT keys.length (seedsB keys))) (fun x hx => by
      obtain ⟨k, hk, rfl⟩ := List.mem_map.1 hx
      obtain ⟨y, hy, _⟩ := h.rng k hk
      omega) h.nodup keys.length (by simp)
    exact this
  simp [this]

/-- the slots as numbers -/
theorem perf_perm {keys : List ByteArray} (h : Perf keys) : (keys.map fun k => (slotT keys.length (seedsB keys) k).toNat).Perm (List.range keys.length) := by
  refine perm_range ?_ (fun x hx => ?_) (by simp)
  · refine nodup_map_of_inj ?_ fun x hx y hy e => ?_
    · have := h.nodup
      exact (List.Pairwise.of_map _ (fun a b hab e => hab (by rw [e])) this)
    · obtain ⟨a, ha, _⟩ := h.rng x hx
      obtain ⟨b, hb, _⟩ := h.rng y hy
      rw [ha, hb] at e
      have : slotT keys.length (seedsB keys) x = slotT keys.length (seedsB keys) y := by rw [ha, hb]; simp at e; rw [e]
      exact map_inj_of_nodup h.nodup x hx y hy this
  · obtain ⟨k, hk, rfl⟩ := List.mem_map.1 hx
    obtain ⟨a, ha, hlt⟩ := h.rng k hk
    rw [ha]; simpa using hlt
theorem perf_count {keys : List ByteArray} (h : Perf keys) {j : Nat} (hj : j < keys.length) : (keys.map fun k => (slotT keys.length (seedsB keys) k).toNat).count j = 1 := by
  rw [List.perm_iff_count.1 (perf_perm h), List.count_range]
  simp [hj]
end Go.Proofs.Ytboojpmahfjaoaa
