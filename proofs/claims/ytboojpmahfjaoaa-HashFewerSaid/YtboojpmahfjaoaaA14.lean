/- What holds while Build looks for the seeds. -/
import Derived.Test.YtboojpmahfjaoaaA12
namespace Go.Proofs.Ytboojpmahfjaoaa
open Go.RowKit

@[reducible] def set16 (wd : Nat → Nat) : Array Value := #[.int .u64 (wd 0 : Nat), .int .u64 (wd 1 : Nat), .int .u64 (wd 2 : Nat), .int .u64 (wd 3 : Nat), .int .u64 (wd 4 : Nat), .int .u64 (wd 5 : Nat), .int .u64 (wd 6 : Nat), .int .u64 (wd 7 : Nat), .int .u64 (wd 8 : Nat), .int .u64 (wd 9 : Nat), .int .u64 (wd 10 : Nat), .int .u64 (wd 11 : Nat), .int .u64 (wd 12 : Nat), .int .u64 (wd 13 : Nat), .int .u64 (wd 14 : Nat), .int .u64 (wd 15 : Nat)]
def SetW (wd : Nat → Nat) (f : Nat → Bool) : Prop := (∀ j, j < 16 → wd j < 18446744073709551616) ∧ ∀ i, i < 1024 → (wd (i / 64)).testBit (i % 64) = f i

theorem set16_get (wd : Nat → Nat) (j : Nat) (h : j < 16) : (set16 wd)[j]? = some (.int .u64 (wd j : Nat)) := by
  match j, h with
  | 0, _ => rfl
  | 1, _ => rfl
  | 2, _ => rfl
  | 3, _ => rfl
  | 4, _ => rfl
  | 5, _ => rfl
  | 6, _ => rfl
  | 7, _ => rfl
  | 8, _ => rfl
  | 9, _ => rfl
  | 10, _ => rfl
  | 11, _ => rfl
  | 12, _ => rfl
  | 13, _ => rfl
  | 14, _ => rfl
  | 15, _ => rfl
  | n + 16, h => omega

theorem SetW.setV {wd : Nat → Nat} {f : Nat → Bool} (h : SetW wd f) : SetV (set16 wd) f :=
  ⟨rfl, wd, fun j hj => ⟨h.1 j hj, set16_get wd j hj⟩, h.2⟩

theorem SetW.congr {wd : Nat → Nat} {f g : Nat → Bool} (h : SetW wd f) (hg : ∀ i, i < 1024 → f i = g i) : SetW wd g := ⟨h.1, fun i hi => (h.2 i hi).trans (hg i hi)⟩

theorem SetW.zero : SetW (fun _ => 0) (fun _ => false) := ⟨fun _ _ => by show 0 < _; omega, fun _ _ => by simp⟩

/-- trying a seed: the set that comes back is the only one -/
theorem try_set (cs csr : Array Value) (f : Nat → Bool) (ad : Option Addr) (n c : Nat) (keys : List ByteArray) (seed : Int) (N : Nat) (w : World) (hv : SetV cs f) (hk : Sl w ad n (strs keys))
    (hm : ∀ s ∈ keys, s.size ≤ 9223372036854775807) (h0 : 0 ≤ seed) (hs1 : seed ≤ 100000) (hN : 0 < N) (hN1 : N ≤ 1000)
    (hr : if fitK f (slots keys seed N) keys.length = true then SetV csr (addAll f (slots keys seed N)) else csr = cs) :
    Calls Try.prog 24 #[.agg cs, .slice ad n c, .int .i64 seed, .int .i64 N] w fun e w' => e = .returned (.tuple #[.agg csr, .bool (fitK f (slots keys seed N) keys.length)]) ∧ Below w.heap.size w w' :=
  (try_any cs f ad n c keys seed N w hv hk hm h0 hs1 hN hN1).mono fun e w' ⟨hp, hb⟩ => by
    rcases hp with ⟨h, cs', rfl, h2⟩ | ⟨h, rfl⟩
    · rw [if_pos h] at hr
      rw [h, h2.unique hr]
      exact ⟨rfl, hb⟩
    · rw [if_neg (by rw [h]; simp)] at hr
      rw [h, hr]
      exact ⟨rfl, hb⟩

/-- what does not change while the seeds are looked for -/
structure Mid (w : World) (n m R S0 T5 P0 PB T0 : Nat) (L : Nat → List ByteArray) : Prop where
  ord : R < S0 ∧ S0 < T5 ∧ T5 < P0 ∧ P0 < PB ∧ PB < T0 ∧ T0 < w.heap.size
  r0 : w.heap[R]? = some (.cells #[.int .i64 0, .slice none 0 0] 27 (0, 0))
  t5 : w.heap[T5]? = some (.cells #[.int .i64 n, .slice (some ⟨S0, 0, none⟩) m m] 27 (0, 0))
  box : w.cell? ⟨PB, 0, none⟩ = some (.slice (some ⟨P0, 0, none⟩) m m)
  part : ∀ b, b < m → ∃ ad c bb off, w.cell? ⟨P0, b, none⟩ = some (.slice ad (L b).length c) ∧ SlAt w ad (L b).length (strs (L b)) bb off ∧ bb ≠ T0 ∧ bb ≠ S0

theorem Mid.chg {w w' : World} {n m R S0 T5 P0 PB T0 : Nat} {L : Nat → List ByteArray} (h : Mid w n m R S0 T5 P0 PB T0 L) (hc : Chg w w' [T0, S0]) : Mid w' n m R S0 T5 P0 PB T0 L := by
  obtain ⟨o1, o2, o3, o4, o5, o6⟩ := h.ord
  have hsz := hc.size
  refine ⟨⟨o1, o2, o3, o4, o5, by omega⟩, (hc.block R (by omega) (by simp; omega)).trans h.r0, (hc.block T5 (by omega) (by simp; omega)).trans h.t5, (hc.cell (by omega) (by simp; omega)).trans h.box, fun b hb => ?_⟩
  obtain ⟨ad, c, bb, off, h1, h2, h3, h4⟩ := h.part b hb
  refine ⟨ad, c, bb, off, (hc.cell (by omega) (by simp; omega)).trans h1, ⟨h2.len, h2.max, h2.adr, fun i hi => ?_⟩, h3, h4⟩
  rw [hc.cell (h2.block (by omega)) (by simp [h3, h4])]
  exact h2.cell i hi

theorem SeedAt.chg {w w' : World} {S0 m : Nat} {sd : Nat → Nat} (h : SeedAt w S0 m sd) (hb : Below (S0 + 1) w w') : SeedAt w' S0 m sd := fun b hbm =>
  ⟨(hb.cell (p := ⟨S0, b, none⟩) (by show S0 < _; omega)).trans (h b hbm).1, (hb.frozen (p := ⟨S0, b, none⟩) (by show S0 < _; omega)).trans (h b hbm).2⟩

theorem SeedAt.set {w : World} {S0 m : Nat} {sd : Nat → Nat} (h : SeedAt w S0 m sd) {b : Nat} (hb : b < m) (s : Nat) : SeedAt (w.setCell ⟨S0, b, none⟩ (.int .i64 (s : Nat))) S0 m (upd sd b s) := by
  intro q hq
  refine ⟨?_, by simp [World.frozen?_setCell, (h q hq).2]⟩
  unfold upd
  by_cases e : q = b
  · subst e
    rw [if_pos rfl, World.cell?_setCell_same' _ _ _ (by rw [(h q hq).1]; rfl)]
  · rw [if_neg e, World.cell?_setCell_other _ _ _ _ (by simp)]
    exact (h q hq).1

theorem mid_of {w1 w3 : World} {n m R S0 T5 P0 PB M : Nat} {V : Nat → Value} {L : Nat → List ByteArray} (T : TypeId) (Z : Array Value) (hp : Parts w1 (M + 1) P0 m V L) (hb : Below w1.heap.size w1 w3)
    (ord : R < S0 ∧ S0 < T5 ∧ T5 < P0 ∧ P0 < PB ∧ PB < M ∧ M < w1.heap.size) (r0 : w1.heap[R]? = some (.cells #[.int .i64 0, .slice none 0 0] 27 (0, 0)))
    (t5 : w1.heap[T5]? = some (.cells #[.int .i64 n, .slice (some ⟨S0, 0, none⟩) m m] 27 (0, 0))) (box : w1.cell? ⟨PB, 0, none⟩ = some (.slice (some ⟨P0, 0, none⟩) m m)) :
    Mid (w3.alloc (.cells Z T)) n m R S0 T5 P0 PB w3.heap.size L := by
  obtain ⟨o1, o2, o3, o4, o5, o6⟩ := ord
  have hsz := hb.size
  have hb' : Below w1.heap.size w1 (w3.alloc (.cells Z T)) := hb.alloc hsz _
  refine ⟨⟨o1, o2, o3, o4, by omega, by simp⟩, (hb'.block R (by omega)).trans r0, (hb'.block T5 (by omega)).trans t5, (hb'.cell (p := ⟨PB, 0, none⟩) (by show PB < _; omega)).trans box, fun b hbm => ?_⟩
  have hown := hp.own b hbm
  obtain ⟨ad, c, hv⟩ := own_form hown
  rw [hv] at hown
  obtain ⟨bb, off, hs⟩ := Own.sl hown
  by_cases hL : (L b).length = 0
  · refine ⟨ad, c, w3.heap.size + 1, 0, ?_, ⟨hs.len, hs.max, fun h => absurd hL h, fun i hi => by omega⟩, by omega, by omega⟩
    rw [hb'.cell (p := ⟨P0, b, none⟩) (by show P0 < _; omega), hp.cell hbm, hv]
  · have hblk := hs.block hL
    have hadr := hs.adr hL
    have hlt := Own.lt hown bb (by rw [hadr]; rfl)
    refine ⟨ad, c, bb, off, ?_, hs.below hb', by omega, by omega⟩
    rw [hb'.cell (p := ⟨P0, b, none⟩) (by show P0 < _; omega), hp.cell hbm, hv]

theorem built_of {keys : List ByteArray} {m : Nat} {a : Nat → Nat} {r : Option ((Nat → Bool) × (Nat → Nat))} (hm : nb keys.length = m) (ho : Ins.Out (fun b => (bucket keys m b).length) m m a)
    (hp : procL keys.length (bucket keys m) ((List.range m).map a) (fun _ => false) (fun _ => 0) = r) : built keys = r := by
  subst hm
  unfold built
  rw [← out_ord ho (n := keys.length) (fun b _ => by
    have := bucket_le keys (nb keys.length) keys.length b
    rwa [List.take_of_length_le (Nat.le_refl _)] at this), ← hp]
  exact (procL_filter _ _ _ _ _).symm

theorem take_map_succ (a : Nat → Nat) {m i : Nat} (h : i < m) : ((List.range m).map a).take (i + 1) = ((List.range m).map a).take i ++ [a i] := by
  have h' : i < ((List.range m).map a).length := by simpa using h
  rw [List.take_succ_eq_append_getElem h']
  simp

theorem ord_getD (a : Nat → Nat) {m i : Nat} (h : i < m) : (ints ((List.range m).map (fun x : Nat => ((a x : Nat) : Int)))).getD i undef = .int .i64 (a i : Nat) := by
  simp [ints, List.getD, h]

theorem out_inj {ln : Nat → Nat} {m p q : Nat} {a : Nat → Nat} (ho : Ins.Out ln m m a) (hp : p < m) (hq : q < m) (h : a p = a q) : p = q := by
  rcases Nat.lt_trichotomy p q with h1 | h1 | h1
  · have := ho.sorted p q h1 hq
    rw [h] at this
    exact this.irrefl.elim
  · exact h1
  · have := ho.sorted q p h1 hp
    rw [h] at this
    exact this.irrefl.elim

theorem cell_below {X W : World} {a : Addr} {v : Value} (h : X.cell? a = some v) (hb : Below X.heap.size X W) : W.cell? a = some v := by
  rw [hb.cell (World.block_lt_of_cell? X _ h)]
  exact h

theorem procL_none {N : Nat} {L : Nat → List ByteArray} {l : List Nat} {i : Nat} (h : procL N L (l.take i) (fun _ => false) (fun _ => 0) = none) : procL N L l (fun _ => false) (fun _ => 0) = none := by
  have := procL_append N L (l.take i) (l.drop i) (fun _ => false) (fun _ => 0)
  rw [List.take_append_drop] at this
  rw [this, h]
  rfl

theorem post_ok {keys : List ByteArray} {m S0 : Nat} {f : Nat → Bool} {sd : Nat → Nat} (hm : nb keys.length = m) (hd : dupK keys keys.length = false) (hb : built keys = some (f, sd)) {w : World} (hs : SeedAt w S0 m sd) (hm2 : m ≤ 1000) :
    BuildPost keys (.returned (.tuple #[.agg #[.int .i64 (keys.length : Nat), .slice (some ⟨S0, 0, none⟩) m m], .int .i64 0])) w := by
  have he : errB keys = 0 := by simp [errB, hd, hb]
  have h1 : sizeB keys = keys.length := by simp [sizeB, he]
  have h2 : seedsB keys = (List.range m).map (fun b => (sd b : Int)) := by simp [seedsB, he, hm, hb]
  unfold BuildPost
  rw [h1, h2, he]
  simp only [List.length_map, List.length_range]
  refine ⟨some ⟨S0, 0, none⟩, m, rfl, S0, 0, by simp [ints], by omega, fun _ => rfl, fun i hi => ?_⟩
  rw [Nat.zero_add, (hs i hi).1]
  simp [ints, List.getD, hi]

end Go.Proofs.Ytboojpmahfjaoaa
