/- Parts in memory: a tree of slices; whether parts are few. -/
import Derived.Test.YtadhblppeaamlaaGreatDoorQ00
import Derived.Deep.RegionHeld3
import Derived.Deep.DrawnRows
import Derived.Test.YtadhblppeaamlaaGreatDoorQ17
import Derived.Test.YtadhblppeaamlaaGreatDoorQ18
import Derived.Test.YtadhblppeaamlaaGreatDoorQ14
namespace Go.Proofs.YtadhblppeaamlaaGreatDoor
open Go.RowKit
attribute [local go_sem] Ext.cell Ext.frozen
attribute [local go_sem ↓] Go.wp_at_zero Go.wp_at_succ

/-- a string of a machine's size -/
def StrM (v : Value) : Prop := ∃ s : ByteArray, v = .string s ∧ s.size ≤ 140737488351232
/-- cases, whose parts are T -/
def CasesT (T : World → Value → Prop) (w : World) (v : Value) : Prop :=
  ∃ ad n c f b off, v = .slice ad n c ∧ Rw w ad n 2 f b off ∧ (ad = none → c = 0) ∧ n ≤ c ∧ n * 40 ≤ 140737488351232 ∧ ∀ i, i < n → StrM (f i 0) ∧ T w (f i 1)
/-- the six cells of a part, whose parts are T -/
def PartC (T : World → Value → Prop) (w : World) (x : Nat → Value) : Prop := (∃ z, x 0 = .int .i64 z) ∧ StrM (x 1) ∧ StrM (x 2) ∧ StrM (x 3) ∧ CasesT T w (x 4) ∧ T w (x 5)
/-- parts of a depth of at most d -/
def PartsT : Nat → World → Value → Prop
  | 0, _, _ => False
  | d + 1, w, v => ∃ ad n c f b off, v = .slice ad n c ∧ Rw w ad n 6 f b off ∧ ∀ i, i < n → PartC (PartsT d) w (f i)
theorem CasesT.map {T : World → Value → Prop} {w w' : World} {v : Value} (h : CasesT T w v) (hb : Below w.heap.size w w') (hT : ∀ u, T w u → T w' u) : CasesT T w' v := by
  obtain ⟨ad, n, c, f, b, off, h1, h2, h3, h4, h5, h6⟩ := h
  exact ⟨ad, n, c, f, b, off, h1, h2.below hb, h3, h4, h5, fun i hi => ⟨(h6 i hi).1, hT _ (h6 i hi).2⟩⟩
theorem PartC.map {T : World → Value → Prop} {w w' : World} {x : Nat → Value} (h : PartC T w x) (hb : Below w.heap.size w w') (hT : ∀ u, T w u → T w' u) : PartC T w' x :=
  ⟨h.1, h.2.1, h.2.2.1, h.2.2.2.1, h.2.2.2.2.1.map hb hT, hT _ h.2.2.2.2.2⟩
theorem PartsT.below : ∀ {d : Nat} {w w' : World} {v : Value}, PartsT d w v → Below w.heap.size w w' → PartsT d w' v
  | 0, _, _, _, h, _ => h
  | d + 1, _, _, _, h, hb => by
    obtain ⟨ad, n, c, f, b, off, h1, h2, h3⟩ := h
    exact ⟨ad, n, c, f, b, off, h1, h2.below hb, fun i hi => (h3 i hi).map hb fun u hu => PartsT.below hu hb⟩
theorem CasesT.below {d : Nat} {w w' : World} {v : Value} (h : CasesT (PartsT d) w v) (hb : Below w.heap.size w w') : CasesT (PartsT d) w' v := h.map hb fun _ hu => hu.below hb
theorem PartC.below {d : Nat} {w w' : World} {x : Nat → Value} (h : PartC (PartsT d) w x) (hb : Below w.heap.size w w') : PartC (PartsT d) w' x := h.map hb fun _ hu => hu.below hb

theorem PartsT.open {d : Nat} {w : World} {v : Value} (h : PartsT (d + 1) w v) : ∃ ad n c f b off, v = .slice ad n c ∧ Rw w ad n 6 f b off ∧ ∀ i, i < n → PartC (PartsT d) w (f i) := h
set_option maxRecDepth 20000 in
set_option maxHeartbeats 4000000 in
theorem depth_any : ∀ (d : Nat) (v : Value) (w : World), PartsT d w v → Calls Tryz.prog 44 #[v] w (SomeInt w) := by
  intro d
  induction d with
  | zero => exact fun _ _ h => h.elim
  | succ d ih =>
    intro v w h
    obtain ⟨ad, n, c, f, b, off, rfl, hr, hf⟩ := h.open
    have IH := Lib.hid ih
    have HR := Lib.hid hr
    have HF := Lib.hid hf
    have hnm := hr.max
    clear hr hf h ih
    go_enter Tryz.func44, Tryz.ntmps44
    go_wp2_with fail
    go_loopw [3, 4] (fun u v wr => ∃ (k : Nat) (z : Int), v = .int .i64 (k : Int) ∧ k ≤ n ∧ u = .int .i64 z ∧ Below w.heap.size w wr) (fun _ v _ => n - (intOf v).toNat)
    case atStart => exact ⟨0, _, rfl, Nat.zero_le _, rfl, Below.refl _ _⟩
    case round =>
      obtain ⟨wo, rfl⟩ : ∃ wo : World, wo = wr := ⟨_, rfl⟩
      obtain ⟨k, z, rfl, hkn, rfl, hbl⟩ := hrel
      have HBL := Lib.hid hbl
      clear hbl
      by_cases hlt : k < n
      · have hrr := HR.out.below HBL.out
        have hix := fun W => HR.out.ix 32 34 Tryz.underlying32 (by kernel_rfl) (by omega) hlt c W
        obtain ⟨_, _, _, _, ⟨cad, cn, cc, g, cb, coff, e4, hcr, _, _, hcn, hg⟩, h5⟩ := HF.out k hlt
        have c5 : wo.cell? ⟨b, off + k * 6 + 5, none⟩ = some (f k 5) := hrr.cell k 5 hlt (by omega)
        have c4 := HR.out.cell k 4 hlt (by omega)
        rw [e4] at c4
        have C4 := Lib.hid c4
        have hbz : b < w.heap.size := World.block_lt_of_cell? _ _ c4
        have HCR := Lib.hid hcr
        have HG := Lib.hid hg
        have HCALL := Lib.hid (IH.out (f k 5) wo (h5.below HBL.out))
        have hcm := hcr.max
        clear hrr c4 e4 hcr hg h5
        generalize f k 5 = v5 at *
        go_wp2_with fail
        refine HCALL.out.mono ?_
        rintro e w2 ⟨z2, rfl, hb2⟩
        have HB2 : Hid (Below w.heap.size w w2) := HBL.out.trans (hb2.mono HBL.out.size)
        clear hb2 c5 HCALL
        go_wp2_with fail
        all_goals
          go_loopw [3, 5] (fun u v wi => ∃ (q : Nat) (z : Int), v = .int .i64 (q : Int) ∧ q ≤ cn ∧ u = .int .i64 z ∧ Below w.heap.size w wi) (fun _ v _ => cn - (intOf v).toNat)
          case atStart => exact ⟨0, _, rfl, Nat.zero_le _, rfl, HB2.out⟩
          case round =>
            obtain ⟨wi, rfl⟩ : ∃ wi : World, wi = wr := ⟨_, rfl⟩
            obtain ⟨q, z3, rfl, hqn, rfl, hbi⟩ := hrel
            have HBI := Lib.hid hbi
            clear hbi
            have d4 : wi.cell? ⟨b, off + k * 6 + 4, none⟩ = some (.slice cad cn cc) := (HBI.out.cell (p := ⟨b, off + k * 6 + 4, none⟩) hbz).trans C4.out
            by_cases hlt2 : q < cn
            · have hcrr := HCR.out.below HBI.out
              have hix2 := fun W => HCR.out.ix 31 44 Tryz.underlying31 (by kernel_rfl) (by omega) hlt2 cc W
              have d1 : wi.cell? ⟨cb, coff + q * 2 + 1, none⟩ = some (g q 1) := hcrr.cell q 1 hlt2 (by omega)
              have HCALL := Lib.hid (IH.out (g q 1) wi ((HG.out q hlt2).2.below HBI.out))
              clear hcrr
              generalize g q 1 = v1 at *
              go_wp2_with fail
              refine HCALL.out.mono ?_
              rintro e w4 ⟨z4, rfl, hb4⟩
              have HB4 : Hid (Below w.heap.size w w4) := HBI.out.trans (hb4.mono HBI.out.size)
              clear hb4 d1 d4 HCALL
              go_wp2_with fail
              all_goals
                go_roundw
                case rel => exact ⟨q + 1, _, by go_num, by omega, rfl, HB4.out⟩
                case measure => simp [intOf]; omega
            · obtain rfl : q = cn := by omega
              go_wp2_with fail
              go_roundw
              case rel => exact ⟨k + 1, _, by go_num, by omega, rfl, HBI.out⟩
              case measure => simp [intOf]; omega
      · obtain rfl : k = n := by omega
        go_wp2_with fail
        go_ret
        exact ⟨_, rfl, HBL.out⟩
set_option maxRecDepth 20000 in
set_option maxHeartbeats 4000000 in
theorem psize_any : ∀ (d : Nat) (v : Value) (w : World), PartsT d w v → Calls Tryz.prog 45 #[v] w (SomeInt w) := by
  intro d
  induction d with
  | zero => exact fun _ _ h => h.elim
  | succ d ih =>
    intro v w h
    obtain ⟨ad, n, c, f, b, off, rfl, hr, hf⟩ := h.open
    have IH := Lib.hid ih
    have HR := Lib.hid hr
    have HF := Lib.hid hf
    have hnm := hr.max
    clear hr hf h ih
    go_enter Tryz.func45, Tryz.ntmps45
    go_wp2_with fail
    go_loopw [3, 4] (fun u v wr => ∃ (k : Nat) (z : Int), v = .int .i64 (k : Int) ∧ k ≤ n ∧ u = .int .i64 z ∧ Below w.heap.size w wr) (fun _ v _ => n - (intOf v).toNat)
    case atStart => exact ⟨0, _, rfl, Nat.zero_le _, rfl, Below.refl _ _⟩
    case round =>
      obtain ⟨wo, rfl⟩ : ∃ wo : World, wo = wr := ⟨_, rfl⟩
      obtain ⟨k, z, rfl, hkn, rfl, hbl⟩ := hrel
      have HBL := Lib.hid hbl
      clear hbl
      by_cases hlt : k < n
      · have hrr := HR.out.below HBL.out
        have hix := fun W => HR.out.ix 32 34 Tryz.underlying32 (by kernel_rfl) (by omega) hlt c W
        obtain ⟨_, ⟨s1, e1, hs1⟩, _, _, ⟨cad, cn, cc, g, cb, coff, e4, hcr, _, _, hcn, hg⟩, h5⟩ := HF.out k hlt
        have c5 : wo.cell? ⟨b, off + k * 6 + 5, none⟩ = some (f k 5) := hrr.cell k 5 hlt (by omega)
        have c1 : wo.cell? ⟨b, off + k * 6 + 1, none⟩ = some (f k 1) := hrr.cell k 1 hlt (by omega)
        rw [e1] at c1
        have c4 := HR.out.cell k 4 hlt (by omega)
        rw [e4] at c4
        have C4 := Lib.hid c4
        have hbz : b < w.heap.size := World.block_lt_of_cell? _ _ c4
        have HCR := Lib.hid hcr
        have HG := Lib.hid hg
        have hbzo : b < wo.heap.size := by have := HBL.out.size; omega
        have HCALL : Hid (∀ W, Below wo.heap.size wo W → Calls Tryz.prog 45 #[f k 5] W (SomeInt W)) := fun W g => IH.out (f k 5) W (h5.below (HBL.out.trans (g.mono HBL.out.size)))
        have hcm := hcr.max
        clear hrr c4 e4 e1 hcr hg h5
        generalize f k 5 = v5 at *
        go_wp2_with fail
        go_region_held3 (fun w' => w'.cell? ⟨b, off + k * 6 + 5, none⟩ = some v5 ∧ w'.cell? ⟨b, off + k * 6 + 1, none⟩ = some (.string s1)) (go_keep) (((with_reducible refine (HCALL.out _ ?_).mono ?_); (focus (show Bel wo _; repeat (first | exact Bel.refl _ | refine Bel.drew ?_))); rintro e w2 ⟨z2, rfl, hb2⟩; have q5 : w2.cell? ⟨b, off + k * 6 + 5, none⟩ = some v5 := (hb2.cell (p := ⟨b, off + k * 6 + 5, none⟩) hbzo).trans c5; have q1 : w2.cell? ⟨b, off + k * 6 + 1, none⟩ = some (.string s1) := (hb2.cell (p := ⟨b, off + k * 6 + 1, none⟩) hbzo).trans c1))
        have HB2 : Hid (Below w.heap.size w w2) := HBL.out.trans (((Below.refl w.heap.size wo).drew).trans (hb2.mono HBL.out.size))
        clear hb2 c5 c1 HCALL q5 q1
        go_wp2_with fail
        all_goals
          go_loopw [3, 5] (fun u v wi => ∃ (q : Nat) (z : Int), v = .int .i64 (q : Int) ∧ q ≤ cn ∧ u = .int .i64 z ∧ Below w.heap.size w wi) (fun _ v _ => cn - (intOf v).toNat)
          case atStart => exact ⟨0, _, rfl, Nat.zero_le _, rfl, HB2.out⟩
          case round =>
            obtain ⟨wi, rfl⟩ : ∃ wi : World, wi = wr := ⟨_, rfl⟩
            obtain ⟨q, z3, rfl, hqn, rfl, hbi⟩ := hrel
            have HBI := Lib.hid hbi
            clear hbi
            have d4 : wi.cell? ⟨b, off + k * 6 + 4, none⟩ = some (.slice cad cn cc) := (HBI.out.cell (p := ⟨b, off + k * 6 + 4, none⟩) hbz).trans C4.out
            by_cases hlt2 : q < cn
            · have hcrr := HCR.out.below HBI.out
              have hix2 := fun W => HCR.out.ix 31 44 Tryz.underlying31 (by kernel_rfl) (by omega) hlt2 cc W
              have d1 : wi.cell? ⟨cb, coff + q * 2 + 1, none⟩ = some (g q 1) := hcrr.cell q 1 hlt2 (by omega)
              have HCALL := Lib.hid (IH.out (g q 1) wi ((HG.out q hlt2).2.below HBI.out))
              clear hcrr
              generalize g q 1 = v1 at *
              go_wp2_with fail
              refine HCALL.out.mono ?_
              rintro e w4 ⟨z4, rfl, hb4⟩
              have HB4 : Hid (Below w.heap.size w w4) := HBI.out.trans (hb4.mono HBI.out.size)
              clear hb4 d1 d4 HCALL
              go_wp2_with fail
              all_goals
                go_roundw
                case rel => exact ⟨q + 1, _, by go_num, by omega, rfl, HB4.out⟩
                case measure => simp [intOf]; omega
            · obtain rfl : q = cn := by omega
              go_wp2_with fail
              go_roundw
              case rel => exact ⟨k + 1, _, by go_num, by omega, rfl, HBI.out⟩
              case measure => simp [intOf]; omega
      · obtain rfl : k = n := by omega
        go_wp2_with fail
        go_ret
        exact ⟨_, rfl, HBL.out⟩

set_option maxRecDepth 20000 in
set_option maxHeartbeats 8000000 in
theorem short_any : ∀ (d : Nat) (v : Value) (w : World), PartsT d w v → Calls Tryz.prog 46 #[v] w (SomeBool w) := by
  intro d
  induction d with
  | zero => exact fun _ _ h => h.elim
  | succ d ih =>
    intro v w h
    obtain ⟨ad, n, c, f, b, off, rfl, hr, hf⟩ := h.open
    have IH := Lib.hid ih
    have HR := Lib.hid hr
    have HF := Lib.hid hf
    have hnm := hr.max
    clear hr hf h ih
    go_enter Tryz.func46, Tryz.ntmps46
    go_wp2_with fail
    go_loopw [3] (fun v wr => ∃ (k : Nat), v = .int .i64 (k : Int) ∧ k ≤ n ∧ Below w.heap.size w wr) (fun v _ => n - (intOf v).toNat)
    case atStart => exact ⟨0, rfl, Nat.zero_le _, Below.refl _ _⟩
    case round =>
      obtain ⟨wo, rfl⟩ : ∃ wo : World, wo = wr := ⟨_, rfl⟩
      obtain ⟨k, rfl, hkn, hbl⟩ := hrel
      have HBL := Lib.hid hbl
      clear hbl
      by_cases hlt : k < n
      · have hrr := HR.out.below HBL.out
        have hix := fun W => HR.out.ix 32 34 Tryz.underlying32 (by kernel_rfl) (by omega) hlt c W
        obtain ⟨_, _, ⟨s2, e2, hs2⟩, ⟨s3, e3, hs3⟩, ⟨cad, cn, cc, g, cb, coff, e4, hcr, _, _, hcn, hg⟩, h5⟩ := HF.out k hlt
        have c5 : wo.cell? ⟨b, off + k * 6 + 5, none⟩ = some (f k 5) := hrr.cell k 5 hlt (by omega)
        have c2 : wo.cell? ⟨b, off + k * 6 + 2, none⟩ = some (f k 2) := hrr.cell k 2 hlt (by omega)
        have c3 : wo.cell? ⟨b, off + k * 6 + 3, none⟩ = some (f k 3) := hrr.cell k 3 hlt (by omega)
        rw [e2] at c2
        rw [e3] at c3
        have c4 := HR.out.cell k 4 hlt (by omega)
        rw [e4] at c4
        have C4 := Lib.hid c4
        have hbz : b < w.heap.size := World.block_lt_of_cell? _ _ c4
        have HCR := Lib.hid hcr
        have HG := Lib.hid hg
        have HCALL := Lib.hid (IH.out (f k 5) wo (h5.below HBL.out))
        have hcm := hcr.max
        clear hrr c4 e4 e2 e3 hcr hg h5
        generalize f k 5 = v5 at *
        by_cases g2 : 60 < (s2.size : Int)
        · have g2' : decide (60 < (s2.size : Int)) = true := by simpa using g2
          go_wp2_with fail
          go_ret
          exact ⟨_, rfl, HBL.out⟩
        have g2' : decide (60 < (s2.size : Int)) = false := by simpa using g2
        by_cases g3 : 60 < (s3.size : Int)
        · have g3' : decide (60 < (s3.size : Int)) = true := by simpa using g3
          go_wp2_with fail
          go_ret
          exact ⟨_, rfl, HBL.out⟩
        have g3' : decide (60 < (s3.size : Int)) = false := by simpa using g3
        go_wp2_with fail
        refine HCALL.out.mono ?_
        rintro e w2 ⟨q2, rfl, hb2⟩
        have HB2 : Hid (Below w.heap.size w w2) := HBL.out.trans (hb2.mono HBL.out.size)
        clear hb2 c5 c2 c3 HCALL
        cases q2
        · go_wp2_with fail
          go_ret
          exact ⟨_, rfl, HB2.out⟩
        go_wp2_with fail
        go_loopw [4] (fun v wi => ∃ (q : Nat), v = .int .i64 (q : Int) ∧ q ≤ cn ∧ Below w.heap.size w wi) (fun v _ => cn - (intOf v).toNat)
        case atStart => exact ⟨0, rfl, Nat.zero_le _, HB2.out⟩
        case round =>
          obtain ⟨wi, rfl⟩ : ∃ wi : World, wi = wr := ⟨_, rfl⟩
          obtain ⟨q, rfl, hqn, hbi⟩ := hrel
          have HBI := Lib.hid hbi
          clear hbi
          have d4 : wi.cell? ⟨b, off + k * 6 + 4, none⟩ = some (.slice cad cn cc) := (HBI.out.cell (p := ⟨b, off + k * 6 + 4, none⟩) hbz).trans C4.out
          by_cases hlt2 : q < cn
          · have hcrr := HCR.out.below HBI.out
            have hix2 := fun W => HCR.out.ix 31 44 Tryz.underlying31 (by kernel_rfl) (by omega) hlt2 cc W
            have d1 : wi.cell? ⟨cb, coff + q * 2 + 1, none⟩ = some (g q 1) := hcrr.cell q 1 hlt2 (by omega)
            have d0 : wi.cell? ⟨cb, coff + q * 2, none⟩ = some (g q 0) := hcrr.cell q 0 hlt2 (by omega)
            obtain ⟨s0, e0, hs0⟩ := (HG.out q hlt2).1
            rw [e0] at d0
            have HCALL := Lib.hid (IH.out (g q 1) wi ((HG.out q hlt2).2.below HBI.out))
            clear hcrr e0
            generalize g q 1 = v1 at *
            by_cases g0 : 60 < (s0.size : Int)
            · have g0' : decide (60 < (s0.size : Int)) = true := by simpa using g0
              go_wp2_with fail
              go_ret
              exact ⟨_, rfl, HBI.out⟩
            have g0' : decide (60 < (s0.size : Int)) = false := by simpa using g0
            go_wp2_with fail
            refine HCALL.out.mono ?_
            rintro e w4 ⟨z4, rfl, hb4⟩
            have HB4 : Hid (Below w.heap.size w w4) := HBI.out.trans (hb4.mono HBI.out.size)
            clear hb4 d1 d4 d0 HCALL
            cases z4
            · go_wp2_with fail
              go_ret
              exact ⟨_, rfl, HB4.out⟩
            go_wp2_with fail
            go_roundw
            case rel => exact ⟨q + 1, by go_num, by omega, HB4.out⟩
            case measure => simp [intOf]; omega
          · obtain rfl : q = cn := by omega
            go_wp2_with fail
            go_roundw
            case rel => exact ⟨k + 1, by go_num, by omega, HBI.out⟩
            case measure => simp [intOf]; omega
      · obtain rfl : k = n := by omega
        go_wp2_with fail
        go_ret
        exact ⟨_, rfl, HBL.out⟩
set_option maxRecDepth 20000 in
set_option maxHeartbeats 4000000 in
theorem pfew_any (d : Nat) (v : Value) (w : World) (h : PartsT d w v) : Calls Tryz.prog 22 #[v] w (SomeBool w) := by
  have HD := Lib.hid (fun W (g : Below w.heap.size w W) => depth_any d v W (h.below g))
  have HS := Lib.hid (fun W (g : Below w.heap.size w W) => psize_any d v W (h.below g))
  have HH := Lib.hid (fun W (g : Below w.heap.size w W) => short_any d v W (h.below g))
  clear h
  go_enter Tryz.func22, Tryz.ntmps22
  go_wp2_with fail
  refine (HD.out _ (Below.refl _ _)).mono ?_
  rintro e w1 ⟨z1, rfl, hb1⟩
  have HB1 := Lib.hid hb1
  clear hb1
  by_cases h1 : z1 ≤ 12
  · have h1' : decide (z1 ≤ 12) = true := by simpa using h1
    go_wp2_with fail
    refine (HS.out _ HB1.out).mono ?_
    rintro e w2 ⟨z2, rfl, hb2⟩
    have HB2 : Hid (Below w.heap.size w w2) := HB1.out.trans (hb2.mono HB1.out.size)
    clear hb2
    by_cases h2 : z2 ≤ 300
    · have h2' : decide (z2 ≤ 300) = true := by simpa using h2
      go_wp2_with fail
      refine (HH.out _ HB2.out).mono ?_
      rintro e w3 ⟨q3, rfl, hb3⟩
      have HB3 : Hid (Below w.heap.size w w3) := HB2.out.trans (hb3.mono HB2.out.size)
      clear hb3
      go_wp2_with fail
      go_ret
      exact ⟨_, rfl, HB3.out⟩
    · have h2' : decide (z2 ≤ 300) = false := by simpa using h2
      go_wp2_with fail
      go_ret
      exact ⟨_, rfl, HB2.out⟩
  · have h1' : decide (z1 ≤ 12) = false := by simpa using h1
    go_wp2_with fail
    go_ret
    exact ⟨_, rfl, HB1.out⟩
end Go.Proofs.YtadhblppeaamlaaGreatDoor
/- Walks: whether rules, a part and values are few. -/
namespace Go.Proofs.YtadhblppeaamlaaGreatDoor
open Go.RowKit
attribute [local go_sem] Ext.cell Ext.frozen
attribute [local go_sem ↓] Go.wp_at_zero Go.wp_at_succ

/-- one part, in a slice -/
theorem part_one {d : Nat} {w : World} {p : Nat → Value} (h : PartC (PartsT d) w p) (e : TypeId) : PartsT (d + 1) (w.alloc (.cells #[p 0, p 1, p 2, p 3, p 4, p 5] e)) (.slice (some ⟨w.heap.size, 0, none⟩) 1 1) := by
  refine ⟨some ⟨w.heap.size, 0, none⟩, 1, 1, fun _ => p, w.heap.size, 0, rfl, ⟨by omega, fun _ => rfl, fun i j hi hj => ?_⟩, fun i hi => h.below ((Below.refl _ _).alloc (Nat.le_refl _) _)⟩
  obtain rfl : i = 0 := by omega
  rcases (by omega : j = 0 ∨ j = 1 ∨ j = 2 ∨ j = 3 ∨ j = 4 ∨ j = 5) with e | e | e | e | e | e <;> subst e <;> simp [go_sem]
set_option maxRecDepth 20000 in
set_option maxHeartbeats 4000000 in
theorem few31_any (x p : Nat → Value) (a b : List (ByteArray × List (List Rel))) (vs : List Vl) (vv : Value) (d : Nat) (w : World) (h : LocC w x a b) (hp : PartC (PartsT d) w p) (hvv : ValsAt w vv vs) :
    Calls Tryz.prog 10 #[.agg #[x 0, x 1, x 2, x 3, x 4, x 5, x 6, x 7, x 8, x 9, x 10, x 11, x 12, x 13, x 14, x 15], .agg #[p 0, p 1, p 2, p 3, p 4, p 5], vv] w (BoolIfB w (FewC a ∧ FewC b ∧ FewV2 vs)) := by
  have HFR : Hid (∀ W, Below w.heap.size w W → Calls Tryz.prog 18 #[.agg #[x 0, x 1, x 2, x 3, x 4, x 5, x 6, x 7, x 8, x 9, x 10, x 11, x 12, x 13, x 14, x 15]] W (BoolIfB W (FewC a ∧ FewC b))) := fun W g => fewrules_any x a b W (h.below g)
  have HPF : Hid (∀ W e, Below w.heap.size w W → Calls Tryz.prog 22 #[.slice (some ⟨W.heap.size, 0, none⟩) 1 1] (W.alloc (.cells #[p 0, p 1, p 2, p 3, p 4, p 5] e)) (SomeBool (W.alloc (.cells #[p 0, p 1, p 2, p 3, p 4, p 5] e)))) := fun W e g => pfew_any (d + 1) _ _ (part_one (hp.below g) e)
  have HFV : Hid (∀ W, Below w.heap.size w W → Calls Tryz.prog 19 #[vv] W (BoolIf W (FewV2 vs))) := fun W g => vfew2_any vv vs W (hvv.below g)
  clear h hp hvv
  generalize x 0 = x0 at *
  generalize x 1 = x1 at *
  generalize x 2 = x2 at *
  generalize x 3 = x3 at *
  generalize x 4 = x4 at *
  generalize x 5 = x5 at *
  generalize x 6 = x6 at *
  generalize x 7 = x7 at *
  generalize x 8 = x8 at *
  generalize x 9 = x9 at *
  generalize x 10 = x10 at *
  generalize x 11 = x11 at *
  generalize x 12 = x12 at *
  generalize x 13 = x13 at *
  generalize x 14 = x14 at *
  generalize x 15 = x15 at *
  generalize p 0 = p0 at *
  generalize p 1 = p1 at *
  generalize p 2 = p2 at *
  generalize p 3 = p3 at *
  generalize p 4 = p4 at *
  generalize p 5 = p5 at *
  go_enter Tryz.func10, Tryz.ntmps10
  go_wp2_with fail
  refine (HFR.out _ ?_).mono ?_
  · show Bel w _; repeat (first | exact Bel.refl _ | refine Bel.alloc ?_ _)
  rintro e W1 ⟨q1, rfl, hb1, hq1⟩
  have HB1 : Hid (Below w.heap.size w W1) := Below.trans (by show Bel w _; exact ((Bel.refl _).alloc _).alloc _) (hb1.mono (by simp; omega))
  have HRP : Hid (W1.heap[w.heap.size + 1]? = some (.cells #[p0, p1, p2, p3, p4, p5] 34 (0, 0))) := (hb1.block _ (by simp)).trans (row_second w _ _ _)
  have HQ1 := Lib.hid hq1
  clear hb1 hq1
  cases q1
  · go_wp2_with fail
    go_ret
    exact ⟨false, rfl, HB1.out, fun h => by cases h⟩
  have c0 : W1.cell? ⟨w.heap.size + 1, 0, none⟩ = some p0 := by rw [Lib.cell_of_heap HRP.out]; rfl
  have c1 : W1.cell? ⟨w.heap.size + 1, 1, none⟩ = some p1 := by rw [Lib.cell_of_heap HRP.out]; rfl
  have c2 : W1.cell? ⟨w.heap.size + 1, 2, none⟩ = some p2 := by rw [Lib.cell_of_heap HRP.out]; rfl
  have c3 : W1.cell? ⟨w.heap.size + 1, 3, none⟩ = some p3 := by rw [Lib.cell_of_heap HRP.out]; rfl
  have c4 : W1.cell? ⟨w.heap.size + 1, 4, none⟩ = some p4 := by rw [Lib.cell_of_heap HRP.out]; rfl
  have c5 : W1.cell? ⟨w.heap.size + 1, 5, none⟩ = some p5 := by rw [Lib.cell_of_heap HRP.out]; rfl
  go_wp2_with fail
  refine (HPF.out _ _ HB1.out).mono ?_
  rintro e W2 ⟨q2, rfl, hb2⟩
  have HB2 : Hid (Below w.heap.size w W2) := Below.trans (by show Bel w _; exact Bel.alloc HB1.out _) (hb2.mono (by have := HB1.out.size; simp; omega))
  clear hb2 c0 c1 c2 c3 c4 c5
  cases q2
  · go_wp2_with fail
    go_ret
    exact ⟨false, rfl, HB2.out, fun h => by cases h⟩
  go_wp2_with fail
  refine (HFV.out _ HB2.out).mono ?_
  rintro e _ ⟨q3, rfl, rfl, hq3⟩
  have HQ3 := Lib.hid hq3
  clear hq3
  go_wp2_with fail
  go_ret
  exact ⟨q3, rfl, HB2.out, fun h => ⟨(HQ1.out trivial).1, (HQ1.out trivial).2, HQ3.out h⟩⟩
end Go.Proofs.YtadhblppeaamlaaGreatDoor
