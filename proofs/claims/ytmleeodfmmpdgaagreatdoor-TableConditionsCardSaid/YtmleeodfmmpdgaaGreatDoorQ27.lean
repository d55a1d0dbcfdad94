/- Walks: a table whole, where each part's contract is given. -/
import Derived.Test.YtmleeodfmmpdgaaGreatDoorQ26
import Derived.Test.YtmleeodfmmpdgaaGreatDoorQ21
namespace Go.Proofs.YtmleeodfmmpdgaaGreatDoor
open Go.RowKit
attribute [local go_sem] Ext.cell Ext.frozen
attribute [local go_sem ↓] Go.wp_at_zero Go.wp_at_succ
theorem results_cell_row3 {fn : Func} {p u v : Tmp} {ty : TypeId} {P : Program} (h : fn.results = #[.cell p ty, .tmp u, .tmp v]) (tmps : Array Value) (w : World) (g : Nat) (x : Value)
    (hp : tmps.getD p undef = .pointer (some ⟨g, 0, none⟩)) (hlv : (loadVar ty ⟨g, 0, none⟩).run P w = .ok x w) :
    (results fn tmps).run P w = .ok (.tuple #[x, tmps.getD u undef, tmps.getD v undef]) w := by
  have hp' : tmps[p]?.getD undef = .pointer (some ⟨g, 0, none⟩) := by simpa using hp
  simp [results, h, hp', asAddr, hlv]
theorem own_cap {w : World} {base sz : Nat} {E : TypeId} {ad : Option Addr} {n m c : Nat} {xs : List Value} (h : w.ownsRow base E sz (.slice ad n c) m xs) : n ≤ c ∧ c ≤ maxLen := by
  rcases h.2 with ⟨h1, h2⟩ | ⟨g, cap, cur, h1, _, _, h4, h5, _⟩
  · injection h1 with _ h3 h4
    subst h3 h4
    exact ⟨Nat.le_refl _, Nat.zero_le _⟩
  · injection h1 with _ h3 h6
    subst h3 h6
    exact ⟨h4, h5⟩
theorem ptok_any (l : List UInt8) (hl : l.length ≤ 200000) (w : World) (hM : MaxLen w) (hU : TabU w) : Calls Tryz.prog 26 #[.string (bs l)] w fun e w' =>
    ∃ ad c tb off, e = .returned (.tuple #[.slice ad (toksV l).1.length c, .int .i64 (toksV l).2.1, .int .i64 (toksV l).2.2]) ∧ TzAt w' ad (toksV l).1.length (toksV l).1 tb off ∧ ((toksV l).1 ≠ [] → tb < w'.heap.size) ∧ (toksV l).1.length ≤ c ∧ c ≤ 9223372036854775807 ∧ Below w.heap.size w w' := by
  refine (tokens_any l hl w hM hU).mono ?_
  rintro e w' ⟨hb, M, hrun, hMl, hor⟩
  obtain rfl := runM_eq hrun
  rcases hor with ⟨hok, ad, c, rfl, hown⟩ | ⟨h0, h6, rfl⟩
  · have hT : toksV l = ((upto (itemV l) (runM l)).map zOf, 0, 0) := by
      unfold toksV
      rw [if_pos ((allOk_iff _ _).2 hok)]
    have hlen : ((upto (itemV l) (runM l)).map zOf).length = runM l := by rw [List.length_map, upto_length]
    obtain ⟨b, htk⟩ := own_tk hown (by omega)
    have htz := htk.z
    have hc := own_cap hown
    rw [hT]
    dsimp only
    rw [hlen]
    refine ⟨ad, c, b, 0, rfl, htz, fun hne => ?_, hc.1, by have := hc.2; unfold maxLen at this; omega, hb⟩
    have hpos : 0 < runM l := by
      rcases Nat.eq_zero_or_pos (runM l) with e | e
      · rw [e] at hne; exact absurd rfl hne
      · exact e
    exact World.block_lt_of_cell? w' _ (htz.c0 0 hpos)
  · have hT : toksV l = ([], ((itemV l (runM l - 1)).2.2.1 : Int), ((itemV l (runM l - 1)).2.2.2 : Int)) := by
      unfold toksV
      rw [if_neg]
      intro h
      exact h6 ((allOk_iff _ _).1 h (runM l - 1) (by omega))
    rw [hT]
    exact ⟨none, 0, 0, 0, rfl, ⟨rfl, Nat.zero_le _, fun h => absurd rfl h, fun _i hi => absurd hi (Nat.not_lt_zero _), fun _i hi => absurd hi (Nat.not_lt_zero _), fun _i hi => absurd hi (Nat.not_lt_zero _)⟩, fun h => absurd rfl h, Nat.le_refl _, by decide, hb⟩
def tabTs2 : List TypeId := [46, 61, 58] ++ rowTs
theorem TabV.tbC {base : Nat} {w : World} {T : Nat} {t : Tb} {v0 v1 v2 : Value} (h : TabV base w T t v0 v1 v2) (hf : TbFew 1 t) : TbC (see base tabTs2 w) (fun j => (#[v0, v1, v2] : Array Value).getD j undef) t := by
  have n0 : t.locs.length ≤ 140737488351232 := Nat.le_trans hf.locs (by decide)
  have n1 : t.als.length ≤ 140737488351232 := Nat.le_trans hf.als (by decide)
  have n2 : t.near.length ≤ 140737488351232 := Nat.le_trans hf.near (by decide)
  have up : ∀ ts, (∀ U, U ∈ ts → U ∈ tabTs2) → Sub (see base ts w) (see base tabTs2 w) := fun ts h => see_le w (Nat.le_refl _) h
  exact ⟨(h.g0.rows mLcC n0).sub (up _ (by decide)) fun _ _ g => mLcC _ _ _ _ (up (46 :: rowTs) (by decide)) g, (h.g1.rows mAlC n1).sub (up _ (by decide)) fun _ _ g => mAlC _ _ _ _ (up [61] (by decide)) g, (h.g2.rows mNeC n2).sub (up _ (by decide)) fun _ _ g => mNeC _ _ _ _ (up [58] (by decide)) g⟩
theorem TabV.new {w : World} {T : Nat} (h : Cel w T 27 [.slice none 0 0, .slice none 0 0, .slice none 0 0]) : TabV T w T tb0 (.slice none 0 0) (.slice none 0 0) (.slice none 0 0) := ⟨h, Nat.le_refl _, Grow.nil _ _ _ _ _ _, Grow.nil _ _ _ _ _ _, Grow.nil _ _ _ _ _ _⟩
theorem TbC.zero (w : World) : TbC w (fun j => (#[.slice none 0 0, .slice none 0 0, .slice none 0 0] : Array Value).getD j undef) tb0 := ⟨RowsOf.nil _ _ _, RowsOf.nil _ _ _, RowsOf.nil _ _ _⟩
def ParseP (w : World) (res : Tb × Int × Int) (e : Ending) (w' : World) : Prop :=
  ∃ f : Nat → Value, e = .returned (.tuple #[.agg #[f 0, f 1, f 2], .int .i64 res.2.1, .int .i64 res.2.2]) ∧ TbC (see w.heap.size tabTs2 w') f res.1 ∧ Below w.heap.size w w'
def upP (n k : Nat) : Bool := decide (n ≤ k)
theorem upP_up {n k : Nat} (h : n ≤ k) : upP n k = true := decide_eq_true h
set_option maxRecDepth 20000 in
set_option maxHeartbeats 4000000 in
theorem tparse_gen (l : List UInt8) (hl : l.length ≤ 200000) (w : World) (hM : MaxLen w) (hU : TabU w) (RR : Tb → RS → Prop) (hR0 : RR tb0 ⟨(toksV l).1, 0, 0⟩) (hRS : ∀ t q, RR t q → q.e = 0 → q.l ≠ [] → RR (tPart (l.length : Int) t q).1 (tPart (l.length : Int) t q).2)
    (hRP : ∀ t q, RR t q → q.e = 0 → q.l ≠ [] → ∀ (b base T : Nat) (w : World), Rd w b (l.length : Int) q → b < base → TabAt base w T t → MaxAt base w → t.locs.length ≤ 1000 → t.als.length ≤ 1000 → t.near.length ≤ 1000 → Calls Tryz.prog 27 #[.pointer (some ⟨b, 0, none⟩), .pointer (some ⟨T, 0, none⟩)] w (TabP b (l.length : Int) base T w (tPart (l.length : Int) t q))) :
    Calls Tryz.prog 11 #[.string (bs l)] w (ParseP w (tParse l)) := by
  have HRZ := Lib.hid hR0
  have HRS := Lib.hid hRS
  have HRP := Lib.hid hRP
  clear hR0 hRS hRP
  have HT0 := Lib.hid (fun W (k : Below w.heap.size w W) => ptok_any l hl W (hM.below k) (hU.below k))
  have HV : Hid (tParse l = if (toksV l).2.2 = 0 then tRead (l.length : Int) (toksV l).1 else (tb0, (toksV l).2.1, (toksV l).2.2)) := by
    unfold Hid tParse
    rw [if_neg (by omega)]
  have hsz : (bs l).size = l.length := bs_size l
  have hsm : ∀ t ∈ (toksV l).1, t.2.1.length ≤ 200000 := fun t ht => Nat.le_trans ((toksV_le l).1 t ht) hl
  have hg : 1 < w.heap.size := by
    obtain ⟨m, hm⟩ := hM
    exact World.block_lt_of_cell? w _ hm
  obtain ⟨n0, hn0⟩ : ∃ n, w.heap.size = n := ⟨_, rfl⟩
  have HM := Lib.hid (fun W (k : Below w.heap.size w W) => hM.below k)
  have hlI : (l.length : Int) ≤ 200000 := by omega
  obtain ⟨E, hE⟩ : ∃ E : Int, (l.length : Int) = E := ⟨_, rfl⟩
  have hszE : ((bs l).size : Int) = E := by rw [hsz, hE]
  rw [hE] at HV hlI
  rw [Hid, hE] at HRS HRP
  replace HRS := Lib.hid HRS
  replace HRP := Lib.hid HRP
  clear hM hU hsz hl
  unfold ParseP
  generalize tParse l = res at *
  generalize toksV l = ts at *
  obtain ⟨ts, tpos, terr⟩ := ts
  simp only at HT0 HV hsm
  generalize bs l = S at *
  have HN0 := Lib.hid (Cel.new w [.slice none 0 0, .slice none 0 0, .slice none 0 0] 27)
  have HK0 := Lib.hid ((Kp.refl (upP n0) w).alloc (.cells #[.slice none 0 0, .slice none 0 0, .slice none 0 0] 27))
  have HB0 := Lib.hid (Bel.alloc (Bel.refl w) (.cells #[.slice none 0 0, .slice none 0 0, .slice none 0 0] 27))
  rw [hn0] at HN0
  have hbig : ¬ (200000 < S.size) := by omega
  go_enter Tryz.func11, Tryz.ntmps11
  go_upto_region 1 with (fail)
  have HT1 := Lib.hid (HT0.out _ HB0.out)
  have HM1 := Lib.hid (HM.out _ HB0.out)
  generalize w.alloc (.cells #[.slice none 0 0, .slice none 0 0, .slice none 0 0] 27) = w0 at *
  go_wp2_with fail
  refine HT1.out.mono ?_
  rintro _ w1 ⟨ad, c, tb, off, rfl, htz, htb, hnc, hcb, hb1⟩
  have HN1 := Lib.hid (HN0.out.below hb1)
  have HK1 := Lib.hid (HK0.out.trans (kp_below hb1))
  have HB1 := Lib.hid (HB0.out.trans (hb1.mono HB0.out.size))
  have HTZ := Lib.hid htz
  clear htz hb1 HT0 HT1 HM1 HB0 HN0 HK0
  by_cases he : terr = 0
  · subst he
    rw [if_pos rfl] at HV
    have HX2 := Lib.hid (Cel.new w1 [.slice ad ts.length c, .int .i64 E, .int .i64 0, .int .i64 0] 67)
    have hrb : Rd (w1.alloc (.cells #[.slice ad ts.length c, .int .i64 E, .int .i64 0, .int .i64 0] 67)) w1.heap.size E ⟨ts, 0, 0⟩ :=
      ⟨ad, c, tb, off, HX2.out, HTZ.out.below (Bel.alloc (Bel.refl w1) _), htb, hnc, hcb, hsm⟩
    have HR2 := Lib.hid hrb
    have HN2 := Lib.hid (HN1.out.below (Bel.alloc (Bel.refl w1) (.cells #[.slice ad ts.length c, .int .i64 E, .int .i64 0, .int .i64 0] 67)))
    have HK2 := Lib.hid (HK1.out.alloc (.cells #[.slice ad ts.length c, .int .i64 E, .int .i64 0, .int .i64 0] 67))
    have hs2 : (w1.alloc (.cells #[.slice ad ts.length c, .int .i64 E, .int .i64 0, .int .i64 0] 67)).heap.size = w1.heap.size + 1 := by simp
    have HS2 := Lib.hid hs2
    obtain ⟨rb, hrb0⟩ : ∃ r, w1.heap.size = r := ⟨_, rfl⟩
    have hn1 : n0 < w1.heap.size := HN1.out.lt
    rw [hrb0] at HR2 HS2 hn1
    clear hrb hs2 HX2 HN1 HK1 HB1 HTZ htb
    go_upto_region 7 with (fail)
    generalize w1.alloc (.cells #[.slice ad ts.length c, .int .i64 E, .int .i64 0, .int .i64 0] 67) = w2 at *
    have HT3 := Lib.hid (TabV.new (Cel.new w2 [.slice none 0 0, .slice none 0 0, .slice none 0 0] 27))
    have HR3 := Lib.hid (HR2.out.below (Bel.alloc (Bel.refl w2) (.cells #[.slice none 0 0, .slice none 0 0, .slice none 0 0] 27)))
    have HN3 := Lib.hid (HN2.out.below (Bel.alloc (Bel.refl w2) (.cells #[.slice none 0 0, .slice none 0 0, .slice none 0 0] 27)))
    have HK3 := Lib.hid (HK2.out.alloc (.cells #[.slice none 0 0, .slice none 0 0, .slice none 0 0] 27))
    rw [HS2.out] at HT3
    have HV2 : Hid (res = if (tParts E (ts.length + 1) tb0 ⟨ts, 0, 0⟩).2.e = 0 then ((tParts E (ts.length + 1) tb0 ⟨ts, 0, 0⟩).1, 0, 0) else (tb0, (tParts E (ts.length + 1) tb0 ⟨ts, 0, 0⟩).2.pos, (tParts E (ts.length + 1) tb0 ⟨ts, 0, 0⟩).2.e)) := HV.out
    have HNX : Hid (∀ n t q, tParts E (n + 1) t q = if q.e = 0 ∧ q.l ≠ [] then tParts E n (tPart E t q).1 (tPart E t q).2 else (t, q)) := fun _ _ _ => rfl
    have HNZ : Hid (∀ t q, tParts E 0 t q = (t, q)) := fun _ _ => rfl
    have HF0 : Hid (TbFew 0 tb0) := ⟨Nat.zero_le _, Nat.zero_le _, Nat.zero_le _⟩
    have HTT : Hid (tParts E (ts.length + 1) tb0 ⟨ts, 0, 0⟩ = tParts E (ts.length + 1) tb0 ⟨ts, 0, 0⟩) := rfl
    obtain ⟨R, hR⟩ : ∃ R, tParts E (ts.length + 1) tb0 ⟨ts, 0, 0⟩ = R := ⟨_, rfl⟩
    rw [hR] at HV2
    have HTR : Hid (tParts E (ts.length + 1) tb0 ⟨ts, 0, 0⟩ = R) := hR
    have hrbn : n0 ≠ rb := by omega
    clear hR HV HTT HR2 HN2 HK2 hsm
    go_wp2_with fail
    rw [HS2.out]
    go_loopw [] (fun wr => ∃ n t q, tParts E n t q = R ∧ (q.e = 0 → q.l.length < n) ∧ TabAt (rb + 1) wr (rb + 1) t ∧ Rd wr rb E q ∧ Cel wr n0 27 [.slice none 0 0, .slice none 0 0, .slice none 0 0] ∧ Kp (upP n0) w wr ∧ TbFew 1 t ∧ (q.e = 0 → TbFew 0 t) ∧ RR t q) (fun wr => remM rb wr)
    case atStart => exact ⟨ts.length + 1, tb0, ⟨ts, 0, 0⟩, HTR.out, (fun _ => Nat.lt_succ_self _), ⟨_, _, _, HT3.out⟩, HR3.out, HN3.out, HK3.out, ⟨Nat.zero_le _, Nat.zero_le _, Nat.zero_le _⟩, (fun _ => HF0.out), HRZ.out⟩
    case round =>
      obtain ⟨n, t, q, hst, hln, hl, hr, hN, hk, hf, hf0, hrr⟩ := hrel
      have HRR := Lib.hid hrr
      clear hrr
      have HST := Lib.hid hst
      have HT := Lib.hid hl
      have HR := Lib.hid hr
      have HN := Lib.hid hN
      have HK := Lib.hid hk
      have HF := Lib.hid hf
      obtain ⟨ad', c', tb', off', hcel, _, _, _, _, _⟩ := hr
      have c0 := hcel.cell 0
      have c2 := hcel.cell 2
      have c3 := hcel.cell 3
      simp only [List.getElem?_cons_zero, List.getElem?_cons_succ] at c0 c2 c3
      have hlq := hcel.lt
      clear hst hl hN hk hf hcel
      by_cases he : q.e = 0
      · by_cases hne : q.l = []
        · have HTq : Hid (R = (t, q)) := by
            have hst := HST.out
            unfold Hid
            rw [← hst]
            cases n with
            | zero => exact HNZ.out t q
            | succ m => rw [HNX.out, if_neg (fun h => h.2 hne)]
          have hres : res = (t, 0, 0) := by
            rw [HV2.out, HTq.out, if_pos he]
          rw [he] at c3
          rw [hne] at c0
          simp only [List.length_nil] at c0
          have HF0q := Lib.hid (hf0 he)
          clear hf0 hln
          obtain ⟨v0, v1, v2, ht⟩ := HT.out
          obtain ⟨a0, k0, hv0⟩ := ht.g0.shape
          subst hv0
          obtain ⟨a1, k1, hv1⟩ := ht.g1.shape
          subst hv1
          obtain ⟨a2, k2, hv2⟩ := ht.g2.shape
          subst hv2
          have HTV := Lib.hid ht
          have d0 := ht.cel.cell 0
          have d1 := ht.cel.cell 1
          have d2 := ht.cel.cell 2
          simp only [List.getElem?_cons_zero, List.getElem?_cons_succ] at d0 d1 d2
          have hTl := ht.cel.lt
          clear ht
          have r0 := HN.out.cell 0
          have rf0 := HN.out.frz 0
          have r1 := HN.out.cell 1
          have rf1 := HN.out.frz 1
          have r2 := HN.out.cell 2
          have rf2 := HN.out.frz 2
          simp only [List.getElem?_cons_zero, List.getElem?_cons_succ] at r0 r1 r2
          have hNt := HN.out.lt
          go_wp2_with fail
          have hN9 := (((HN.out.set 0 (.slice a0 t.locs.length k0)).set 1 (.slice a1 t.als.length k1)).set 2 (.slice a2 t.near.length k2))
          have hk9 := (((HK.out.set (p := ⟨n0, 0, none⟩) (upP_up (Nat.le_refl n0)) (.slice a0 t.locs.length k0)).set (p := ⟨n0, 1, none⟩) (upP_up (Nat.le_refl n0)) (.slice a1 t.als.length k1)).set (p := ⟨n0, 2, none⟩) (upP_up (Nat.le_refl n0)) (.slice a2 t.near.length k2))
          refine bodyPost_ret (results_cell_row3 rfl _ _ n0 _ rfl (run_loadVar_row _ n0 27 27 #[.slice a0 t.locs.length k0, .slice a1 t.als.length k1, .slice a2 t.near.length k2] (0, 0) _ hN9 Tryz.underlying27 rfl (by kernel_rfl))) rfl ?_
          exact ⟨fun j => (#[.slice a0 t.locs.length k0, .slice a1 t.als.length k1, .slice a2 t.near.length k2] : Array Value).getD j undef, by rw [hres]; rfl, by rw [hres]; exact ((HTV.out.tbC HF.out).sub ((see_sub (Kp.kptO (b := n0) ((((Kp.refl (oneP n0) wr).set (p := ⟨n0, 0, none⟩) (oneP_self n0) (.slice a0 t.locs.length k0)).set (p := ⟨n0, 1, none⟩) (oneP_self n0) (.slice a1 t.als.length k1)).set (p := ⟨n0, 2, none⟩) (oneP_self n0) (.slice a2 t.near.length k2)) HN.out (by decide))).trans (see_le _ (by omega) fun _ h => h))), hk9.below w.heap.size (Nat.le_refl _) (fun k hk => decide_eq_false (by omega))⟩
        · have hpos : 0 < q.l.length := by
            cases hq : q.l with
            | nil => exact absurd hq hne
            | cons a b => simp
          have HF0q := Lib.hid (hf0 he)
          have HLN := Lib.hid (hln he)
          have HRM := Lib.hid (remM_ok HR.out he)
          obtain ⟨m, rfl⟩ : ∃ m, n = m + 1 := ⟨n - 1, by have := HLN.out; omega⟩
          have hst := HST.out
          rw [HNX.out, if_pos ⟨he, hne⟩] at hst
          have HST2 := Lib.hid hst
          have HPA := Lib.hid (HRP.out t q HRR.out he hne rb (rb + 1) (rb + 1) wr HR.out (Nat.lt_succ_self _) HT.out ⟨HM.out _ (HK.out.below w.heap.size (Nat.le_refl _) (fun k hk => decide_eq_false (by omega))), by omega⟩ (by have := HF0q.out.locs; omega) (by have := HF0q.out.als; omega) (by have := HF0q.out.near; omega))
          have HRX := Lib.hid (HRS.out t q HRR.out he hne)
          have HLT := Lib.hid (fun (g : (tPart E t q).2.e = 0) => tPart_lt (t := t) (r := q) g)
          have HFW := Lib.hid (TbFew.part (E := E) (r := q) HF0q.out)
          unfold TabP at HPA
          rw [he] at c3
          clear hst HST hf0 hln hne
          generalize tPart E t q = tq at *
          obtain ⟨t', q'⟩ := tq
          simp only at HPA HST2 HLT HFW HRX
          go_wp2_with fail
          refine HPA.out.mono ?_
          rintro _ w8 ⟨rfl, hl8, hr8, hk8⟩
          have HRM8 : Hid (remM rb w8 < remM rb wr) := by
            unfold Hid
            rw [HRM.out]
            by_cases h : q'.e = 0
            · rw [remM_ok hr8 h]
              have := HLT.out h
              omega
            · rw [remM_no hr8 h]; omega
          have HT8 := Lib.hid hl8
          have HR8 := Lib.hid hr8
          have HN8 := Lib.hid (HN.out.kp hk8 (itemP_no hrbn (by omega)))
          have HK8 := Lib.hid (HK.out.trans (hk8.le fun k _ hq => decide_eq_true (by
            unfold itemP at hq
            rw [Bool.or_eq_true, decide_eq_true_eq, decide_eq_true_eq] at hq
            omega)) : Kp (upP n0) w w8)
          clear hl8 hr8 hk8
          go_wp2_with fail
          go_roundw
          case rel => exact ⟨m, t', q', HST2.out, (fun h => by have := HLT.out h; have := HLN.out; omega), HT8.out, HR8.out, HN8.out, HK8.out, HFW.out.1, HFW.out.2, HRX.out⟩
          case measure => exact HRM8.out
      · have HTq : Hid (R = (t, q)) := by
          have hst := HST.out
          unfold Hid
          rw [← hst]
          cases n with
          | zero => exact HNZ.out t q
          | succ m => rw [HNX.out, if_neg (fun h => he h.1)]
        have hres : res = (tb0, q.pos, q.e) := by
          rw [HV2.out, HTq.out, if_neg he]
        have hz : (q.e == 0) = false := by simpa using he
        have hz2 : (q.e != 0) = true := by unfold bne; rw [hz]; rfl
        clear hf0 hln
        have r0 := HN.out.cell 0
        have rf0 := HN.out.frz 0
        have r1 := HN.out.cell 1
        have rf1 := HN.out.frz 1
        have r2 := HN.out.cell 2
        have rf2 := HN.out.frz 2
        simp only [List.getElem?_cons_zero, List.getElem?_cons_succ] at r0 r1 r2
        have hNt := HN.out.lt
        go_wp2_with fail
        go_region
        all_goals go_wp2_with fail
        have hN9 := Cel.below (((HN.out.set 0 (.slice none 0 0)).set 1 (.slice none 0 0)).set 2 (.slice none 0 0)) (Bel.drew (Bel.refl _))
        have hk9 := Kp.drew (((HK.out.set (p := ⟨n0, 0, none⟩) (upP_up (Nat.le_refl n0)) (.slice none 0 0)).set (p := ⟨n0, 1, none⟩) (upP_up (Nat.le_refl n0)) (.slice none 0 0)).set (p := ⟨n0, 2, none⟩) (upP_up (Nat.le_refl n0)) (.slice none 0 0))
        refine bodyPost_ret (results_cell_row3 rfl _ _ n0 _ rfl (run_loadVar_row _ n0 27 27 #[.slice none 0 0, .slice none 0 0, .slice none 0 0] (0, 0) _ hN9 Tryz.underlying27 rfl (by kernel_rfl))) rfl ?_
        exact ⟨fun j => (#[.slice none 0 0, .slice none 0 0, .slice none 0 0] : Array Value).getD j undef, by rw [hres]; rfl, by rw [hres]; exact TbC.zero _, hk9.below w.heap.size (Nat.le_refl _) (fun k hk => decide_eq_false (by omega))⟩
  · rw [if_neg he] at HV
    have hz : (terr == 0) = false := by simpa using he
    have hz2 : (terr != 0) = true := by unfold bne; rw [hz]; rfl
    have hres : res = (tb0, tpos, terr) := HV.out
    have r0 := HN1.out.cell 0
    have rf0 := HN1.out.frz 0
    have r1 := HN1.out.cell 1
    have rf1 := HN1.out.frz 1
    have r2 := HN1.out.cell 2
    have rf2 := HN1.out.frz 2
    simp only [List.getElem?_cons_zero, List.getElem?_cons_succ] at r0 r1 r2
    have hNt := HN1.out.lt
    go_wp2_with fail
    have hN9 := (((HN1.out.set 0 (.slice none 0 0)).set 1 (.slice none 0 0)).set 2 (.slice none 0 0))
    have hk9 := (((HK1.out.set (p := ⟨n0, 0, none⟩) (upP_up (Nat.le_refl n0)) (.slice none 0 0)).set (p := ⟨n0, 1, none⟩) (upP_up (Nat.le_refl n0)) (.slice none 0 0)).set (p := ⟨n0, 2, none⟩) (upP_up (Nat.le_refl n0)) (.slice none 0 0))
    refine bodyPost_ret (results_cell_row3 rfl _ _ n0 _ rfl (run_loadVar_row _ n0 27 27 #[.slice none 0 0, .slice none 0 0, .slice none 0 0] (0, 0) _ hN9 Tryz.underlying27 rfl (by kernel_rfl))) rfl ?_
    exact ⟨fun j => (#[.slice none 0 0, .slice none 0 0, .slice none 0 0] : Array Value).getD j undef, by rw [hres]; rfl, by rw [hres]; exact TbC.zero _, hk9.below w.heap.size (Nat.le_refl _) (fun k hk => decide_eq_false (by omega))⟩
end Go.Proofs.YtmleeodfmmpdgaaGreatDoor
namespace Go.Proofs.YtmleeodfmmpdgaaGreatDoor
open Go.RowKit
end Go.Proofs.YtmleeodfmmpdgaaGreatDoor
namespace Go.Proofs.YtmleeodfmmpdgaaGreatDoor

end Go.Proofs.YtmleeodfmmpdgaaGreatDoor
namespace Go.Proofs.YtmleeodfmmpdgaaGreatDoor
open Go.RowKit
attribute [local go_sem] Ext.cell Ext.frozen
attribute [local go_sem ↓] Go.wp_at_zero Go.wp_at_succ
theorem cellsAlV : Tryz.prog.cellsOf 61 = 2 := by kernel_rfl
end Go.Proofs.YtmleeodfmmpdgaaGreatDoor
