/- Plain: how long the text of a table is. -/
import Derived.Test.YtmleeodfmmpdgaaGreatDoorQ22
import Derived.Test.YtmleeodfmmpdgaaGreatDoorQ23
import Derived.Test.YtmleeodfmmpdgaaGreatDoorQ20
import Derived.Test.YtmleeodfmmpdgaaGreatDoorQ19
import Derived.Test.YtmleeodfmmpdgaaGreatDoorQ12
namespace Go.Proofs.YtmleeodfmmpdgaaGreatDoor
theorem okWs_mem {l : List ByteArray} (h : okWs l = true) {s : ByteArray} (hs : s ∈ l) : wokB s = true := List.all_eq_true.1 h s hs
theorem okXs_mem {l : List ByteArray} (h : okXs l = true) {s : ByteArray} (hs : s ∈ l) : xokB s = true := List.all_eq_true.1 h s hs
theorem sz_data (s : ByteArray) : s.data.toList.length = s.size := ba_len s
theorem classU_le {s : ByteArray} (h : s ∈ classU) : s.size ≤ 40 := by
  simp only [classU, classL, otherB, List.mem_append, List.mem_cons, List.not_mem_nil, or_false] at h
  rcases h with (rfl | rfl | rfl | rfl | rfl) | rfl <;> decide
theorem classL_U {s : ByteArray} (h : s ∈ classL) : s ∈ classU := List.mem_append_left _ h
theorem ruleT_le {r : ByteArray × List (List Rel)} (h : okRule r = true) (kw : List UInt8) (hk : kw.length ≤ 10) : (lineT [9] [kw, r.1.data.toList, qT (bs (condT r.2))]).length ≤ 160000 := by
  unfold okRule at h
  rw [Bool.and_eq_true] at h
  have h1 := classU_le (classL_U (List.contains_iff_mem.1 h.1))
  have h2 := condT_le (condF_of h.2)
  have h3 := qT_le (s := bs (condT r.2)) (m := 13000) (by rw [bs_size]; exact h2)
  have := lineT_le [9] [kw, r.1.data.toList, qT (bs (condT r.2))] 52002 (Nat.le_refl _) (fun x hx => by
    simp only [List.mem_cons, List.not_mem_nil, or_false] at hx
    rcases hx with rfl | rfl | rfl
    · omega
    · rw [sz_data]; omega
    · exact h3)
  simp only [List.length_cons, List.length_nil] at this
  omega
theorem rulesT_le {l : List (ByteArray × List (List Rel))} (h : ∀ r ∈ l, okRule r = true) (kw : List UInt8) (hk : kw.length ≤ 10) : (rulesT kw l).length ≤ l.length * 160000 := flatMap_le _ _ _ fun r hr => ruleT_le (h r hr) kw hk
theorem itemT_le (l : List (List UInt8)) (more : List ByteArray) (hl : ∀ x ∈ l, x.length ≤ 40) (hm : ∀ s ∈ more, xokB s = true) : (itemT l more).length ≤ (l.length + more.length) * 1603 + 3 := by
  have := lineT_le [9] (l ++ more.map qT) 1602 (Nat.le_refl _) (fun x hx => by
    rcases List.mem_append.1 hx with hx | hx
    · have := hl x hx; omega
    · obtain ⟨s, hs, rfl⟩ := List.mem_map.1 hx
      exact qT_le (okX_le (hm s hs)))
  rw [List.length_append, List.length_map] at this
  exact this
theorem lpT_le {x : Lp} (h : okLp x = true) : (lpT x).length ≤ 10000 := by
  unfold okLp at h
  rw [Bool.and_eq_true] at h
  have h1 := okW_le (okWs_mem h.1 (List.mem_cons_self ..))
  have := itemT_le [[108, 105, 115, 116], x.style.data.toList] [x.two, x.start, x.mid, x.fin] (fun y hy => by
    simp only [List.mem_cons, List.not_mem_nil, or_false] at hy
    rcases hy with rfl | rfl
    · decide
    · rw [sz_data]; exact h1.2) (fun s hs => okXs_mem h.2 hs)
  unfold lpT
  simp only [List.length_cons, List.length_nil] at this
  omega
theorem upT_le {x : Up} (h : okUp x = true) : (upT x).length ≤ 10000 := by
  unfold okUp at h
  rw [Bool.and_eq_true, Bool.and_eq_true] at h
  have h1 := okW_le (okWs_mem h.1 (List.mem_cons_self ..))
  have h2 := classU_le (List.contains_iff_mem.1 h.2.1)
  have := itemT_le [[117, 110, 105, 116], x.unit.data.toList, x.cls.data.toList] [x.pat] (fun y hy => by
    simp only [List.mem_cons, List.not_mem_nil, or_false] at hy
    rcases hy with rfl | rfl | rfl
    · decide
    · rw [sz_data]; exact h1.2
    · rw [sz_data]; exact h2) (fun s hs => okXs_mem h.2.2 hs)
  unfold upT
  simp only [List.length_cons, List.length_nil] at this
  omega
theorem dpT_le {x : Dp} (h : okDp x = true) : (dpT x).length ≤ 10000 := by
  unfold okDp at h
  rw [Bool.and_eq_true] at h
  have h1 := okW_le (okWs_mem h.1 (List.mem_cons_self ..))
  have := itemT_le [[100, 97, 116, 101], x.skel.data.toList] [x.pat] (fun y hy => by
    simp only [List.mem_cons, List.not_mem_nil, or_false] at hy
    rcases hy with rfl | rfl
    · decide
    · rw [sz_data]; exact h1.2) (fun s hs => okXs_mem h.2 hs)
  unfold dpT
  simp only [List.length_cons, List.length_nil] at this
  omega
theorem symT_le {y : Lc} (h : okSym y = true) (hz : symZ y = false) : (symT y).length ≤ 20000 := by
  unfold okSym at h
  rw [hz, Bool.false_or] at h
  simp only [Bool.and_eq_true, decide_eq_true_eq] at h
  obtain ⟨_, h2, h3, h4, h5, h6⟩ := h
  have e1 := itoaZ_le (n := y.pri) h3 (by omega)
  have e2 := itoaZ_le (n := y.sec) h5 (by omega)
  have := lineT_le [9] ([[115, 121, 109, 98, 111, 108, 115]] ++ [y.dec, y.grp, y.mi, y.pct].map qT ++ [Lib.itoa y.pri, Lib.itoa y.sec]) 1602 (Nat.le_refl _) (fun x hx => by
    rcases List.mem_append.1 hx with hx | hx
    · rcases List.mem_append.1 hx with hx | hx
      · rw [List.mem_singleton.1 hx]; decide
      · obtain ⟨s, hs, rfl⟩ := List.mem_map.1 hx
        exact qT_le (okX_le (okXs_mem h2 hs))
    · simp only [List.mem_cons, List.not_mem_nil, or_false] at hx
      rcases hx with rfl | rfl <;> omega)
  unfold symT
  simp only [List.length_append, List.length_map, List.length_cons, List.length_nil] at this ⊢
  omega
theorem dirU_le {s : ByteArray} (h : s ∈ dirU) : s.size ≤ 3 := by
  simp only [dirU, List.mem_cons, List.not_mem_nil, or_false] at h
  rcases h with rfl | rfl | rfl <;> decide
structure LocF (y : Lc) : Prop where
  tag : wokB y.tag = true
  par : y.par = .empty ∨ wokB y.par = true
  dir : y.dir ∈ dirU
  months : y.months.length ≤ 12
  days : y.days.length ≤ 7
  monthsX : ∀ s ∈ y.months, xokB s = true
  daysX : ∀ s ∈ y.days, xokB s = true
  card : ∀ r ∈ y.card, okRule r = true
  ord : ∀ r ∈ y.ord, okRule r = true
  sym : okSym y = true
  nl : y.lists.length ≤ 10
  nu : y.units.length ≤ 100
  nd : y.dates.length ≤ 30
  lists : ∀ x ∈ y.lists, okLp x = true
  units : ∀ x ∈ y.units, okUp x = true
  dates : ∀ x ∈ y.dates, okDp x = true
theorem locF_of {y : Lc} (h : okLoc y = true) : LocF y := by
  unfold okLoc okHead okNames okRules okPat at h
  simp only [Bool.and_eq_true, Bool.or_eq_true, decide_eq_true_eq] at h
  obtain ⟨⟨h1, h2, h3⟩, ⟨h4, h5, h6, h7⟩, ⟨_, h8⟩, ⟨_, h9⟩, h10, h11, h12, h13, _, _, _, h14, h15, h16⟩ := h
  exact ⟨okWs_mem h1 (List.mem_cons_self ..), h2.imp id (fun h => okWs_mem h (List.mem_cons_self ..)), List.contains_iff_mem.1 h3, by omega, by omega, fun s hs => okXs_mem h6 hs, fun s hs => okXs_mem h7 hs,
    List.all_eq_true.1 h8, List.all_eq_true.1 h9, h10, h11, h12, h13, List.all_eq_true.1 h14, List.all_eq_true.1 h15, List.all_eq_true.1 h16⟩
theorem headT_le {y : Lc} (h : LocF y) : (headT y).length ≤ 100 := by
  have h1 := okW_le h.tag
  unfold headT
  rcases h.par with e | e
  · rw [if_pos e]
    simp only [List.length_append, sz_data, List.length_cons, List.length_nil]
    omega
  · have h2 := okW_le e
    split <;> simp only [List.length_append, sz_data, List.length_cons, List.length_nil] <;> omega
theorem dirT_le {y : Lc} (h : LocF y) : (dirT y).length ≤ 50 := by
  have h1 := dirU_le h.dir
  unfold dirT
  split
  · simp
  · have := lineT_le [9] [[100, 105, 114, 101, 99, 116, 105, 111, 110], y.dir.data.toList] 9 (Nat.le_refl _) (fun x hx => by
      simp only [List.mem_cons, List.not_mem_nil, or_false] at hx
      rcases hx with rfl | rfl
      · decide
      · rw [sz_data]; omega)
    simp only [List.length_cons, List.length_nil] at this
    omega
theorem locT_le {y : Lc} (h : LocF y) (h1 : y.card.length ≤ 1000) (h2 : y.ord.length ≤ 1000) : (locT y).length ≤ 400000000 := by
  have a1 := headT_le h
  have a2 := dirT_le h
  have a3 := rulesT_le h.card [99, 97, 114, 100, 105, 110, 97, 108] (by decide)
  have a4 := rulesT_le h.ord [111, 114, 100, 105, 110, 97, 108] (by decide)
  have a5 := flatMap_le lpT 10000 y.lists fun x hx => lpT_le (h.lists x hx)
  have a6 := flatMap_le upT 10000 y.units fun x hx => upT_le (h.units x hx)
  have a7 := flatMap_le dpT 10000 y.dates fun x hx => dpT_le (h.dates x hx)
  have a8 := itemT_le [[109, 111, 110, 116, 104, 115]] y.months (fun x hx => by rw [List.mem_singleton.1 hx]; decide) h.monthsX
  have a9 := itemT_le [[100, 97, 121, 115]] y.days (fun x hx => by rw [List.mem_singleton.1 hx]; decide) h.daysX
  have b1 := h.months
  have b2 := h.days
  have b3 := h.nl
  have b4 := h.nu
  have b5 := h.nd
  have c1 : (if symZ y then [] else symT y).length ≤ 20000 := by
    cases e : symZ y with
    | true => simp
    | false => exact symT_le h.sym e
  have c2 : (if y.months = [] then [] else itemT [[109, 111, 110, 116, 104, 115]] y.months).length ≤ 30000 := by
    split
    · simp
    · simp only [List.length_cons, List.length_nil] at a8; omega
  have c3 : (if y.days = [] then [] else itemT [[100, 97, 121, 115]] y.days).length ≤ 30000 := by
    split
    · simp
    · simp only [List.length_cons, List.length_nil] at a9; omega
  unfold locT bodyT
  simp only [List.length_append, List.length_cons, List.length_nil]
  omega
theorem alT_le {x : Al} (h : okAl x = true) : (alT x).length ≤ 200 := by
  have h1 := okW_le (okWs_mem h (List.mem_cons_self ..))
  have h2 := okW_le (okWs_mem h (List.mem_cons_of_mem _ (List.mem_cons_self ..)))
  have := lineT_le [] [[97, 108, 105, 97, 115], x.fro.data.toList, x.dst.data.toList] 40 (Nat.zero_le _) (fun y hy => by
    simp only [List.mem_cons, List.not_mem_nil, or_false] at hy
    rcases hy with rfl | rfl | rfl
    · decide
    · rw [sz_data]; exact h1.2
    · rw [sz_data]; exact h2.2)
  simp only [List.length_cons, List.length_nil] at this
  unfold alT
  omega
theorem neT_le {x : Ne} (h : okNe x = true) : (neT x).length ≤ 200 := by
  unfold okNe at h
  simp only [Bool.and_eq_true, decide_eq_true_eq] at h
  have h1 := okW_le (okWs_mem h.1 (List.mem_cons_self ..))
  have h2 := okW_le (okWs_mem h.1 (List.mem_cons_of_mem _ (List.mem_cons_self ..)))
  have h3 := itoaZ_le h.2.1 h.2.2
  have := lineT_le [] [[110, 101, 97, 114], x.fro.data.toList, x.dst.data.toList, Lib.itoa x.cost] 40 (Nat.zero_le _) (fun y hy => by
    simp only [List.mem_cons, List.not_mem_nil, or_false] at hy
    rcases hy with rfl | rfl | rfl | rfl
    · decide
    · rw [sz_data]; exact h1.2
    · rw [sz_data]; exact h2.2
    · omega)
  simp only [List.length_cons, List.length_nil] at this
  unfold neT
  omega
structure TabF (t : Tb) : Prop where
  nl : t.locs.length ≤ 60
  na : t.als.length ≤ 200
  nn : t.near.length ≤ 200
  locs : ∀ x ∈ t.locs, okLoc x = true
  als : ∀ x ∈ t.als, okAl x = true
  near : ∀ x ∈ t.near, okNe x = true
theorem tabF_of {t : Tb} (h : okTab t = true) : TabF t := by
  unfold okTab at h
  simp only [Bool.and_eq_true, decide_eq_true_eq] at h
  exact ⟨h.1, h.2.1, h.2.2.1, List.all_eq_true.1 h.2.2.2.1, List.all_eq_true.1 h.2.2.2.2.1, List.all_eq_true.1 h.2.2.2.2.2⟩
theorem tabT_le {t : Tb} (h : TabF t) (h1 : ∀ y ∈ t.locs, y.card.length ≤ 1000 ∧ y.ord.length ≤ 1000) : (tabT t).length ≤ 30000000000 := by
  have a1 := flatMap_le locT 400000000 t.locs fun x hx => locT_le (locF_of (h.locs x hx)) (h1 x hx).1 (h1 x hx).2
  have a2 := flatMap_le alT 200 t.als fun x hx => alT_le (h.als x hx)
  have a3 := flatMap_le neT 200 t.near fun x hx => neT_le (h.near x hx)
  have b1 := h.nl
  have b2 := h.na
  have b3 := h.nn
  unfold tabT
  simp only [List.length_append]
  omega
end Go.Proofs.YtmleeodfmmpdgaaGreatDoor
namespace Go.Proofs.YtmleeodfmmpdgaaGreatDoor
open Go.RowKit
theorem Grow.lt {α : Type} {E : TypeId} {k : Nat} {C : World → (Nat → Value) → α → Prop} {base : Nat} {ts : List TypeId} {w : World} {v : Value} {l : List α} (h : Grow E k C base ts w v l) {i : Nat} (hi : v.ownBlock = some i) : base ≤ i ∧ i < w.heap.size := by
  obtain ⟨f, h1, _⟩ := h
  exact World.ownsRow.lt h1 i hi
theorem Grow.ty {α : Type} {E : TypeId} {k : Nat} {C : World → (Nat → Value) → α → Prop} {base : Nat} {ts : List TypeId} {w : World} {v : Value} {l : List α} (h : Grow E k C base ts w v l) {i : Nat} (hi : v.ownBlock = some i) : tyAt w i = some E := by
  obtain ⟨f, h1, _⟩ := h
  exact own_ty h1 hi
theorem Rd.ty {w : World} {b : Nat} {E : Int} {r : RS} (h : Rd w b E r) : tyAt w b = some 67 := by
  obtain ⟨_, _, _, _, h1, _⟩ := h
  exact tyAt_cel h1
section
variable {base : Nat} {w w' : World} {L : Nat} {y : Lc} {v3 v4 v11 v12 v13 v14 v15 : Value} {b : Nat} {E : Int} {r : RS}
end
def itemP (b base k : Nat) : Bool := decide (k = b) || decide (base ≤ k)
theorem itemP_one {b base k : Nat} (h : oneP b k = true) : itemP b base k = true := by unfold itemP; rw [show decide (k = b) = true from h]; rfl
theorem itemP_up {b base k : Nat} (h : base ≤ k) : itemP b base k = true := by unfold itemP; rw [decide_eq_true h, Bool.or_true]
theorem itemP_no {b base k : Nat} (h1 : k ≠ b) (h2 : k < base) : itemP b base k = false := by unfold itemP; rw [decide_eq_false h1, decide_eq_false (by omega)]; rfl
theorem Kp.item {b base : Nat} {w w' : World} (h : Kp (oneP b) w w') : Kp (itemP b base) w w' := h.le fun _ _ g => itemP_one g
theorem Kp.itemG {b base : Nat} {w w' : World} {α : Type} {E : TypeId} {k : Nat} {C : World → (Nat → Value) → α → Prop} {base' : Nat} {ts : List TypeId} {v : Value} {l : List α} (h : Kp (growP b v) w w') (g : Grow E k C base' ts w v l) (hb : base ≤ base') : Kp (itemP b base) w w' :=
  h.le fun i _ hq => by
    unfold growP at hq
    rw [Bool.or_eq_true, decide_eq_true_eq, decide_eq_true_eq] at hq
    rcases hq with e | e
    · rw [e]; exact itemP_one (oneP_self b)
    · exact itemP_up (Nat.le_trans hb (g.lt e).1)
theorem Kp.itemS {b base : Nat} {a w : World} (h : Kp (itemP b base) a w) {p : Addr} (hp : base ≤ p.block) (u : Value) : Kp (itemP b base) a (w.setCell p u) := h.set (itemP_up hp) u
def MaxAt (base : Nat) (w : World) : Prop := MaxLen w ∧ 1 < base
end Go.Proofs.YtmleeodfmmpdgaaGreatDoor
namespace Go.Proofs.YtmleeodfmmpdgaaGreatDoor
open Go.RowKit
attribute [local go_sem] Ext.cell Ext.frozen
attribute [local go_sem ↓] Go.wp_at_zero Go.wp_at_succ
def RS.number (E max : Int) (r : RS) : Int × RS :=
  (((numW (r.peek E).2.1).1 : Int), ((if (r.peek E).1 = 1 ∧ (numW (r.peek E).2.1).2 = true then (if max < ((numW (r.peek E).2.1).1 : Int) then r.fail E 2 else r) else r.fail E 3).word E).2)
set_option maxRecDepth 20000 in
set_option maxHeartbeats 2000000 in
theorem rnum_any (b : Nat) (E max : Int) (r : RS) (w : World) (h : Rd w b E r) : Calls Tryz.prog 61 #[.pointer (some ⟨b, 0, none⟩), .int .i64 max] w (RdP b E (.int .i64 (r.number E max).1) (r.number E max).2 w) := by
  have HP := Lib.hid (peek_any b E r w h)
  have HF := Lib.hid (fun e W (g : Rd W b E r) => fail_any b E r e W g)
  have HT := Lib.hid (fun r W (g : Rd W b E r) => word_any b E r W g)
  have HR := Lib.hid h
  have hlen := h.peek_len
  have HV : Hid (r.number E max = (((numW (r.peek E).2.1).1 : Int), ((if (r.peek E).1 = 1 ∧ (numW (r.peek E).2.1).2 = true then (if max < ((numW (r.peek E).2.1).1 : Int) then r.fail E 2 else r) else r.fail E 3).word E).2)) := rfl
  unfold RdP at HF HT ⊢
  unfold tokV at HP
  clear h
  generalize r.number E max = res at *
  generalize r.peek E = t at *
  obtain ⟨k', s', f⟩ := t
  simp only at HP HV hlen
  have HNU := Lib.hid (number_any s' hlen)
  unfold numE at HNU
  generalize numW s' = nw at *
  obtain ⟨nv, ok⟩ := nw
  simp only at HNU HV
  obtain ⟨z, hz⟩ : ∃ z : Int, (nv : Int) = z := ⟨_, rfl⟩
  rw [hz] at HNU HV
  clear hz nv hlen
  generalize bs s' = S at *
  go_enter Tryz.func61, Tryz.ntmps61
  go_wp2_with fail
  refine HP.out.mono ?_
  rintro _ w1 ⟨rfl, hb⟩
  have HB := Lib.hid hb
  have HR1 := Lib.hid (HR.out.below hb)
  clear hb HR HP
  go_upto_region 2 with (fail)
  have HB2 : Hid (Below w.heap.size w (w1.alloc (.cells #[.int .i64 k', .string S, .int .i64 f] 109))) := HB.out.alloc HB.out.size _
  have HR2 := Lib.hid (HR1.out.below (Bel.alloc (Bel.refl w1) (.cells #[.int .i64 k', .string S, .int .i64 f] 109)))
  have HX : Hid (Cel (w1.alloc (.cells #[.int .i64 k', .string S, .int .i64 f] 109)) w1.heap.size 109 [.int .i64 k', .string S, .int .i64 f]) := Cel.new w1 _ _
  have hbB : b < w1.heap.size := HR1.out.lt
  generalize w1.alloc (.cells #[.int .i64 k', .string S, .int .i64 f] 109) = w2 at *
  obtain ⟨B, hB⟩ : ∃ B, w1.heap.size = B := ⟨_, rfl⟩
  rw [hB] at HX hbB ⊢
  clear hB HB HR1
  have x0 := HX.out.cell 0
  have x1 := HX.out.cell 1
  have x2 := HX.out.cell 2
  simp only [List.getElem?_cons_zero, List.getElem?_cons_succ] at x0 x1 x2
  obtain ⟨c2, c3, f2, f3, f0⟩ := HR2.out.cells
  go_wp2_with fail
  refine (HNU.out _).mono ?_
  rintro _ w3 ⟨rfl, hb3⟩
  have HR3 := Lib.hid (HR2.out.below hb3)
  have HK3 := Lib.hid ((kp_below HB2.out).trans (kp_below hb3) : Kp (oneP b) w w3)
  have HX3 := Lib.hid (HX.out.below hb3)
  have y0 := HX3.out.cell 0
  simp only [List.getElem?_cons_zero] at y0
  have hl3 := HX3.out.lt
  clear hb3 HR2 HX HB2 x0 x1 x2 c2 c3 f2 f3 f0
  by_cases hk : k' = 1
  · subst hk
    cases ok with
    | true =>
      simp only [and_self, if_true] at HV
      by_cases hm : max < z
      · rw [if_pos hm] at HV
        have hmd : decide (max < z) = true := decide_eq_true hm
        have HF1 := Lib.hid (HF.out 2 _ HR3.out)
        go_wp2_with fail
        refine HF1.out.mono ?_
        rintro _ w4 ⟨rfl, hr4, hk4⟩
        have HR4 := Lib.hid hr4
        have HK4 := Lib.hid (HK3.out.trans hk4)
        clear hr4 hk4
        have HT1 := Lib.hid (HT.out (r.fail E 2) _ HR4.out)
        go_wp2_with fail
        refine HT1.out.mono ?_
        rintro _ w5 ⟨rfl, hr5, hk5⟩
        have HR5 := Lib.hid hr5
        have HK5 := Lib.hid (HK4.out.trans hk5)
        clear hr5 hk5
        go_wp2_with fail
        go_ret
        exact ⟨by rw [HV.out]; rfl, by rw [HV.out]; exact HR5.out, HK5.out⟩
      · rw [if_neg hm] at HV
        have hmd : decide (max < z) = false := decide_eq_false hm
        have HT1 := Lib.hid (HT.out r _ HR3.out)
        go_wp2_with fail
        refine HT1.out.mono ?_
        rintro _ w5 ⟨rfl, hr5, hk5⟩
        have HR5 := Lib.hid hr5
        have HK5 := Lib.hid (HK3.out.trans hk5)
        clear hr5 hk5
        go_wp2_with fail
        go_ret
        exact ⟨by rw [HV.out]; rfl, by rw [HV.out]; exact HR5.out, HK5.out⟩
    | false =>
      rw [if_neg (by simp)] at HV
      have HF1 := Lib.hid (HF.out 3 _ HR3.out)
      go_wp2_with fail
      refine HF1.out.mono ?_
      rintro _ w4 ⟨rfl, hr4, hk4⟩
      have HR4 := Lib.hid hr4
      have HK4 := Lib.hid (HK3.out.trans hk4)
      clear hr4 hk4
      have HT1 := Lib.hid (HT.out (r.fail E 3) _ HR4.out)
      go_wp2_with fail
      refine HT1.out.mono ?_
      rintro _ w5 ⟨rfl, hr5, hk5⟩
      have HR5 := Lib.hid hr5
      have HK5 := Lib.hid (HK4.out.trans hk5)
      clear hr5 hk5
      go_wp2_with fail
      go_ret
      exact ⟨by rw [HV.out]; rfl, by rw [HV.out]; exact HR5.out, HK5.out⟩
  · rw [if_neg (fun h => hk h.1)] at HV
    have hy : (k' == 1) = false := by simpa using hk
    have hy2 : (k' != 1) = true := by rw [bne, hy]; rfl
    cases ok
    · have HF1 := Lib.hid (HF.out 3 _ HR3.out)
      go_wp2_with fail
      refine HF1.out.mono ?_
      rintro _ w4 ⟨rfl, hr4, hk4⟩
      have HR4 := Lib.hid hr4
      have HK4 := Lib.hid (HK3.out.trans hk4)
      clear hr4 hk4
      have HT1 := Lib.hid (HT.out (r.fail E 3) _ HR4.out)
      go_wp2_with fail
      refine HT1.out.mono ?_
      rintro _ w5 ⟨rfl, hr5, hk5⟩
      have HR5 := Lib.hid hr5
      have HK5 := Lib.hid (HK4.out.trans hk5)
      clear hr5 hk5
      go_wp2_with fail
      go_ret
      exact ⟨by rw [HV.out]; rfl, by rw [HV.out]; exact HR5.out, HK5.out⟩
    · have HF1 := Lib.hid (HF.out 3 _ HR3.out)
      go_wp2_with fail
      refine HF1.out.mono ?_
      rintro _ w4 ⟨rfl, hr4, hk4⟩
      have HR4 := Lib.hid hr4
      have HK4 := Lib.hid (HK3.out.trans hk4)
      clear hr4 hk4
      have HT1 := Lib.hid (HT.out (r.fail E 3) _ HR4.out)
      go_wp2_with fail
      refine HT1.out.mono ?_
      rintro _ w5 ⟨rfl, hr5, hk5⟩
      have HR5 := Lib.hid hr5
      have HK5 := Lib.hid (HK4.out.trans hk5)
      clear hr5 hk5
      go_wp2_with fail
      go_ret
      exact ⟨by rw [HV.out]; rfl, by rw [HV.out]; exact HR5.out, HK5.out⟩
end Go.Proofs.YtmleeodfmmpdgaaGreatDoor
namespace Go.Proofs.YtmleeodfmmpdgaaGreatDoor
def dirL : List ByteArray := [bs [108, 116, 114], bs [114, 116, 108]]
def unitL : List ByteArray := classL ++ [bs [111, 116, 104, 101, 114]]
def gS (l : List ByteArray) (i : Nat) : ByteArray := l.getD i .empty
def dupRu (l : List (ByteArray × List (List Rel))) (x : ByteArray) : Bool := anyP (fun i => decide ((l.getD i (.empty, [])).1 = x)) l.length
def dupLp (l : List Lp) (x : ByteArray) : Bool := anyP (fun i => decide ((l.getD i default).style = x)) l.length
def dupUp (l : List Up) (x z : ByteArray) : Bool := anyP (fun i => decide ((l.getD i default).unit = x ∧ (l.getD i default).cls = z)) l.length
def dupDp (l : List Dp) (x : ByteArray) : Bool := anyP (fun i => decide ((l.getD i default).skel = x)) l.length
def fullB (lim : Int) (n : Nat) : Bool := decide (lim ≤ (n : Int))
def hasB (s : ByteArray) : Bool := !decide (s.size = 0)
def itDir (E p : Int) (y : Lc) (r : RS) : Lc × RS :=
  ({ y with dir := bs (r.one E dirL).1 }, ((r.one E dirL).2.mark E [59]).once p (hasB y.dir))
def itCard (E p : Int) (y : Lc) (r : RS) : Lc × RS :=
  ({ y with card := y.card ++ [(r.rule E).1] }, (r.rule E).2.add p (dupRu y.card (r.rule E).1.1) (fullB 5 y.card.length))
def itOrd (E p : Int) (y : Lc) (r : RS) : Lc × RS :=
  ({ y with ord := y.ord ++ [(r.rule E).1] }, (r.rule E).2.add p (dupRu y.ord (r.rule E).1.1) (fullB 5 y.ord.length))
def RS.sym0 (E : Int) (r : RS) : RS := if r.is E 2 [] then r.fail E 3 else r
def RS.sym (E : Int) (r : RS) : (List ByteArray × Int × Int) × RS :=
  let t := RS.texts0 E 4 (r.sym0 E)
  let a := t.2.number E 9
  let c := a.2.number E 9
  ((t.1, a.1, c.1), c.2.mark E [59])
def itSym (E p : Int) (y : Lc) (r : RS) : Lc × RS :=
  ({ y with dec := gS (r.sym E).1.1 0, grp := gS (r.sym E).1.1 1, mi := gS (r.sym E).1.1 2, pct := gS (r.sym E).1.1 3, pri := (r.sym E).1.2.1, sec := (r.sym E).1.2.2 }, (r.sym E).2.once p (hasB y.dec))
def RS.lp (E : Int) (r : RS) : Lp × RS :=
  let k := r.word E
  let t := RS.texts0 E 4 k.2
  (⟨bs k.1, gS t.1 0, gS t.1 1, gS t.1 2, gS t.1 3⟩, t.2.mark E [59])
def itList (E p : Int) (y : Lc) (r : RS) : Lc × RS :=
  ({ y with lists := y.lists ++ [(r.lp E).1] }, (r.lp E).2.add p (dupLp y.lists (r.lp E).1.style) (fullB 10 y.lists.length))
def RS.up (E : Int) (r : RS) : Up × RS :=
  let k := r.word E
  let c := k.2.one E unitL
  let t := c.2.text E
  (⟨bs k.1, bs c.1, bs t.1⟩, t.2.mark E [59])
def itUnit (E p : Int) (y : Lc) (r : RS) : Lc × RS :=
  ({ y with units := y.units ++ [(r.up E).1] }, (r.up E).2.add p (dupUp y.units (r.up E).1.unit (r.up E).1.cls) (fullB 100 y.units.length))
def RS.dp (E : Int) (r : RS) : Dp × RS :=
  let k := r.word E
  let t := k.2.text E
  (⟨bs k.1, bs t.1⟩, t.2.mark E [59])
def itDate (E p : Int) (y : Lc) (r : RS) : Lc × RS :=
  ({ y with dates := y.dates ++ [(r.dp E).1] }, (r.dp E).2.add p (dupDp y.dates (r.dp E).1.skel) (fullB 30 y.dates.length))
def itMonths (E p : Int) (y : Lc) (r : RS) : Lc × RS :=
  ({ y with months := (RS.texts0 E 12 r).1 }, ((RS.texts0 E 12 r).2.mark E [59]).once p (!decide (y.months.length = 0)))
def itDays (E p : Int) (y : Lc) (r : RS) : Lc × RS :=
  ({ y with days := (RS.texts0 E 7 r).1 }, ((RS.texts0 E 7 r).2.mark E [59]).once p (!decide (y.days.length = 0)))
def itN : Nat → Int → Int → Lc → RS → Lc × RS
  | 0 => itDir
  | 1 => itCard
  | 2 => itOrd
  | 3 => itSym
  | 4 => itList
  | 5 => itUnit
  | 6 => itDate
  | 7 => itMonths
  | _ => itDays
def keyL : List (List UInt8) := [[100, 105, 114, 101, 99, 116, 105, 111, 110], [99, 97, 114, 100, 105, 110, 97, 108], [111, 114, 100, 105, 110, 97, 108], [115, 121, 109, 98, 111, 108, 115], [108, 105, 115, 116], [117, 110, 105, 116], [100, 97, 116, 101], [109, 111, 110, 116, 104, 115], [100, 97, 121, 115]]
def keyP (t : Tz) (i : Nat) : Bool := decide (t.1 = 1) && decide (bs (keyL.getD i []) = bs t.2.1)
def tItem (E : Int) (y : Lc) (r : RS) : Lc × RS :=
  if idxP (keyP (r.peek E)) 9 < 0 then (y, r.fail E 3) else itN (idxP (keyP (r.peek E)) 9).toNat E (r.peek E).2.2 y (r.word E).2
def tItems (E : Int) : Nat → Lc → RS → Lc × RS
  | 0, y, r => (y, r)
  | n + 1, y, r => if r.e = 0 ∧ r.is E 3 [125] = false then tItems E n (tItem E y r).1 (tItem E y r).2 else (y, r)
def lc0 (tag par : ByteArray) : Lc := ⟨tag, par, .empty, [], [], .empty, .empty, .empty, .empty, 0, 0, [], [], [], [], []⟩
def RS.head (E : Int) (r : RS) : (ByteArray × ByteArray) × RS :=
  let k := r.word E
  if k.2.is E 1 [112, 97, 114, 101, 110, 116] then ((bs k.1, bs ((k.2.word E).2.word E).1), ((k.2.word E).2.word E).2) else ((bs k.1, .empty), k.2)
def tLocale (E : Int) (r : RS) : Lc × RS :=
  let h := r.head E
  let q := h.2.mark E [123]
  let t := tItems E (q.l.length + 1) (lc0 h.1.1 h.1.2) q
  (t.1, t.2.mark E [125])
def tLim (p : Int) (full : Bool) (r : RS) : RS := if full then r.failAt p 6 else r
def RS.al (E : Int) (r : RS) : Al × RS :=
  let k := r.word E
  let t := k.2.word E
  (⟨bs k.1, bs t.1⟩, t.2.mark E [59])
def RS.ne (E : Int) (r : RS) : Ne × RS :=
  let k := r.word E
  let t := k.2.word E
  let c := t.2.number E 1000
  (⟨bs k.1, bs t.1, c.1⟩, c.2.mark E [59])
def tPart (E : Int) (t : Tb) (r : RS) : Tb × RS :=
  let at_ := (r.peek E).2.2
  if r.is E 1 [108, 111, 99, 97, 108, 101] then
    (let q := tLocale E (r.word E).2; ({ t with locs := t.locs ++ [q.1] }, tLim at_ (decide (60 < t.locs.length + 1)) q.2))
  else if r.is E 1 [97, 108, 105, 97, 115] then
    (let q := RS.al E (r.word E).2; ({ t with als := t.als ++ [q.1] }, tLim at_ (decide (200 < t.als.length + 1)) q.2))
  else if r.is E 1 [110, 101, 97, 114] then
    (let q := RS.ne E (r.word E).2; ({ t with near := t.near ++ [q.1] }, tLim at_ (decide (200 < t.near.length + 1)) q.2))
  else (t, r.fail E 3)
def tParts (E : Int) : Nat → Tb → RS → Tb × RS
  | 0, t, r => (t, r)
  | n + 1, t, r => if r.e = 0 ∧ r.l ≠ [] then tParts E n (tPart E t r).1 (tPart E t r).2 else (t, r)
def RsOk (r : RS) : Prop := ∀ t ∈ r.l, t.2.1.length ≤ 200000
theorem RS.failAt_l (p e : Int) (r : RS) : (r.failAt p e).l = r.l := by
  unfold RS.failAt
  split <;> rfl
theorem RS.fail_l (E e : Int) (r : RS) : (r.fail E e).l = r.l := RS.failAt_l _ _ _
theorem RsOk.fail {E e : Int} {r : RS} (h : RsOk r) : RsOk (r.fail E e) := by unfold RsOk; rw [RS.fail_l]; exact h
theorem RsOk.peek {E : Int} {r : RS} (h : RsOk r) : (r.peek E).2.1.length ≤ 200000 := by
  unfold RS.peek
  cases hl : r.l with
  | nil => simp
  | cons t l => exact h t (by rw [hl]; exact List.mem_cons_self)
theorem RsOk.drop {r : RS} (h : RsOk r) : RsOk r.drop := fun t ht => h t (List.mem_of_mem_tail ht)
theorem RsOk.take {E k : Int} {r : RS} (h : RsOk r) : (r.take E k).1.length ≤ 200000 ∧ RsOk (r.take E k).2 := by
  unfold RS.take
  have hq : RsOk (if (r.peek E).1 = k then r else r.fail E 3) := by split; exact h; exact h.fail
  generalize (if (r.peek E).1 = k then r else r.fail E 3) = q at *
  dsimp only
  split
  · exact ⟨h.peek, hq.drop⟩
  · exact ⟨Nat.zero_le _, hq⟩
theorem numW_le (l : List UInt8) : (numW l).1 ≤ 1000000 := by
  unfold numW
  by_cases h : numOk l = true
  · rw [if_pos h]
    unfold numOk at h
    rw [Bool.and_eq_true, Bool.and_eq_true, Bool.and_eq_true, decide_eq_true_eq, decide_eq_true_eq, decide_eq_true_eq] at h
    cases hd : Lib.decFrom 0 l with
    | none => exact absurd hd h.1.2
    | some n =>
      have := decFrom_lt l 0 n hd
      have h6 : 10 ^ l.length ≤ 10 ^ 6 := Nat.pow_le_pow_right (by decide) h.1.1.2
      show n ≤ 1000000
      simp only [Nat.zero_add, Nat.one_mul] at this
      omega
  · rw [if_neg h]; exact Nat.zero_le _
theorem RsOk.number {E m : Int} {r : RS} (h : RsOk r) : (0 ≤ (r.number E m).1 ∧ (r.number E m).1 ≤ 1000000) ∧ RsOk (r.number E m).2 := by
  refine ⟨⟨Int.natCast_nonneg _, Int.ofNat_le.2 (numW_le _)⟩, ?_⟩
  unfold RS.number
  refine (RsOk.take ?_).2
  split
  · split
    · exact h.fail
    · exact h
  · exact h.fail
def RS.Le (r' r : RS) : Prop := r'.l.length ≤ r.l.length
theorem RS.Le.refl (r : RS) : RS.Le r r := Nat.le_refl _
theorem RS.Le.trans {a b c : RS} (h : RS.Le a b) (k : RS.Le b c) : RS.Le a c := Nat.le_trans h k
theorem RS.Le.failAt (p e : Int) (r : RS) : RS.Le (r.failAt p e) r := by unfold RS.Le; rw [RS.failAt_l]; exact Nat.le_refl _
theorem RS.Le.fail (E e : Int) (r : RS) : RS.Le (r.fail E e) r := RS.Le.failAt _ _ _
theorem RS.Le.drop (r : RS) : RS.Le r.drop r := by
  show r.l.tail.length ≤ _
  rw [List.length_tail]
  exact Nat.sub_le _ _
theorem RS.Le.ite {c : Prop} [Decidable c] {a b r : RS} (h : RS.Le a r) (k : RS.Le b r) : RS.Le (if c then a else b) r := by
  split
  · exact h
  · exact k
theorem RS.Le.take (E k : Int) (r : RS) : RS.Le (r.take E k).2 r := by
  unfold RS.take
  have hq : RS.Le (if (r.peek E).1 = k then r else r.fail E 3) r := .ite (.refl r) (.fail _ _ r)
  generalize (if (r.peek E).1 = k then r else r.fail E 3) = q at *
  dsimp only
  split
  · exact (RS.Le.drop q).trans hq
  · exact hq
theorem RS.Le.mark (E : Int) (s : List UInt8) (r : RS) : RS.Le (r.mark E s) r := (RS.Le.take E 3 _).trans (.ite (.refl r) (.fail _ _ r))
theorem RS.Le.word (E : Int) (r : RS) : RS.Le (r.word E).2 r := .take E 1 r
theorem RS.Le.text (E : Int) (r : RS) : RS.Le (r.text E).2 r := .take E 2 r
theorem RS.Le.texts (E : Int) : ∀ (n : Nat) (out : List ByteArray) (r : RS), RS.Le (RS.texts E n out r).2 r
  | 0, _, r => .refl r
  | n + 1, _out, r => (RS.Le.texts E n _ _).trans (.text E r)
theorem RS.Le.one (E : Int) (l : List ByteArray) (r : RS) : RS.Le (r.one E l).2 r := (RS.Le.word E _).trans (.ite (.fail _ _ r) (.refl r))
theorem RS.Le.once (p : Int) (b : Bool) (r : RS) : RS.Le (r.once p b) r := .ite (.failAt _ _ r) (.refl r)
theorem RS.Le.add (p : Int) (d f : Bool) (r : RS) : RS.Le (r.add p d f) r := .ite (.failAt _ _ r) (.ite (.failAt _ _ r) (.refl r))
theorem RS.Le.tLim (p : Int) (f : Bool) (r : RS) : RS.Le (tLim p f r) r := .ite (.failAt _ _ r) (.refl r)
theorem RS.Le.cond (E : Int) (r : RS) : RS.Le (r.cond E).2 r := by
  unfold RS.cond
  split
  · exact (RS.Le.text E _).trans (.ite (.refl r) (.fail _ _ r))
  · exact .text E r
theorem RS.Le.rule (E : Int) (r : RS) : RS.Le (r.rule E).2 r := (RS.Le.mark E _ _).trans ((RS.Le.cond E _).trans (.one E _ r))
theorem RS.Le.number (E m : Int) (r : RS) : RS.Le (r.number E m).2 r := (RS.Le.word E _).trans (.ite (.ite (.fail _ _ r) (.refl r)) (.fail _ _ r))
theorem RS.Le.sym0 (E : Int) (r : RS) : RS.Le (r.sym0 E) r := .ite (.fail _ _ r) (.refl r)
theorem RS.Le.sym (E : Int) (r : RS) : RS.Le (r.sym E).2 r := (RS.Le.mark E _ _).trans ((RS.Le.number E 9 _).trans ((RS.Le.number E 9 _).trans ((RS.Le.texts E 4 [] _).trans (.sym0 E r))))
theorem RS.Le.lp (E : Int) (r : RS) : RS.Le (r.lp E).2 r := (RS.Le.mark E _ _).trans ((RS.Le.texts E 4 [] _).trans (.word E r))
theorem RS.Le.up (E : Int) (r : RS) : RS.Le (r.up E).2 r := (RS.Le.mark E _ _).trans ((RS.Le.text E _).trans ((RS.Le.one E _ _).trans (.word E r)))
theorem RS.Le.dp (E : Int) (r : RS) : RS.Le (r.dp E).2 r := (RS.Le.mark E _ _).trans ((RS.Le.text E _).trans (.word E r))
theorem RS.Le.itN (E p : Int) (y : Lc) (r : RS) : ∀ i, RS.Le (itN i E p y r).2 r
  | 0 => (RS.Le.once _ _ _).trans ((RS.Le.mark E _ _).trans (.one E _ r))
  | 1 => (RS.Le.add _ _ _ _).trans (.rule E r)
  | 2 => (RS.Le.add _ _ _ _).trans (.rule E r)
  | 3 => (RS.Le.once _ _ _).trans (.sym E r)
  | 4 => (RS.Le.add _ _ _ _).trans (.lp E r)
  | 5 => (RS.Le.add _ _ _ _).trans (.up E r)
  | 6 => (RS.Le.add _ _ _ _).trans (.dp E r)
  | 7 => (RS.Le.once _ _ _).trans ((RS.Le.mark E _ _).trans (.texts E 12 [] r))
  | _ + 8 => (RS.Le.once _ _ _).trans ((RS.Le.mark E _ _).trans (.texts E 7 [] r))
theorem RS.word_lt {E : Int} {r : RS} (hk : (r.peek E).1 = 1) (he : r.e = 0) : (r.word E).2.l.length < r.l.length := by
  unfold RS.word
  rw [RS.take_ok hk he]
  unfold RS.peek at hk
  cases hl : r.l with
  | nil => rw [hl] at hk; exact absurd hk (by simp)
  | cons t l => simp [RS.drop, hl]
theorem RS.failAt_e (p : Int) {e : Int} (he : e ≠ 0) (r : RS) : (r.failAt p e).e ≠ 0 := by
  unfold RS.failAt
  by_cases h : r.e = 0
  · rw [if_pos h]; exact he
  · rw [if_neg h]; exact h
end Go.Proofs.YtmleeodfmmpdgaaGreatDoor
namespace Go.Proofs.YtmleeodfmmpdgaaGreatDoor
open Go.RowKit
attribute [local go_sem] Ext.cell Ext.frozen
attribute [local go_sem ↓] Go.wp_at_zero Go.wp_at_succ
theorem Rd.ok {w : World} {b : Nat} {E : Int} {r : RS} (h : Rd w b E r) : RsOk r := by
  obtain ⟨_, _, _, _, _, _, _, _, _, h⟩ := h
  exact h

end Go.Proofs.YtmleeodfmmpdgaaGreatDoor
namespace Go.Proofs.YtmleeodfmmpdgaaGreatDoor
open Go.RowKit
section
variable {P : Program} {ops : Array Oper} {Q : Exit → Act → World → Prop} {md : Region.Mode}
end
end Go.Proofs.YtmleeodfmmpdgaaGreatDoor
