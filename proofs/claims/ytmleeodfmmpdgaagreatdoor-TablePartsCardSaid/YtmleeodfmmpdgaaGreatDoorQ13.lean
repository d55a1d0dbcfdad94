/- Walks: whether a list of the reference's has an element; the lists of moduli and of classes; whether a string is a class. -/
import Derived.Test.YtmleeodfmmpdgaaGreatDoorQ12
import Derived.Test.YtmleeodfmmpdgaaGreatDoorQ02
import Derived.Test.YtmleeodfmmpdgaaGreatDoorQ01
import Derived.Deep.DrawnRows
import Derived.Deep.CutBlock
import Derived.Deep.DeepCutAuto
import Derived.Deep.QuietTactic
import Derived.BigQuiet
namespace Go.Proofs.YtmleeodfmmpdgaaGreatDoor
open Go.RowKit
attribute [local go_sem] Ext.cell Ext.frozen
attribute [local go_sem ↓] Go.wp_at_zero Go.wp_at_succ

/-- the classes of rules -/
def classL : List ByteArray := [bs [122, 101, 114, 111], bs [111, 110, 101], bs [116, 119, 111], bs [102, 101, 119], bs [109, 97, 110, 121]]
end Go.Proofs.YtmleeodfmmpdgaaGreatDoor
/- Walks: the program's reader of tables: words, texts, marks. -/
namespace Go.Proofs.YtmleeodfmmpdgaaGreatDoor
open Go.RowKit
attribute [local go_sem] Ext.cell Ext.frozen
attribute [local go_sem ↓] Go.wp_at_zero Go.wp_at_succ
theorem bs_beq (s t : List UInt8) : ((bs s).toList == (bs t).toList) = decide (s = t) := by
  rw [bs_toList, bs_toList, Bool.eq_iff_iff, beq_iff_eq, decide_eq_true_eq]
set_option maxRecDepth 20000 in
set_option maxHeartbeats 2000000 in
theorem is_any (b : Nat) (E k : Int) (s : List UInt8) (r : RS) (w : World) (h : Rd w b E r) : Calls Tryz.prog 56 #[.pointer (some ⟨b, 0, none⟩), .int .i64 k, .string (bs s)] w fun e w' => e = .returned (.bool (r.is E k s)) ∧ Below w.heap.size w w' := by
  have HP := Lib.hid (peek_any b E r w h)
  have HR := Lib.hid h
  have HV : Hid (r.is E k s = (decide (r.e = 0) && (decide ((r.peek E).1 = k) && decide ((r.peek E).2.1 = s)))) := rfl
  clear h
  unfold tokV at HP
  generalize r.is E k s = res at *
  generalize r.peek E = t at *
  obtain ⟨k', s', f⟩ := t
  simp only at HP HV
  have hq := bs_beq s' s
  generalize decide (s' = s) = q3 at *
  generalize bs s' = S at *
  generalize bs s = S2 at *
  go_enter Tryz.func56, Tryz.ntmps56
  go_wp2_with fail
  refine HP.out.mono ?_
  rintro _ w1 ⟨rfl, hb⟩
  have HB := Lib.hid hb
  have HR1 := Lib.hid (HR.out.below hb)
  clear hb HR HP
  go_upto_region 2 with (fail)
  have HB2 : Hid (Below w.heap.size w (w1.alloc (.cells #[.int .i64 k', .string S, .int .i64 f] 109))) := HB.out.alloc HB.out.size _
  have HR2 := Lib.hid (HR1.out.below (Bel.alloc (Bel.refl w1) (.cells #[.int .i64 k', .string S, .int .i64 f] 109)))
  have HX : Hid (Cel (w1.alloc (.cells #[.int .i64 k', .string S, .int .i64 f] 109)) w1.heap.size 109 [.int .i64 k', .string S, .int .i64 f]) := Cel.new w1 _ _
  have hbB : b < w1.heap.size := HR1.out.lt
  generalize w1.alloc (.cells #[.int .i64 k', .string S, .int .i64 f] 109) = w2 at *
  obtain ⟨B, hB⟩ : ∃ B, w1.heap.size = B := ⟨_, rfl⟩
  rw [hB] at HX hbB ⊢
  clear hB HB HR1
  have x0 := HX.out.cell 0
  have x1 := HX.out.cell 1
  have x2 := HX.out.cell 2
  simp only [List.getElem?_cons_zero, List.getElem?_cons_succ] at x0 x1 x2
  obtain ⟨c2, c3, f2, f3, f0⟩ := HR2.out.cells
  by_cases he : r.e = 0
  · have hz : (r.e == 0) = true := by simpa using he
    have hz2 : decide (r.e = 0) = true := decide_eq_true he
    rw [hz2, Bool.true_and] at HV
    by_cases hk : k' = k
    · have hy : (k' == k) = true := by simpa using hk
      have hy2 : decide (k' = k) = true := decide_eq_true hk
      rw [hy2, Bool.true_and] at HV
      cases q3 <;>
      (go_wp2_with fail
       go_ret
       exact ⟨by rw [HV.out]; rfl, HB2.out⟩)
    · have hy : (k' == k) = false := by simpa using hk
      have hy2 : decide (k' = k) = false := decide_eq_false hk
      rw [hy2, Bool.false_and] at HV
      go_wp2_with fail
      go_ret
      exact ⟨by rw [HV.out]; rfl, HB2.out⟩
  · have hz : (r.e == 0) = false := by simpa using he
    have hz2 : decide (r.e = 0) = false := decide_eq_false he
    rw [hz2, Bool.false_and] at HV
    go_wp2_with fail
    go_ret
    exact ⟨by rw [HV.out]; rfl, HB2.out⟩
theorem word_any (b : Nat) (E : Int) (r : RS) (w : World) (h : Rd w b E r) : Calls Tryz.prog 57 #[.pointer (some ⟨b, 0, none⟩)] w (RdP b E (.string (bs (r.word E).1)) (r.word E).2 w) := by
  have HT := Lib.hid (take_any b E 1 (by decide) r w h)
  unfold RS.word
  unfold RdP at HT ⊢
  clear h
  go_enter Tryz.func57, Tryz.ntmps57
  go_wp2_with fail
  refine HT.out.mono ?_
  rintro _ w1 ⟨rfl, hr, hk⟩
  have HR := Lib.hid hr
  have HK := Lib.hid hk
  clear hr hk
  go_wp2_with fail
  go_ret
  exact ⟨rfl, HR.out, HK.out⟩
theorem text_any (b : Nat) (E : Int) (r : RS) (w : World) (h : Rd w b E r) : Calls Tryz.prog 275 #[.pointer (some ⟨b, 0, none⟩)] w (RdP b E (.string (bs (r.text E).1)) (r.text E).2 w) := by
  have HT := Lib.hid (take_any b E 2 (by decide) r w h)
  unfold RS.text
  unfold RdP at HT ⊢
  clear h
  go_enter Tryz.func275, Tryz.ntmps275
  go_wp2_with fail
  refine HT.out.mono ?_
  rintro _ w1 ⟨rfl, hr, hk⟩
  have HR := Lib.hid hr
  have HK := Lib.hid hk
  clear hr hk
  go_wp2_with fail
  go_ret
  exact ⟨rfl, HR.out, HK.out⟩
set_option maxRecDepth 20000 in
set_option maxHeartbeats 2000000 in
theorem mark_any (b : Nat) (E : Int) (s : List UInt8) (r : RS) (w : World) (h : Rd w b E r) : Calls Tryz.prog 60 #[.pointer (some ⟨b, 0, none⟩), .string (bs s)] w (RdP b E (.tuple #[]) (r.mark E s) w) := by
  have HI := Lib.hid (is_any b E 3 s r w h)
  have HF := Lib.hid (fun W (g : Rd W b E r) => fail_any b E r 3 W g)
  have HT := Lib.hid (fun r W (g : Rd W b E r) => take_any b E 3 (by decide) r W g)
  have HR := Lib.hid h
  have HV : Hid (r.mark E s = ((if r.is E 3 s then r else r.fail E 3).take E 3).2) := rfl
  unfold RdP at HF HT ⊢
  clear h
  generalize r.mark E s = res at *
  generalize r.is E 3 s = q at *
  generalize bs s = S at *
  go_enter Tryz.func60, Tryz.ntmps60
  go_wp2_with fail
  refine HI.out.mono ?_
  rintro _ w1 ⟨rfl, hb⟩
  have HB := Lib.hid hb
  have HR1 := Lib.hid (HR.out.below hb)
  clear hb HR HI
  cases q with
  | true =>
    rw [if_pos rfl] at HV
    go_wp2_with fail
    refine (HT.out _ _ HR1.out).mono ?_
    rintro _ w3 ⟨rfl, hr, hk⟩
    have HR3 := Lib.hid hr
    have HK3 := Lib.hid ((kp_below HB.out).trans hk)
    clear hr hk
    go_wp2_with fail
    go_end0
    exact ⟨rfl, by rw [HV.out]; exact HR3.out, HK3.out⟩
  | false =>
    rw [if_neg (by simp)] at HV
    go_wp2_with fail
    refine (HF.out _ HR1.out).mono ?_
    rintro _ w2 ⟨rfl, hr, hk⟩
    have HR2 := Lib.hid hr
    have HK2 := Lib.hid ((kp_below HB.out).trans hk)
    clear hr hk
    go_wp2_with fail
    refine (HT.out _ _ HR2.out).mono ?_
    rintro _ w3 ⟨rfl, hr, hk⟩
    have HR3 := Lib.hid hr
    have HK3 := Lib.hid (HK2.out.trans hk)
    clear hr hk
    go_wp2_with fail
    go_end0
    exact ⟨rfl, by rw [HV.out]; exact HR3.out, HK3.out⟩
set_option maxRecDepth 20000 in
set_option maxHeartbeats 2000000 in
theorem once_any (b : Nat) (E p : Int) (q : Bool) (r : RS) (w : World) (h : Rd w b E r) : Calls Tryz.prog 270 #[.pointer (some ⟨b, 0, none⟩), .int .i64 p, .bool q] w (RdP b E (.tuple #[]) (r.once p q) w) := by
  have HF := Lib.hid (failAt_any b E r p 9 w h)
  have HR := Lib.hid h
  unfold RdP at HF ⊢
  clear h
  cases q with
  | true =>
    show Calls _ _ _ _ fun e w' => e = .returned (.tuple #[]) ∧ Rd w' b E (r.failAt p 9) ∧ Kp (oneP b) w w'
    go_enter Tryz.func270, Tryz.ntmps270
    go_wp2_with fail
    refine HF.out.mono ?_
    rintro _ w1 ⟨rfl, hr, hk⟩
    have HR1 := Lib.hid hr
    have HK := Lib.hid hk
    clear hr hk
    go_wp2_with fail
    go_end0
    exact ⟨rfl, HR1.out, HK.out⟩
  | false =>
    show Calls _ _ _ _ fun e w' => e = .returned (.tuple #[]) ∧ Rd w' b E r ∧ Kp (oneP b) w w'
    go_enter Tryz.func270, Tryz.ntmps270
    go_wp2_with fail
    go_end0
    exact ⟨rfl, HR.out, Kp.refl _ _⟩
set_option maxRecDepth 20000 in
set_option maxHeartbeats 2000000 in
theorem one_any (b : Nat) (E : Int) (ad : Option Addr) (n c : Nat) (l : List ByteArray) (r : RS) (w : World) (h : Rd w b E r) (hs : Sl w ad n (strs l)) : Calls Tryz.prog 269 #[.pointer (some ⟨b, 0, none⟩), .slice ad n c] w (RdP b E (.string (bs (r.one E l).1)) (r.one E l).2 w) := by
  have HP := Lib.hid (peek_any b E r w h)
  have HF := Lib.hid (fun W (g : Rd W b E r) => fail_any b E r 10 W g)
  have HT := Lib.hid (fun r W (g : Rd W b E r) => word_any b E r W g)
  have HC := Lib.hid (fun x W (g : Below w.heap.size w W) => contains_str ad n c l x W (hs.below g))
  have HR := Lib.hid h
  have HV : Hid (r.one E l = (if decide ((r.peek E).1 = 1) && !l.contains (bs (r.peek E).2.1) then r.fail E 10 else r).word E) := rfl
  unfold RdP at HF HT ⊢
  clear h hs
  unfold tokV at HP
  generalize r.one E l = res at *
  generalize r.peek E = t at *
  obtain ⟨k', s', f⟩ := t
  simp only at HP HV
  generalize bs s' = S at *
  go_enter Tryz.func269, Tryz.ntmps269
  go_wp2_with fail
  refine HP.out.mono ?_
  rintro _ w1 ⟨rfl, hb⟩
  have HB := Lib.hid hb
  have HR1 := Lib.hid (HR.out.below hb)
  clear hb HR HP
  go_upto_region 2 with (fail)
  have HB2 : Hid (Below w.heap.size w (w1.alloc (.cells #[.int .i64 k', .string S, .int .i64 f] 109))) := HB.out.alloc HB.out.size _
  have HR2 := Lib.hid (HR1.out.below (Bel.alloc (Bel.refl w1) (.cells #[.int .i64 k', .string S, .int .i64 f] 109)))
  have HX : Hid (Cel (w1.alloc (.cells #[.int .i64 k', .string S, .int .i64 f] 109)) w1.heap.size 109 [.int .i64 k', .string S, .int .i64 f]) := Cel.new w1 _ _
  have hbB : b < w1.heap.size := HR1.out.lt
  generalize w1.alloc (.cells #[.int .i64 k', .string S, .int .i64 f] 109) = w2 at *
  obtain ⟨B, hB⟩ : ∃ B, w1.heap.size = B := ⟨_, rfl⟩
  rw [hB] at HX hbB ⊢
  clear hB HB HR1
  have x0 := HX.out.cell 0
  have x1 := HX.out.cell 1
  have x2 := HX.out.cell 2
  simp only [List.getElem?_cons_zero, List.getElem?_cons_succ] at x0 x1 x2
  obtain ⟨c2, c3, f2, f3, f0⟩ := HR2.out.cells
  by_cases hk : k' = 1
  · have hy : (k' == 1) = true := by simpa using hk
    have hy2 : decide (k' = 1) = true := decide_eq_true hk
    rw [hy2, Bool.true_and] at HV
    have HC2 := Lib.hid (HC.out S _ HB2.out)
    clear HC
    generalize l.contains S = q at *
    go_wp2_with fail
    refine HC2.out.mono ?_
    rintro _ _ ⟨rfl, rfl⟩
    cases q with
    | true =>
      rw [if_neg (by simp)] at HV
      go_wp2_with fail
      refine (HT.out _ _ HR2.out).mono ?_
      rintro _ w5 ⟨rfl, hr, hk⟩
      have HR5 := Lib.hid hr
      have HK5 := Lib.hid ((kp_below HB2.out).trans hk)
      clear hr hk
      go_wp2_with fail
      go_ret
      exact ⟨by rw [HV.out]; rfl, by rw [HV.out]; exact HR5.out, HK5.out⟩
    | false =>
      rw [if_pos (by simp)] at HV
      go_wp2_with fail
      refine (HF.out _ HR2.out).mono ?_
      rintro _ w3 ⟨rfl, hr, hk⟩
      have HR3 := Lib.hid hr
      have HK3 := Lib.hid ((kp_below HB2.out).trans hk)
      clear hr hk
      go_wp2_with fail
      refine (HT.out _ _ HR3.out).mono ?_
      rintro _ w5 ⟨rfl, hr, hk⟩
      have HR5 := Lib.hid hr
      have HK5 := Lib.hid (HK3.out.trans hk)
      clear hr hk
      go_wp2_with fail
      go_ret
      exact ⟨by rw [HV.out]; rfl, by rw [HV.out]; exact HR5.out, HK5.out⟩
  · have hy : (k' == 1) = false := by simpa using hk
    have hy2 : decide (k' = 1) = false := decide_eq_false hk
    rw [hy2, Bool.false_and, if_neg (by simp)] at HV
    go_wp2_with fail
    refine (HT.out _ _ HR2.out).mono ?_
    rintro _ w5 ⟨rfl, hr, hk⟩
    have HR5 := Lib.hid hr
    have HK5 := Lib.hid ((kp_below HB2.out).trans hk)
    clear hr hk
    go_wp2_with fail
    go_ret
    exact ⟨by rw [HV.out]; rfl, by rw [HV.out]; exact HR5.out, HK5.out⟩
theorem infoStrT : (Tryz.prog.info? 9).map (fun i => (i.zero, i.size, i.bytes)) = some (some (.string .empty), 1, 16) := by kernel_rfl
theorem appStrT {ops : Array Oper} {rest : List Oper} {o : Oper} {a : Act} {Q : Exit → Act → World → Prop} {w : World}
    (hgd : o.guard = none) (s x : Operand) (ho : o.op = .call { callee := .builtin .append, args := #[s, x], argTypes := #[44, 44] })
    (base : Nat) (ad : Option Addr) (n c : Nat) (xs : List Value) (hs : a.eval s = .slice ad n c) (hown : w.ownsRow base 9 1 (.slice ad n c) n xs)
    (y : Value) (E' : TypeId) (hx : a.eval x = .slice (some ⟨w.heap.size, 0, none⟩) 1 1) (hy : y.oneCell' = true)
    (h63 : n + 1 ≤ maxLen) (hbytes : (n + 1) * 16 ≤ 140737488355328) (hbase : base ≤ w.heap.size)
    (h : ∀ ad' c' w', w'.ownsRow base 9 1 (.slice ad' (n + 1) c') (n + 1) (xs ++ [y]) → Below base w w' → w.grownBy w' (Value.ownBlock (.slice ad n c)) → w.heap.size < w'.heap.size →
      wpList Tryz.prog ops Q rest (a.put o.dst (.slice ad' (n + 1) c')) w') : wpList Tryz.prog ops Q (o :: rest) a (w.alloc (.cells #[y] E')) := by
  obtain ⟨i0, hi, hz0, hz1, hz2⟩ := info_parts infoStrT
  exact wpList_app 44 9 16 Tryz.underlying44 i0 _ hi hz0 hz1 hz2 rfl hgd s x ho base ad n c xs hs hown y E' hx hy h63 hbytes hbase h
theorem strs_snocT (l : List ByteArray) (x : ByteArray) : strs (l ++ [x]) = strs l ++ [.string x] := by simp [strs]
theorem RS.texts_len (E : Int) : ∀ (n : Nat) (out : List ByteArray) (r : RS), (RS.texts E n out r).1.length = out.length + n
  | 0, out, r => rfl
  | n + 1, out, r => by
    rw [RS.texts, RS.texts_len E n]
    simp
    omega
/-- rows of the call's own, above a number of blocks, are not touched by a write below it -/
theorem own_kp {w w' : World} {base sz : Nat} {E : TypeId} {v : Value} {n : Nat} {xs : List Value} (h : w.ownsRow base E sz v n xs) {P : Nat → Bool} (k : Kp P w w') (hp : ∀ i, base ≤ i → P i = false) : w'.ownsRow base E sz v n xs := by
  refine ⟨h.1, ?_⟩
  rcases h.2 with h2 | ⟨g, cap, cur, h1, h2, h3, h4⟩
  · exact .inl h2
  · exact .inr ⟨g, cap, cur, h1, h2, (k.block g (Array.getElem?_eq_some_iff.1 h3).1 (hp g h2)).trans h3, h4⟩
set_option maxRecDepth 20000 in
set_option maxHeartbeats 2000000 in
theorem texts_any (b : Nat) (E : Int) (n : Nat) (hn : n ≤ 100) (r : RS) (w : World) (h : Rd w b E r) : Calls Tryz.prog 273 #[.pointer (some ⟨b, 0, none⟩), .int .i64 (n : Int)] w fun e w' => ∃ ad c, e = .returned (.slice ad n c) ∧ w'.ownsRow w.heap.size 9 1 (.slice ad n c) n (strs (RS.texts0 E n r).1) ∧ Rd w' b E (RS.texts0 E n r).2 ∧ Kp (oneP b) w w' := by
  have HT := Lib.hid (fun r W (g : Rd W b E r) => text_any b E r W g)
  have HR := Lib.hid h
  have hb := h.lt
  have HST : Hid (∀ m out r, RS.texts E (m + 1) out r = RS.texts E m (out ++ [bs (r.text E).1]) (r.text E).2) := fun m out r => rfl
  have HV : Hid (RS.texts E n [] r = RS.texts0 E n r) := rfl
  have HZ : Hid (∀ out r, RS.texts E 0 out r = (out, r)) := fun out r => rfl
  unfold RdP at HT
  clear h
  generalize RS.texts0 E n r = res at *
  go_enter Tryz.func273, Tryz.ntmps273
  go_wp2_with fail
  go_loopw [5, 7] (fun v u wr => ∃ (k : Nat) (ad : Option Addr) (c : Nat) (out : List ByteArray) (q : RS), u = .int .i64 (k : Int) ∧ v = .slice ad k c ∧ k ≤ n ∧ RS.texts E (n - k) out q = res ∧ wr.ownsRow w.heap.size 9 1 (.slice ad k c) k (strs out) ∧ Rd wr b E q ∧ Kp (oneP b) w wr) (fun _ u _ => n - (intOf u).toNat)
  case atStart => exact ⟨0, none, 0, [], r, rfl, rfl, Nat.zero_le _, HV.out, ⟨rfl, .inl ⟨rfl, rfl⟩⟩, HR.out, Kp.refl _ _⟩
  case round =>
    obtain ⟨k, ad, c, out, q, rfl, rfl, hkn, hst, hown, hrd, hkp⟩ := hrel
    have HS := Lib.hid hst
    have HO := Lib.hid hown
    have HQ := Lib.hid hrd
    have HK := Lib.hid hkp
    have hzr := hkp.size
    clear hst hown hrd hkp
    by_cases hlt : k < n
    · have hlz : (k : Int) < (n : Int) := by omega
      have hs2 := HS.out
      rw [show n - k = (n - (k + 1)) + 1 by omega, HST.out] at hs2
      have HS2 := Lib.hid hs2
      clear hs2
      go_wp2_with fail
      refine (HT.out _ _ HQ.out).mono ?_
      rintro _ w3 ⟨rfl, hr, hk⟩
      have HQ3 := Lib.hid hr
      have HK3 := Lib.hid (HK.out.trans hk)
      have HO3 := Lib.hid (own_kp HO.out hk (fun i hi => oneP_ne (by omega)))
      have hz3 := HK3.out.size
      clear hr hk HQ HO HK
      generalize (q.text E).1 = tx at *
      generalize (q.text E).2 = q2 at *
      generalize hsv : bs tx = sv at *
      clear hsv
      go_wp2_with (at_builtin; refine appStrT rfl _ _ rfl w.heap.size _ _ _ _ rfl HO3.out _ _ rfl rfl (by unfold maxLen; omega) (by omega) hz3 ?_; intro ad6 c6 w4 hown4 hb4 hg4 hz4; have HO4 := Lib.hid hown4; have HB4 := Lib.hid hb4; have HG4 := Lib.hid hg4; clear hown4 hb4 hg4 hz4)
      go_roundw
      case rel =>
        refine ⟨k + 1, ad6, c6, out ++ [sv], q2, by go_num, rfl, by omega, HS2.out, by rw [strs_snocT]; exact HO4.out, ?_, ?_⟩
        · exact HQ3.out.kp (P := fun i => decide (w.heap.size ≤ i)) ⟨HB4.out.os, HB4.out.tape, HB4.out.output, HB4.out.size, fun i _ hp => HB4.out.block i (by simpa using hp)⟩ (fun i hi => by simp; omega)
        · exact HK3.out.then (Q := fun i => decide (w.heap.size ≤ i)) ⟨HB4.out.os, HB4.out.tape, HB4.out.output, HB4.out.size, fun i _ hp => HB4.out.block i (by simpa using hp)⟩ (fun i hi hp => by simp at hp; omega)
      case measure => simp [intOf]; omega
    · obtain rfl : k = n := by omega
      have hs2 := HS.out
      rw [Nat.sub_self, HZ.out] at hs2
      subst hs2
      go_wp2_with fail
      go_ret
      exact ⟨ad, c, rfl, HO.out, HQ.out, HK.out⟩
end Go.Proofs.YtmleeodfmmpdgaaGreatDoor
/- Walks: conditions, the program's parser: letters, digits, runs, blanks. -/
namespace Go.Proofs.YtmleeodfmmpdgaaGreatDoor
open Go.RowKit
attribute [local go_sem] Ext.cell Ext.frozen
attribute [local go_sem ↓] Go.wp_at_zero Go.wp_at_succ
theorem cletter_any (c : UInt8) (w : World) : Calls Tryz.prog 344 #[.int .u8 (c.toNat : Int)] w fun e w' => e = .returned (.bool (lowB c)) ∧ w = w' := by
  have HV : Hid (lowB c = (decide (97 ≤ c.toNat) && decide (c.toNat ≤ 122))) := rfl
  have h256 := c.toNat_lt
  generalize lowB c = q at *
  generalize c.toNat = z at *
  by_cases h1 : 97 ≤ z
  · have h1z : (97 : Int) ≤ (z : Int) := by omega
    have h1d : decide ((97 : Int) ≤ (z : Int)) = true := decide_eq_true h1z
    by_cases h2 : z ≤ 122
    · have h2z : (z : Int) ≤ 122 := by omega
      have h2d : decide ((z : Int) ≤ 122) = true := decide_eq_true h2z
      rw [decide_eq_true h1, decide_eq_true h2] at HV
      go_enter Tryz.func344, Tryz.ntmps344
      go_wp2_with fail
      go_ret
      exact ⟨by rw [HV.out]; rfl, rfl⟩
    · have h2z : ¬ (z : Int) ≤ 122 := by omega
      have h2d : decide ((z : Int) ≤ 122) = false := decide_eq_false h2z
      rw [decide_eq_true h1, decide_eq_false h2] at HV
      go_enter Tryz.func344, Tryz.ntmps344
      go_wp2_with fail
      go_ret
      exact ⟨by rw [HV.out]; rfl, rfl⟩
  · have h1z : ¬ (97 : Int) ≤ (z : Int) := by omega
    have h1d : decide ((97 : Int) ≤ (z : Int)) = false := decide_eq_false h1z
    rw [decide_eq_false h1] at HV
    go_enter Tryz.func344, Tryz.ntmps344
    go_wp2_with fail
    go_ret
    exact ⟨by rw [HV.out]; rfl, rfl⟩
theorem cdigit_any (c : UInt8) (w : World) : Calls Tryz.prog 346 #[.int .u8 (c.toNat : Int)] w fun e w' => e = .returned (.bool (digB c)) ∧ w = w' := by
  have HV : Hid (digB c = (decide (48 ≤ c.toNat) && decide (c.toNat ≤ 57))) := rfl
  have h256 := c.toNat_lt
  generalize digB c = q at *
  generalize c.toNat = z at *
  by_cases h1 : 48 ≤ z
  · have h1z : (48 : Int) ≤ (z : Int) := by omega
    have h1d : decide ((48 : Int) ≤ (z : Int)) = true := decide_eq_true h1z
    by_cases h2 : z ≤ 57
    · have h2z : (z : Int) ≤ 57 := by omega
      have h2d : decide ((z : Int) ≤ 57) = true := decide_eq_true h2z
      rw [decide_eq_true h1, decide_eq_true h2] at HV
      go_enter Tryz.func346, Tryz.ntmps346
      go_wp2_with fail
      go_ret
      exact ⟨by rw [HV.out]; rfl, rfl⟩
    · have h2z : ¬ (z : Int) ≤ 57 := by omega
      have h2d : decide ((z : Int) ≤ 57) = false := decide_eq_false h2z
      rw [decide_eq_true h1, decide_eq_false h2] at HV
      go_enter Tryz.func346, Tryz.ntmps346
      go_wp2_with fail
      go_ret
      exact ⟨by rw [HV.out]; rfl, rfl⟩
  · have h1z : ¬ (48 : Int) ≤ (z : Int) := by omega
    have h1d : decide ((48 : Int) ≤ (z : Int)) = false := decide_eq_false h1z
    rw [decide_eq_false h1] at HV
    go_enter Tryz.func346, Tryz.ntmps346
    go_wp2_with fail
    go_ret
    exact ⟨by rw [HV.out]; rfl, rfl⟩
theorem ba_byte (s : ByteArray) (k : Nat) (h : k < s.size) : s[k] = s.data.toList.getD k 0 := by
  have h2 : k < s.data.toList.length := by rw [ba_len]; exact h
  rw [List.getD_eq_getElem?_getD, List.getElem?_eq_getElem h2]
  rfl
theorem takeWhile_take {p : UInt8 → Bool} : ∀ (l : List UInt8) (k : Nat), (∀ i, i < k → i < l.length ∧ p (l.getD i 0) = true) → (k = l.length ∨ p (l.getD k 0) = false) → l.takeWhile p = l.take k
  | [], k, h, _ => by
    cases k with
    | zero => rfl
    | succ k => exact absurd (h 0 (by omega)).1 (Nat.not_lt_zero _)
  | c :: l, 0, _, h => by
    rcases h with h | h
    · simp at h
    · have h : p c = false := h
      simp [h]
  | c :: l, k + 1, h, h2 => by
    have h0 : p c = true := (h 0 (by omega)).2
    have ih := takeWhile_take l k (fun i hi => by
      have := h (i + 1) (by omega)
      exact ⟨by have := this.1; simp at this; omega, this.2⟩) (by
      rcases h2 with h2 | h2
      · left; simp at h2; exact h2
      · right; exact h2)
    simp [h0, ih]
set_option maxRecDepth 20000 in
set_option maxHeartbeats 2000000 in
theorem run_letter (S : ByteArray) (w : World) (hS : S.size ≤ 200000) : Calls Tryz.prog 345 #[.string S, .func (.func 344) #[] #[]] w fun e w' => e = .returned (.string (bs (S.data.toList.takeWhile lowB))) ∧ w = w' := by
  have HL := Lib.hid cletter_any
  have HB := Lib.hid (ba_byte S)
  have HTW := Lib.hid (@takeWhile_take lowB S.data.toList)
  have hlen : Hid (S.data.toList.length = S.size) := ba_len S
  have HEX : Hid (∀ k, S.extract 0 k = bs (S.data.toList.take k)) := fun k => by
    have := bs_extract S.data.toList 0 k
    rw [bs_self] at this
    simpa using this
  go_enter Tryz.func345, Tryz.ntmps345
  go_wp2_with fail
  go_loopw [5] (fun u wr => ∃ k : Nat, u = .int .i64 (k : Int) ∧ k ≤ S.size ∧ (∀ i, i < k → lowB (S.data.toList.getD i 0) = true) ∧ wr = w) (fun u _ => S.size - (intOf u).toNat)
  case atStart => exact ⟨0, rfl, Nat.zero_le _, fun i hi => absurd hi (Nat.not_lt_zero _), rfl⟩
  case round =>
    obtain ⟨k, rfl, hkn, hal, rfl⟩ := hrel
    have HAL := Lib.hid hal
    clear hal
    by_cases hlt : k < S.size
    · have hlz : (k : Int) < (S.size : Int) := by omega
      have hch := HB.out k (by omega)
      have HFN : Hid (lowB (S.data.toList.getD k 0) = true → ∀ i, i < k + 1 → lowB (S.data.toList.getD i 0) = true) := fun h i hi => by
        rcases Nat.lt_or_ge i k with h' | h'
        · exact HAL.out i h'
        · rw [show i = k by omega]; exact h
      have HEN : Hid (lowB (S.data.toList.getD k 0) = false → bs (S.data.toList.takeWhile lowB) = S.extract 0 k) := fun h => by
        rw [HEX.out, HTW.out k (fun i hi => ⟨by rw [hlen.out]; omega, HAL.out i hi⟩) (.inr h)]
      generalize S.data.toList.getD k 0 = ch at *
      have HC := Lib.hid (HL.out ch)
      generalize lowB ch = q at *
      go_wp2_with fail
      refine (HC.out _).mono ?_
      rintro _ _ ⟨rfl, rfl⟩
      cases q with
      | true =>
        have HF2 := Lib.hid (HFN.out rfl)
        clear HFN HEN
        go_wp2_with fail
        go_roundw
        case rel => exact ⟨k + 1, by go_num, by omega, HF2.out, trivial⟩
        case measure => simp [intOf]; omega
      | false =>
        have HE2 := Lib.hid (HEN.out rfl)
        clear HFN HEN
        go_wp2_with fail
        go_ret
        exact ⟨by rw [HE2.out]; rfl, rfl⟩
    · obtain hke : k = S.size := by omega
      have HEN : Hid (bs (S.data.toList.takeWhile lowB) = S) := by
        rw [Hid, HTW.out k (fun i hi => ⟨by rw [hlen.out]; omega, HAL.out i hi⟩) (.inl (by rw [hlen.out]; exact hke)), List.take_of_length_le (by rw [hlen.out]; omega)]
        exact bs_self S
      have hnz : ¬ (k : Int) < (S.size : Int) := by omega
      go_wp2_with fail
      go_ret
      exact ⟨by rw [HEN.out]; rfl, rfl⟩
set_option maxRecDepth 20000 in
set_option maxHeartbeats 2000000 in
theorem run_digit (S : ByteArray) (w : World) (hS : S.size ≤ 200000) : Calls Tryz.prog 345 #[.string S, .func (.func 346) #[] #[]] w fun e w' => e = .returned (.string (bs (S.data.toList.takeWhile digB))) ∧ w = w' := by
  have HL := Lib.hid cdigit_any
  have HB := Lib.hid (ba_byte S)
  have HTW := Lib.hid (@takeWhile_take digB S.data.toList)
  have hlen : Hid (S.data.toList.length = S.size) := ba_len S
  have HEX : Hid (∀ k, S.extract 0 k = bs (S.data.toList.take k)) := fun k => by
    have := bs_extract S.data.toList 0 k
    rw [bs_self] at this
    simpa using this
  go_enter Tryz.func345, Tryz.ntmps345
  go_wp2_with fail
  go_loopw [5] (fun u wr => ∃ k : Nat, u = .int .i64 (k : Int) ∧ k ≤ S.size ∧ (∀ i, i < k → digB (S.data.toList.getD i 0) = true) ∧ wr = w) (fun u _ => S.size - (intOf u).toNat)
  case atStart => exact ⟨0, rfl, Nat.zero_le _, fun i hi => absurd hi (Nat.not_lt_zero _), rfl⟩
  case round =>
    obtain ⟨k, rfl, hkn, hal, rfl⟩ := hrel
    have HAL := Lib.hid hal
    clear hal
    by_cases hlt : k < S.size
    · have hlz : (k : Int) < (S.size : Int) := by omega
      have hch := HB.out k (by omega)
      have HFN : Hid (digB (S.data.toList.getD k 0) = true → ∀ i, i < k + 1 → digB (S.data.toList.getD i 0) = true) := fun h i hi => by
        rcases Nat.lt_or_ge i k with h' | h'
        · exact HAL.out i h'
        · rw [show i = k by omega]; exact h
      have HEN : Hid (digB (S.data.toList.getD k 0) = false → bs (S.data.toList.takeWhile digB) = S.extract 0 k) := fun h => by
        rw [HEX.out, HTW.out k (fun i hi => ⟨by rw [hlen.out]; omega, HAL.out i hi⟩) (.inr h)]
      generalize S.data.toList.getD k 0 = ch at *
      have HC := Lib.hid (HL.out ch)
      generalize digB ch = q at *
      go_wp2_with fail
      refine (HC.out _).mono ?_
      rintro _ _ ⟨rfl, rfl⟩
      cases q with
      | true =>
        have HF2 := Lib.hid (HFN.out rfl)
        clear HFN HEN
        go_wp2_with fail
        go_roundw
        case rel => exact ⟨k + 1, by go_num, by omega, HF2.out, trivial⟩
        case measure => simp [intOf]; omega
      | false =>
        have HE2 := Lib.hid (HEN.out rfl)
        clear HFN HEN
        go_wp2_with fail
        go_ret
        exact ⟨by rw [HE2.out]; rfl, rfl⟩
    · obtain hke : k = S.size := by omega
      have HEN : Hid (bs (S.data.toList.takeWhile digB) = S) := by
        rw [Hid, HTW.out k (fun i hi => ⟨by rw [hlen.out]; omega, HAL.out i hi⟩) (.inl (by rw [hlen.out]; exact hke)), List.take_of_length_le (by rw [hlen.out]; omega)]
        exact bs_self S
      have hnz : ¬ (k : Int) < (S.size : Int) := by omega
      go_wp2_with fail
      go_ret
      exact ⟨by rw [HEN.out]; rfl, rfl⟩
/-- the program's parser of conditions in memory, at block b -/
def Pq (w : World) (b : Nat) (S : ByteArray) (p : CP) : Prop := Cel w b 333 [.string S, .int .i64 (p.pos : Int), .int .i64 (p.rel : Int), .int .i64 p.err] ∧ p.pos ≤ S.size ∧ p.rel ≤ 200000 ∧ S.size ≤ 200000
def PqP (b : Nat) (S : ByteArray) (v : Value) (p : CP) (w : World) (e : Ending) (w' : World) : Prop := e = .returned v ∧ Pq w' b S p ∧ Kp (oneP b) w w'
theorem Pq.lt {w : World} {b : Nat} {S : ByteArray} {p : CP} (h : Pq w b S p) : b < w.heap.size := h.1.lt
theorem Pq.below {w w' : World} {b : Nat} {S : ByteArray} {p : CP} (h : Pq w b S p) (k : Below w.heap.size w w') : Pq w' b S p := ⟨h.1.below k, h.2⟩
theorem Pq.cells {w : World} {b : Nat} {S : ByteArray} {p : CP} (h : Pq w b S p) : w.cell? ⟨b, 0, none⟩ = some (.string S) ∧ w.cell? ⟨b, 1, none⟩ = some (.int .i64 (p.pos : Int)) ∧ w.cell? ⟨b, 2, none⟩ = some (.int .i64 (p.rel : Int)) ∧ w.cell? ⟨b, 3, none⟩ = some (.int .i64 p.err) ∧ w.frozen? ⟨b, 1, none⟩ = false ∧ w.frozen? ⟨b, 2, none⟩ = false ∧ w.frozen? ⟨b, 3, none⟩ = false :=
  ⟨h.1.cell 0, h.1.cell 1, h.1.cell 2, h.1.cell 3, h.1.frz 1, h.1.frz 2, h.1.frz 3⟩
theorem Pq.pos {w : World} {b : Nat} {S : ByteArray} {p : CP} (h : Pq w b S p) (n : Nat) (hn : n ≤ S.size) : Pq (w.setCell ⟨b, 1, none⟩ (.int .i64 (n : Int))) b S { p with pos := n } := ⟨h.1.set 1 _, hn, h.2.2⟩
theorem Pq.rel {w : World} {b : Nat} {S : ByteArray} {p : CP} (h : Pq w b S p) (n : Nat) (hn : n ≤ 200000) : Pq (w.setCell ⟨b, 2, none⟩ (.int .i64 (n : Int))) b S { p with rel := n } := ⟨h.1.set 2 _, h.2.1, hn, h.2.2.2⟩
theorem Pq.err {w : World} {b : Nat} {S : ByteArray} {p : CP} (h : Pq w b S p) (e : Int) : Pq (w.setCell ⟨b, 3, none⟩ (.int .i64 e)) b S { p with err := e } := ⟨h.1.set 3 _, h.2⟩
theorem skipI_step {s : List UInt8} {i : Nat} (h : i < s.length) (hb : blankB (s.getD i 0) = true) : skipI s (i + 1) = skipI s i := by
  unfold skipI
  have hd : s.drop i = s.getD i 0 :: s.drop (i + 1) := by rw [List.drop_eq_getElem_cons h]; simp [List.getD, List.getElem?_eq_getElem h]
  rw [hd, List.takeWhile_cons, if_pos hb, List.length_cons]
  omega
theorem skipI_stop {s : List UInt8} {i : Nat} (h : i < s.length) (hb : blankB (s.getD i 0) = false) : skipI s i = i := by
  unfold skipI
  have hd : s.drop i = s.getD i 0 :: s.drop (i + 1) := by rw [List.drop_eq_getElem_cons h]; simp [List.getD, List.getElem?_eq_getElem h]
  rw [hd, List.takeWhile_cons, if_neg (by rw [hb]; simp)]
  rfl
theorem skipI_end {s : List UInt8} {i : Nat} (h : s.length ≤ i) : skipI s i = i := by
  unfold skipI
  rw [List.drop_of_length_le h]
  rfl
theorem blank_ix (c : UInt8) : decide (0 ≤ Lib.indexByte [32, 9, 10] c) = blankB c := by
  have k : ∀ n : Fin 256, decide (0 ≤ Lib.indexByte [32, 9, 10] (UInt8.ofNat n.val)) = blankB (UInt8.ofNat n.val) := by decide +kernel
  have := k ⟨c.toNat, c.toNat_lt⟩
  simpa using this
theorem byte_back (c : UInt8) : ((c.toNat : Int).toNat.toUInt8) = c := by rw [Int.toNat_natCast]; simp
set_option maxRecDepth 20000 in
set_option maxHeartbeats 2000000 in
theorem cskip_any (b : Nat) (S : ByteArray) (p : CP) (w : World) (h : Pq w b S p) : Calls Tryz.prog 334 #[.pointer (some ⟨b, 0, none⟩)] w (PqP b S (.tuple #[]) (p.skip S.data.toList) w) := by
  have HIX0 := Lib.hid (fun (c : UInt8) w => Tryz.strings_IndexByte (bs [32, 9, 10]) (c.toNat : Int) w)
  have HB := Lib.hid (ba_byte S)
  have hlen : Hid (S.data.toList.length = S.size) := ba_len S
  have HP := Lib.hid h
  have hpz := h.2.1
  have hsz := h.2.2.2
  have HFIN : Hid (p.skip S.data.toList = { p with pos := skipI S.data.toList p.pos }) := rfl
  unfold PqP
  clear h
  generalize p.skip S.data.toList = res at *
  go_enter Tryz.func334, Tryz.ntmps334
  go_wp2_with fail
  go_loopw [] (fun wr => ∃ k : Nat, k ≤ S.size ∧ skipI S.data.toList k = skipI S.data.toList p.pos ∧ Pq wr b S { p with pos := k } ∧ Kp (oneP b) w wr) (fun wr => S.size - (intOf ((wr.cell? ⟨b, 1, none⟩).getD undef)).toNat)
  case atStart => exact ⟨p.pos, hpz, rfl, HP.out, Kp.refl _ _⟩
  case round =>
    obtain ⟨k, hk, hsk, hpc, hkp⟩ := hrel
    have HSK := Lib.hid hsk
    have HPC := Lib.hid hpc
    have HK := Lib.hid hkp
    obtain ⟨c0, c1, _, _, f1, _, _⟩ := hpc.cells
    have hb := hpc.lt
    clear hsk hpc hkp
    have hke : ∀ (V : World) (m : Nat), V.cell? ⟨b, 1, none⟩ = some (.int .i64 (m : Int)) → (intOf ((V.cell? ⟨b, 1, none⟩).getD undef)).toNat = m := fun V m hV => by rw [hV]; simp [intOf]
    have HKE := Lib.hid hke
    clear hke
    by_cases hlt : k < S.size
    · have hlz : (k : Int) < (S.size : Int) := by omega
      have hld : decide ((k : Int) < (S.size : Int)) = true := decide_eq_true hlz
      have hch := HB.out k (by omega)
      have HST : Hid (blankB (S.data.toList.getD k 0) = true → skipI S.data.toList (k + 1) = skipI S.data.toList p.pos) := fun h => (skipI_step (by rw [hlen.out]; exact hlt) h).trans HSK.out
      have HSP : Hid (blankB (S.data.toList.getD k 0) = false → k = skipI S.data.toList p.pos) := fun h => (skipI_stop (by rw [hlen.out]; exact hlt) h).symm.trans HSK.out
      have hbl := blank_ix (S.data.toList.getD k 0)
      have HIX : Hid (∀ W, Calls Tryz.prog 216 #[.string ⟨#[32, 9, 10]⟩, .int .u8 ((S.data.toList.getD k 0).toNat : Int)] W fun e w' => e = .returned (.int .i64 (Lib.indexByte [32, 9, 10] (S.data.toList.getD k 0))) ∧ W = w') := fun W => (HIX0.out (S.data.toList.getD k 0) W).mono fun e w' ⟨h1, h2⟩ => ⟨by rw [h1, bs_data, byte_back], h2.symm⟩
      generalize blankB (S.data.toList.getD k 0) = q at *
      generalize Lib.indexByte [32, 9, 10] (S.data.toList.getD k 0) = ix at *
      generalize S.data.toList.getD k 0 = ch at *
      cases q with
      | true =>
        have hix : (0 : Int) ≤ ix := of_decide_eq_true hbl
        have HPC2 := Lib.hid (fun W (g : Pq W b S { p with pos := k }) => g.pos (k + 1) (by omega))
        have HST2 := Lib.hid (HST.out rfl)
        clear HST HSP HIX0
        go_wp2_with fail
        refine wp_region_ext (by kernel_rfl) (by kernel_rfl) ?_
        repeat (go_big_quiet_step ((first | (go_at_call 216; exact Calls.ext_same (HIX.out _)))))
        refine wpQuiet_nil ?_
        intro _ hw'
        obtain ⟨X9, hw''⟩ := hw'
        subst hw''
        go_wp2_with fail
        go_roundw
        case rel => exact ⟨k + 1, by omega, HST2.out, (HPC.out.below X9.2).pos (k + 1) (by omega), (HK.out.trans (kp_below X9.2)).set (p := ⟨b, 1, none⟩) (oneP_self b) _⟩
        case measure =>
          have e1 : (intOf (((X9.val.setCell ⟨b, 1, none⟩ (.int .i64 ((k : Int) + 1))).cell? ⟨b, 1, none⟩).getD undef)).toNat = k + 1 := HKE.out _ (k + 1) (((HPC.out.below X9.2).pos (k + 1) (by omega)).cells).2.1
          have e2 := HKE.out wr k c1
          rw [e1, e2]
          omega
      | false =>
        have hix : ¬ (0 : Int) ≤ ix := of_decide_eq_false hbl
        have HSP2 := Lib.hid (HSP.out rfl)
        clear HST HSP HIX0
        go_wp2_with fail
        refine wp_region_ext (by kernel_rfl) (by kernel_rfl) ?_
        repeat (go_big_quiet_step ((first | (go_at_call 216; exact Calls.ext_same (HIX.out _)))))
        refine wpQuiet_nil ?_
        intro _ hw'
        obtain ⟨X9, hw''⟩ := hw'
        subst hw''
        go_wp2_with fail
        go_end0
        exact ⟨rfl, by rw [HFIN.out, ← HSP2.out]; exact HPC.out.below X9.2, HK.out.trans (kp_below X9.2)⟩
    · obtain hkz : k = S.size := by omega
      have hlz : ¬ (k : Int) < (S.size : Int) := by omega
      have hld : decide ((k : Int) < (S.size : Int)) = false := decide_eq_false hlz
      have HSP2 : Hid (k = skipI S.data.toList p.pos) := (skipI_end (by rw [hlen.out]; omega)).symm.trans HSK.out
      clear HIX0
      go_wp2_with fail
      refine wp_region_ext (by kernel_rfl) (by kernel_rfl) ?_
      repeat (go_big_quiet_step (fail))
      refine wpQuiet_nil ?_
      intro _ hw'
      obtain ⟨X9, hw''⟩ := hw'
      subst hw''
      go_wp2_with fail
      go_end0
      exact ⟨rfl, by rw [HFIN.out, ← HSP2.out]; exact HPC.out.below X9.2, HK.out.trans (kp_below X9.2)⟩
set_option maxRecDepth 20000 in
set_option maxHeartbeats 2000000 in
theorem cfail_any (b : Nat) (S : ByteArray) (e : Int) (p : CP) (w : World) (h : Pq w b S p) : Calls Tryz.prog 335 #[.pointer (some ⟨b, 0, none⟩), .int .i64 e] w (PqP b S (.tuple #[]) (p.fail e) w) := by
  obtain ⟨_, _, _, c3, _, _, f3⟩ := h.cells
  have HR := Lib.hid h
  have hb := h.lt
  unfold PqP CP.fail
  by_cases he : p.err = 0
  · rw [if_pos he]
    have hz : (p.err == 0) = true := by simpa using he
    have HE := Lib.hid (h.err e)
    have HK : Hid (Kp (oneP b) w (w.setCell ⟨b, 3, none⟩ (.int .i64 e))) := (Kp.refl _ w).set (p := ⟨b, 3, none⟩) (oneP_self b) _
    rw [he] at c3
    clear h he hz
    go_enter Tryz.func335, Tryz.ntmps335
    go_wp2_with fail
    go_end0
    exact ⟨rfl, HE.out, HK.out⟩
  · rw [if_neg he]
    have hz : (p.err == 0) = false := by simpa using he
    clear h
    go_enter Tryz.func335, Tryz.ntmps335
    go_wp2_with fail
    go_end0
    exact ⟨rfl, HR.out, Kp.refl _ _⟩
end Go.Proofs.YtmleeodfmmpdgaaGreatDoor
