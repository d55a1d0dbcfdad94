/- Walks over a condition in the program: whether it is valid; whether a number lies in spans. -/
import Derived.Test.YtmleeodfmmpdgaaGreatDoorQ22
import Derived.Test.YtmleeodfmmpdgaaGreatDoorQ21
import Derived.Maps.RangeWalk
import Derived.Maps.OwnSet
import Derived.Maps.OwnOps
import Derived.DeepKeys4
import Derived.WideKeyPair
namespace Go.Proofs.YtmleeodfmmpdgaaGreatDoor
open Go.RowKit
attribute [local go_sem] Ext.cell Ext.frozen
attribute [local go_sem ↓] Go.wp_at_zero Go.wp_at_succ

theorem nproper_any (x : Nat → Value) (r : Rel) (w : World) (h : RelC w x r) : Calls Tryz.prog 201 #[.agg #[x 0, x 1, x 2, x 3]] w fun e w' => e = .returned (.bool (!properV r)) ∧ Below w.heap.size w w' := by
  have HP : Hid (∀ W, Below w.heap.size w W → Calls Tryz.prog 202 #[.agg #[x 0, x 1, x 2, x 3]] W fun e w' => e = .returned (.bool (properV r)) ∧ Below W.heap.size W w') := fun W hb => proper_any x r W (h.below hb)
  clear h
  generalize properV r = q at *
  generalize x 0 = x0 at *
  generalize x 1 = x1 at *
  generalize x 2 = x2 at *
  generalize x 3 = x3 at *
  go_enter Tryz.func201, Tryz.ntmps201
  go_wp2_with fail
  refine (HP.out _ ((Below.refl _ _).alloc (Nat.le_refl _) _)).mono ?_
  rintro e w' ⟨rfl, hb⟩
  have HB : Hid (Below w.heap.size w w') := ((Below.refl _ _).alloc (Nat.le_refl _) _).trans (hb.mono (by simp))
  clear hb
  go_wp2_with fail
  go_ret
  exact ⟨by cases q <;> rfl, HB.out⟩
theorem all_any {α : Type} (q : α → Bool) (l : List α) : (l.any fun r => !q r) = !l.all q := by
  induction l with
  | nil => rfl
  | cons a l ih => simp only [List.any_cons, List.all_cons, ih, Bool.not_and]
theorem crel_any (v : Value) (l : List Rel) (w : World) (h : RowsOf 4 RelC w v l) : Calls Tryz.prog 200 #[v, .func (.func 201) #[] #[]] w fun e w' => e = .returned (.bool (!l.all properV)) ∧ Below w.heap.size w w' := by
  obtain ⟨ad, c, f, b, off, rfl, hr, _, _, _, hf⟩ := h
  have := cont_Rel (fun i => !properV (l.getD i ⟨0, 0, false, []⟩)) 201 #[] (enters_of Tryz.func201 (by kernel_rfl) rfl) ad l.length c f b off w hr (fun W i hi hb => by
    have h1 := RowsOf.get hf hi ⟨0, 0, false, []⟩
    exact nproper_any (f i) _ W (h1.below hb))
  rw [anyP_list (fun r => !properV r), all_any] at this
  exact this
theorem relN_le {c : List (List Rel)} {M : Nat} (h : ∀ l ∈ c, l.length ≤ M) : relN c ≤ c.length * M := by
  induction c with
  | nil => exact Nat.zero_le _
  | cons a c ih =>
    have h1 := h a (List.mem_cons_self ..)
    have h2 := ih fun l hl => h l (List.mem_cons_of_mem _ hl)
    have : relN (a :: c) = a.length + relN c := by simp [relN]
    rw [this, List.length_cons, Nat.succ_mul]
    omega
set_option maxRecDepth 20000 in
set_option maxHeartbeats 4000000 in
theorem cvalid_any (v : Value) (l : List (List Rel)) (w : World) (h : CondAt w v l) (hl : l.length ≤ 30) : Calls Tryz.prog 152 #[v] w fun e w' => e = .returned (.bool (validC l)) ∧ Below w.heap.size w w' := by
  obtain ⟨ad, c, f, b, off, rfl, hr, _, _, _, hf⟩ := h
  obtain ⟨n, hn⟩ : ∃ n, l.length = n := ⟨_, rfl⟩
  rw [hn] at hr hl ⊢
  have hbig : ∀ k, k ≤ n → relN (l.take k) ≤ 30 * 140737488351232 := fun k hk => by
    have h1 := relN_le (c := l.take k) (M := 140737488351232) fun x hx => by
      obtain ⟨i, hi⟩ := List.getElem?_of_mem (List.mem_of_mem_take hx)
      obtain ⟨_, _, _, _, _, _, _, _, _, h5, _⟩ := hf i x hi
      exact h5
    rw [List.length_take] at h1
    exact Nat.le_trans h1 (Nat.mul_le_mul_right _ (by omega))
  have HN := Lib.hid hn
  have HR := Lib.hid hr
  have HF := Lib.hid hf
  have HBG := Lib.hid hbig
  clear hr hf hn hbig
  obtain ⟨q, hq⟩ : ∃ q, validC l = q := ⟨_, rfl⟩
  rw [hq]
  have HQ := Lib.hid hq
  clear hq
  go_enter Tryz.func152, Tryz.ntmps152
  go_wp2_with fail
  go_loopw [3, 8] (fun u v wr => ∃ k : Nat, v = .int .i64 (k : Int) ∧ k ≤ n ∧ u = .int .i64 (relN (l.take k) : Nat) ∧ (∀ i, i < k → listOk (l.getD i []) = true) ∧ Below w.heap.size w wr) (fun _ v _ => n - (intOf v).toNat)
  case atStart => exact ⟨0, rfl, Nat.zero_le _, rfl, fun i hi => absurd hi (Nat.not_lt_zero _), Below.refl _ _⟩
  case round =>
    obtain ⟨k, rfl, hkn, rfl, hal, hbl⟩ := hrel
    have HAL := Lib.hid hal
    have HBL := Lib.hid hbl
    clear hal hbl
    by_cases hlt : k < n
    · have hrr := HR.out.below HBL.out
      have hix := fun W => hrr.ix 48 91 Tryz.underlying48 (by kernel_rfl) (by omega) hlt c W
      rw [Nat.mul_one] at hix
      have c0 : wr.cell? ⟨b, off + k * 1, none⟩ = some (f k 0) := hrr.cell k 0 hlt (by omega)
      rw [Nat.mul_one] at c0
      have hk0 : k < l.length := by rw [HN.out]; exact hlt
      have HL : Hid (RowsOf 4 RelC wr (f k 0) (l.getD k [])) := (RowsOf.get HF.out hk0 []).below HBL.out
      have hbg := HBG.out (k + 1) hlt
      rw [relN_getD hk0] at hbg
      have HEQ : Hid (relN (l.take (k + 1)) = relN (l.take k) + (l.getD k []).length) := relN_getD hk0
      have HNO : Hid (listOk (l.getD k []) = false → q = false) := fun h => HQ.out.symm.trans (validC_no hk0 h)
      have HYES : Hid (listOk (l.getD k []) = true → ∀ i, i < k + 1 → listOk (l.getD i []) = true) := fun h i hi => by
        by_cases e : i = k
        · subst e; exact h
        · exact HAL.out i (by omega)
      clear hrr hk0
      generalize l.getD k [] = ls at *
      have HC := Lib.hid (crel_any (f k 0) ls wr HL.out)
      obtain ⟨ad2, c2, f2, b2, off2, hv2, _, _, _, _, _⟩ := HL.out
      rw [hv2] at c0
      rw [Hid, hv2] at HC
      have HC := Lib.hid HC
      clear hv2 HL
      generalize relN (l.take k) = s at *
      by_cases h0 : ls.length = 0
      · have HO := Lib.hid (HNO.out (by unfold listOk; rw [List.length_eq_zero_iff.1 h0]; rfl))
        rw [h0] at c0
        clear HNO HYES
        go_wp2_with fail
        go_ret
        exact ⟨by rw [HO.out]; rfl, HBL.out⟩
      · have h1 : ¬ ((ls.length : Int) = 0) := by omega
        have HE : Hid (listOk ls = ls.all properV) := by
          unfold Hid listOk
          cases ls with
          | nil => exact absurd rfl h0
          | cons a r => rfl
        rw [Hid, HE.out] at HNO HYES
        have HNO := Lib.hid HNO
        have HYES := Lib.hid HYES
        generalize ls.length = m at *
        cases hp : ls.all properV with
        | false =>
          have HO := Lib.hid (HNO.out hp)
          rw [Hid, hp] at HC
          have HC := Lib.hid HC
          clear HNO HYES HE hp
          go_wp2_with fail
          refine HC.out.mono ?_
          rintro e w' ⟨rfl, hb⟩
          have HB2 := Lib.hid (HBL.out.trans (hb.mono HBL.out.size))
          clear hb
          go_wp2_with fail
          go_ret
          exact ⟨by rw [HO.out]; rfl, HB2.out⟩
        | true =>
          have HO := Lib.hid (HYES.out hp)
          rw [Hid, hp] at HC
          have HC := Lib.hid HC
          clear HNO HYES HE hp
          go_wp2_with fail
          refine HC.out.mono ?_
          rintro e w' ⟨rfl, hb⟩
          have HB2 := Lib.hid (HBL.out.trans (hb.mono HBL.out.size))
          clear hb
          go_wp2_with fail
          go_roundw
          case rel => exact ⟨k + 1, by go_num, by omega, by rw [HEQ.out]; go_num, HO.out, HB2.out⟩
          case measure => simp [intOf]; omega
    · obtain rfl : k = n := by omega
      have HE : Hid (q = (decide (0 < k) && decide (relN l ≤ 6))) := HQ.out.symm.trans (by rw [← HN.out]; exact validC_end (by rw [HN.out]; exact HAL.out))
      have HT : Hid (relN (l.take k) = relN l) := by unfold Hid; rw [← HN.out, List.take_length]
      rw [HT.out]
      generalize relN l = s at *
      by_cases p1 : 0 < k
      · have p2 : 0 < (k : Int) := by omega
        go_wp2_with fail
        go_ret
        exact ⟨by rw [HE.out, decide_eq_true p1]; simp; omega, HBL.out⟩
      · have p2 : ¬ 0 < (k : Int) := by omega
        go_wp2_with fail
        go_ret
        exact ⟨by rw [HE.out, decide_eq_false p1]; rfl, HBL.out⟩

end Go.Proofs.YtmleeodfmmpdgaaGreatDoor
namespace Go.Proofs.YtmleeodfmmpdgaaGreatDoor
open Go.RowKit Go.Maps
attribute [local go_sem] Ext.cell Ext.frozen
attribute [local go_sem ↓] Go.wp_at_zero Go.wp_at_succ
def distR {α : Type} [DecidableEq α] : List α → Nat
  | [] => 0
  | a :: l => distR l + if a ∈ l then 0 else 1
def distN {α : Type} [DecidableEq α] (l : List α) : Nat := distR l.reverse
theorem distN_snoc {α : Type} [DecidableEq α] (l : List α) (a : α) : distN (l ++ [a]) = distN l + if a ∈ l then 0 else 1 := by
  simp [distN, distR]
theorem distR_le {α : Type} [DecidableEq α] : ∀ l : List α, distR l ≤ l.length ∧ (distR l = l.length ↔ l.Nodup)
  | [] => ⟨Nat.le_refl _, by simp [distR]⟩
  | a :: l => by
    obtain ⟨h1, h2⟩ := distR_le l
    rw [List.nodup_cons, List.length_cons]
    unfold distR
    by_cases h : a ∈ l
    · rw [if_pos h]
      exact ⟨by omega, fun e => by omega, fun e => absurd h e.1⟩
    · rw [if_neg h]
      exact ⟨by omega, fun e => ⟨h, h2.1 (by omega)⟩, fun e => by rw [h2.2 e.2]⟩
theorem distN_nodup {α : Type} [DecidableEq α] (l : List α) : distN l = l.length ↔ l.Nodup := by
  have := (distR_le l.reverse).2
  rw [List.length_reverse] at this
  refine this.trans ?_
  unfold List.Nodup
  rw [List.pairwise_reverse]
  exact ⟨fun h => h.imp Ne.symm, fun h => h.imp Ne.symm⟩
theorem distN_le {α : Type} [DecidableEq α] (l : List α) : distN l ≤ l.length := by
  have := (distR_le l.reverse).1
  rwa [List.length_reverse] at this
theorem lawStr : Keyed Tryz.prog 9 := string_keyed Tryz.underlying9
theorem keyStr {s : ByteArray} (hs : s.size ≤ maxLen) : keyOf Tryz.prog 9 (.string s) = some (.string s.data.toList) := WideMaps.keyOf_string_mk Tryz.underlying9 hs
theorem cellsPairS : Tryz.prog.cellsOf 193 = 2 := by kernel_rfl
theorem arrPair : WideMaps.ArrKey Tryz.prog 193 9 2 := ⟨Tryz.underlying193, by kernel_rfl, by kernel_rfl, cellsPairS⟩
theorem laidOutG : laidOutB Tryz.prog = true := by kernel_rfl
theorem lawPair : Keyed Tryz.prog 193 := Keyed.of_law (deep_law_laid laidOutG (m := 2) (by omega) (of_decide_eq_true (by kernel_rfl)) (by kernel_rfl) (by rw [Tryz.underlying193]))
theorem typesSize : ∃ m, Tryz.prog.types.size = m + 1 := ⟨Tryz.prog.types.size - 1, by kernel_rfl⟩
theorem keyPair {a b : ByteArray} (ha : a.size ≤ maxLen) (hb : b.size ≤ maxLen) : keyOf Tryz.prog 193 (.agg #[.string a, .string b]) = some (.string (keyBytes [.string a.data.toList, .string b.data.toList])) := by
  have hkt := arrPair.keyType typesSize
  obtain ⟨m, hm⟩ := typesSize
  unfold keyOf
  simp only [arrPair.hu]
  rw [if_pos (by simp [hkt, Value.formed, arrPair.hu, arrPair.size]), hm]
  unfold Program.keyLits
  simp only [arrPair.hu, Value.cells]
  rw [if_pos (by rw [arrPair.size]; rfl), show List.range 2 = [0, 1] from rfl, List.mapM_cons, List.mapM_cons, List.mapM_nil]
  simp [arrPair.one, Program.keyLits, Tryz.underlying9, ha, hb]
def SetK (T : TypeId) {α : Type} [DecidableEq α] (kv : α → Value) (w : World) (M n : Nat) (ks : List α) : Prop :=
  ∃ D : DataW Unit, w.ownsMap Tryz.prog T (plainElem Tryz.prog 4) M n D ∧ (∀ a kl, keyOf Tryz.prog T (kv a) = some kl → has D kl = decide (a ∈ ks)) ∧ Maps.size D = distN ks
section
variable {T : TypeId} {α : Type} [DecidableEq α] {kv : α → Value} {w w' : World} {M n : Nat} {ks : List α}
theorem SetK.made (T : TypeId) (kv : α → Value) (w : World) : SetK T kv (w.alloc (.map #[] 0)) w.heap.size 0 [] :=
  ⟨.map [], World.ownsMap_made _ _ _ _, fun a kl _ => by simp [has], rfl⟩
theorem SetK.lt (h : SetK T kv w M n ks) : M < w.heap.size := by obtain ⟨D, h, _⟩ := h; exact h.lt
theorem SetK.same (h : SetK T kv w M n ks) (hb : w'.heap[M]? = w.heap[M]?) : SetK T kv w' M n ks := by
  obtain ⟨D, ⟨es, clock, h1, h2⟩, h3⟩ := h
  exact ⟨D, ⟨es, clock, hb.trans h1, h2⟩, h3⟩
theorem SetK.below (h : SetK T kv w M n ks) (hb : Below w.heap.size w w') : SetK T kv w' M n ks := h.same (hb.block _ h.lt)
theorem SetK.len (h : SetK T kv w M n ks) {MT : TypeId} (ht : Tryz.prog.underlying MT = some (.map T 4)) (ty : TypeId) : (Builtin.len_ #[MT] ty #[.map (some M)]).run Tryz.prog w = .ok (.int .i64 (distN ks : Nat)) w := by
  obtain ⟨D, h1, _, h4⟩ := h
  rw [← h4]
  exact h1.len ht ty
theorem SetK.put (h : SetK T kv w M n ks) {MT : TypeId} (ht : Tryz.prog.underlying MT = some (.map T 4)) (K : Keyed Tryz.prog T) (hinj : ∀ a b, kv a = kv b → a = b) (a : α) {kl : Lit} (hk : keyOf Tryz.prog T (kv a) = some kl) (hn : n < maxLen) :
    ∃ w', (Instr.mapUpdate MT (.map (some M)) (kv a) (.bool true)).run Tryz.prog w = .ok () w' ∧ SetK T kv w' M (n + 1) (ks ++ [a]) ∧ w.grownBy w' (some M) := by
  obtain ⟨D, h1, h3, h4⟩ := h
  have htd := h1.tidy K
  obtain ⟨w', hrun, hown, hg⟩ := h1.update K ht hn hk (plainElem_bool Tryz.underlying4 true)
  refine ⟨w', hrun, ⟨_, hown, fun b kl' hb => ?_, ?_⟩, hg⟩
  · by_cases e : b = a
    · subst e
      obtain rfl := Option.some.inj (hb.symm.trans hk)
      rw [has_put_same htd.isMap (K.key hk), decide_eq_true (List.mem_append_right _ (List.mem_singleton.2 rfl))]
    · rw [has_put_other (fun e' => by rw [e'] at hb; exact e (hinj _ _ (K.inj hb hk))), h3 b kl' hb]
      simp [e]
  · rw [size_put htd, h3 a kl hk, distN_snoc, h4]
    by_cases e : a ∈ ks <;> simp [e]
end
def kvP (p : ByteArray × ByteArray) : Value := .agg #[.string p.1, .string p.2]
theorem kvP_inj (a b : ByteArray × ByteArray) (h : kvP a = kvP b) : a = b := by
  simp only [kvP, Value.agg.injEq, Array.mk.injEq, List.cons.injEq, Value.string.injEq, and_true] at h
  exact Prod.ext h.1 h.2
theorem kvS_inj (a b : ByteArray) (h : Value.string a = Value.string b) : a = b := by injection h
theorem keysN_snoc {α : Type} (ks : Nat → α) (k : Nat) : (List.range (k + 1)).map ks = (List.range k).map ks ++ [ks k] := by simp [List.range_succ]
set_option maxRecDepth 20000 in
set_option maxHeartbeats 4000000 in
theorem unique_Rule (a0 : Nat → ByteArray) (ad : Option Addr) (n c : Nat) (f : Nat → Nat → Value) (b off : Nat) (w : World) (hr : Rw w ad n 2 f b off) (hn : n ≤ 1000000)
    (hv : ∀ i, i < n → f i 0 = .string (a0 i) ∧ ∃ r0 r1 r2, f i 1 = .slice r0 r1 r2) (hok : ∀ i, i < n → (a0 i).size ≤ 1000000) :
    Calls Tryz.prog 147 #[.slice ad n c, .func (.func 148) #[] #[]] w fun e w' => e = .returned (.bool (decide (((List.range n).map a0).Nodup))) ∧ Below w.heap.size w w' := by
  have HR := Lib.hid hr
  have HV := Lib.hid hv
  have HOK := Lib.hid hok
  have HP := Lib.hid @key_Rule
  have HE : Hid (decide (((List.range n).map a0).Nodup) = (((distN ((List.range n).map a0) : Nat) : Int) == (n : Int))) := by
    have := distN_nodup ((List.range n).map a0)
    rw [List.length_map, List.length_range] at this
    rw [Hid, Bool.eq_iff_iff, decide_eq_true_eq, beq_iff_eq, ← this]
    omega
  rw [HE.out]
  clear hr hv hok HE
  have eg := enters_of Tryz.func148 (by kernel_rfl) rfl
  have hmm := @run_makeMap Tryz.prog
  go_enter Tryz.func147, Tryz.ntmps147
  go_wp2_with fail
  have HS0 := Lib.hid (SetK.made 9 Value.string w)
  have HB0 : Hid (Below w.heap.size w (w.alloc (.map #[] 0))) := (Below.refl _ _).alloc (Nat.le_refl _) _
  generalize w.alloc (.map #[] 0) = w1 at *
  go_loopw [11] (fun u wr => ∃ k : Nat, u = .int .i64 (k : Int) ∧ k ≤ n ∧ SetK 9 Value.string wr w.heap.size k ((List.range k).map a0) ∧ Below w.heap.size w wr) (fun u _ => n - (intOf u).toNat)
  case atStart => exact ⟨0, rfl, Nat.zero_le _, HS0.out, HB0.out⟩
  case round =>
    obtain ⟨k, rfl, hkn, hse, hbl⟩ := hrel
    have HSE := Lib.hid hse
    have HBL := Lib.hid hbl
    clear hse hbl HS0 HB0
    by_cases hlt : k < n
    · have HRR := Lib.hid (HR.out.below HBL.out)
      obtain ⟨v0, r0, r1, r2, v1⟩ := HV.out k hlt
      have hix := fun W => HRR.out.ix 38 51 Tryz.underlying38 (by kernel_rfl) (by omega) hlt c W
      have c0 : wr.cell? ⟨b, off + k * 2, none⟩ = some (f k 0) := HRR.out.cell k 0 hlt (by omega)
      rw [v0] at c0
      have c1 : wr.cell? ⟨b, off + k * 2 + 1, none⟩ = some (f k 1) := HRR.out.cell k 1 hlt (by omega)
      rw [v1] at c1
      have HCALL := Lib.hid (HP.out (a0 k) r0 r1 r2)
      have HKEY := Lib.hid (keyStr (s := a0 k) (by have := HOK.out k hlt; unfold maxLen; omega))
      have HSN := Lib.hid (keysN_snoc a0 k)
      have hzb := HBL.out.size
      clear HRR v0 v1
      go_wp2_with fail
      refine (HCALL.out _).mono ?_
      rintro e w2 ⟨rfl, hb2⟩
      replace hb2 := ((Below.refl wr.heap.size wr).alloc (Nat.le_refl _) _).trans (hb2.mono (by simp))
      have HB2 := Lib.hid (HBL.out.trans (hb2.mono HBL.out.size))
      obtain ⟨w5, hput, hse5, hg⟩ := (HSE.out.below hb2).put Tryz.underlying234 lawStr kvS_inj (a0 k) HKEY.out (by unfold maxLen; omega)
      have hsn := HSN.out
      try simp only at hsn
      rw [← hsn] at hse5
      have HSE5 := Lib.hid hse5
      have HB5 : Hid (Below w.heap.size w w5) := HB2.out.grown hg HB2.out.size (fun j hj => by injection hj with hj; omega)
      clear hse5 hg hb2 HSE HSN hsn HKEY HCALL
      
      go_wp2_with fail
      go_roundw
      case rel => exact ⟨k + 1, by go_num, by omega, HSE5.out, HB5.out⟩
      case measure => simp [intOf]; omega
    · obtain rfl : k = n := by omega
      have hlen := fun ty => HSE.out.len Tryz.underlying234 ty
      have hdl := distN_le ((List.range k).map a0)
      rw [List.length_map, List.length_range] at hdl
      generalize hd : distN ((List.range k).map a0) = d at *
      have HD := Lib.hid hd
      clear hd
      go_wp2_with fail
      go_ret
      exact ⟨by rw [HD.out]; rfl, HBL.out⟩
set_option maxRecDepth 20000 in
set_option maxHeartbeats 4000000 in
theorem unique_Lp (a0 a1 a2 a3 a4 : Nat → ByteArray) (ad : Option Addr) (n c : Nat) (f : Nat → Nat → Value) (b off : Nat) (w : World) (hr : Rw w ad n 5 f b off) (hn : n ≤ 1000000)
    (hv : ∀ i, i < n → f i 0 = .string (a0 i) ∧ f i 1 = .string (a1 i) ∧ f i 2 = .string (a2 i) ∧ f i 3 = .string (a3 i) ∧ f i 4 = .string (a4 i)) (hok : ∀ i, i < n → (a0 i).size ≤ 1000000) :
    Calls Tryz.prog 153 #[.slice ad n c, .func (.func 154) #[] #[]] w fun e w' => e = .returned (.bool (decide (((List.range n).map a0).Nodup))) ∧ Below w.heap.size w w' := by
  have HR := Lib.hid hr
  have HV := Lib.hid hv
  have HOK := Lib.hid hok
  have HP := Lib.hid @key_Lp
  have HE : Hid (decide (((List.range n).map a0).Nodup) = (((distN ((List.range n).map a0) : Nat) : Int) == (n : Int))) := by
    have := distN_nodup ((List.range n).map a0)
    rw [List.length_map, List.length_range] at this
    rw [Hid, Bool.eq_iff_iff, decide_eq_true_eq, beq_iff_eq, ← this]
    omega
  rw [HE.out]
  clear hr hv hok HE
  have eg := enters_of Tryz.func154 (by kernel_rfl) rfl
  have hmm := @run_makeMap Tryz.prog
  go_enter Tryz.func153, Tryz.ntmps153
  go_wp2_with fail
  have HS0 := Lib.hid (SetK.made 9 Value.string w)
  have HB0 : Hid (Below w.heap.size w (w.alloc (.map #[] 0))) := (Below.refl _ _).alloc (Nat.le_refl _) _
  generalize w.alloc (.map #[] 0) = w1 at *
  go_loopw [11] (fun u wr => ∃ k : Nat, u = .int .i64 (k : Int) ∧ k ≤ n ∧ SetK 9 Value.string wr w.heap.size k ((List.range k).map a0) ∧ Below w.heap.size w wr) (fun u _ => n - (intOf u).toNat)
  case atStart => exact ⟨0, rfl, Nat.zero_le _, HS0.out, HB0.out⟩
  case round =>
    obtain ⟨k, rfl, hkn, hse, hbl⟩ := hrel
    have HSE := Lib.hid hse
    have HBL := Lib.hid hbl
    clear hse hbl HS0 HB0
    by_cases hlt : k < n
    · have HRR := Lib.hid (HR.out.below HBL.out)
      obtain ⟨v0, v1, v2, v3, v4⟩ := HV.out k hlt
      have hix := fun W => HRR.out.ix 41 130 Tryz.underlying41 (by kernel_rfl) (by omega) hlt c W
      have c0 : wr.cell? ⟨b, off + k * 5, none⟩ = some (f k 0) := HRR.out.cell k 0 hlt (by omega)
      rw [v0] at c0
      have c1 : wr.cell? ⟨b, off + k * 5 + 1, none⟩ = some (f k 1) := HRR.out.cell k 1 hlt (by omega)
      rw [v1] at c1
      have c2 : wr.cell? ⟨b, off + k * 5 + 2, none⟩ = some (f k 2) := HRR.out.cell k 2 hlt (by omega)
      rw [v2] at c2
      have c3 : wr.cell? ⟨b, off + k * 5 + 3, none⟩ = some (f k 3) := HRR.out.cell k 3 hlt (by omega)
      rw [v3] at c3
      have c4 : wr.cell? ⟨b, off + k * 5 + 4, none⟩ = some (f k 4) := HRR.out.cell k 4 hlt (by omega)
      rw [v4] at c4
      have HCALL := Lib.hid (HP.out (a0 k) (a1 k) (a2 k) (a3 k) (a4 k))
      have HKEY := Lib.hid (keyStr (s := a0 k) (by have := HOK.out k hlt; unfold maxLen; omega))
      have HSN := Lib.hid (keysN_snoc a0 k)
      have hzb := HBL.out.size
      clear HRR v0 v1 v2 v3 v4
      go_wp2_with fail
      refine (HCALL.out _).mono ?_
      rintro e w2 ⟨rfl, hb2⟩
      replace hb2 := ((Below.refl wr.heap.size wr).alloc (Nat.le_refl _) _).trans (hb2.mono (by simp))
      have HB2 := Lib.hid (HBL.out.trans (hb2.mono HBL.out.size))
      obtain ⟨w5, hput, hse5, hg⟩ := (HSE.out.below hb2).put Tryz.underlying234 lawStr kvS_inj (a0 k) HKEY.out (by unfold maxLen; omega)
      have hsn := HSN.out
      try simp only at hsn
      rw [← hsn] at hse5
      have HSE5 := Lib.hid hse5
      have HB5 : Hid (Below w.heap.size w w5) := HB2.out.grown hg HB2.out.size (fun j hj => by injection hj with hj; omega)
      clear hse5 hg hb2 HSE HSN hsn HKEY HCALL
      
      go_wp2_with fail
      go_roundw
      case rel => exact ⟨k + 1, by go_num, by omega, HSE5.out, HB5.out⟩
      case measure => simp [intOf]; omega
    · obtain rfl : k = n := by omega
      have hlen := fun ty => HSE.out.len Tryz.underlying234 ty
      have hdl := distN_le ((List.range k).map a0)
      rw [List.length_map, List.length_range] at hdl
      generalize hd : distN ((List.range k).map a0) = d at *
      have HD := Lib.hid hd
      clear hd
      go_wp2_with fail
      go_ret
      exact ⟨by rw [HD.out]; rfl, HBL.out⟩
set_option maxRecDepth 20000 in
set_option maxHeartbeats 4000000 in
theorem unique_Up (a0 a1 a2 : Nat → ByteArray) (ad : Option Addr) (n c : Nat) (f : Nat → Nat → Value) (b off : Nat) (w : World) (hr : Rw w ad n 3 f b off) (hn : n ≤ 1000000)
    (hv : ∀ i, i < n → f i 0 = .string (a0 i) ∧ f i 1 = .string (a1 i) ∧ f i 2 = .string (a2 i)) (hok : ∀ i, i < n → (a0 i).size ≤ 1000000 ∧ (a1 i).size ≤ 1000000) :
    Calls Tryz.prog 155 #[.slice ad n c, .func (.func 156) #[] #[]] w fun e w' => e = .returned (.bool (decide (((List.range n).map (fun i => (a0 i, a1 i))).Nodup))) ∧ Below w.heap.size w w' := by
  have HR := Lib.hid hr
  have HV := Lib.hid hv
  have HOK := Lib.hid hok
  have HP := Lib.hid @key_Up
  have HE : Hid (decide (((List.range n).map (fun i => (a0 i, a1 i))).Nodup) = (((distN ((List.range n).map (fun i => (a0 i, a1 i))) : Nat) : Int) == (n : Int))) := by
    have := distN_nodup ((List.range n).map (fun i => (a0 i, a1 i)))
    rw [List.length_map, List.length_range] at this
    rw [Hid, Bool.eq_iff_iff, decide_eq_true_eq, beq_iff_eq, ← this]
    omega
  rw [HE.out]
  clear hr hv hok HE
  have eg := enters_of Tryz.func156 (by kernel_rfl) rfl
  have hmm := @run_makeMap Tryz.prog
  go_enter Tryz.func155, Tryz.ntmps155
  go_wp2_with fail
  have HS0 := Lib.hid (SetK.made 193 kvP w)
  have HB0 : Hid (Below w.heap.size w (w.alloc (.map #[] 0))) := (Below.refl _ _).alloc (Nat.le_refl _) _
  generalize w.alloc (.map #[] 0) = w1 at *
  go_loopw [11] (fun u wr => ∃ k : Nat, u = .int .i64 (k : Int) ∧ k ≤ n ∧ SetK 193 kvP wr w.heap.size k ((List.range k).map (fun i => (a0 i, a1 i))) ∧ Below w.heap.size w wr) (fun u _ => n - (intOf u).toNat)
  case atStart => exact ⟨0, rfl, Nat.zero_le _, HS0.out, HB0.out⟩
  case round =>
    obtain ⟨k, rfl, hkn, hse, hbl⟩ := hrel
    have HSE := Lib.hid hse
    have HBL := Lib.hid hbl
    clear hse hbl HS0 HB0
    by_cases hlt : k < n
    · have HRR := Lib.hid (HR.out.below HBL.out)
      obtain ⟨v0, v1, v2⟩ := HV.out k hlt
      have hix := fun W => HRR.out.ix 42 132 Tryz.underlying42 (by kernel_rfl) (by omega) hlt c W
      have c0 : wr.cell? ⟨b, off + k * 3, none⟩ = some (f k 0) := HRR.out.cell k 0 hlt (by omega)
      rw [v0] at c0
      have c1 : wr.cell? ⟨b, off + k * 3 + 1, none⟩ = some (f k 1) := HRR.out.cell k 1 hlt (by omega)
      rw [v1] at c1
      have c2 : wr.cell? ⟨b, off + k * 3 + 2, none⟩ = some (f k 2) := HRR.out.cell k 2 hlt (by omega)
      rw [v2] at c2
      have HCALL := Lib.hid (HP.out (a0 k) (a1 k) (a2 k))
      have HKEY := Lib.hid (keyPair (a := a0 k) (b := a1 k) (by have := (HOK.out k hlt).1; unfold maxLen; omega) (by have := (HOK.out k hlt).2; unfold maxLen; omega))
      have HSN := Lib.hid (keysN_snoc (fun i => (a0 i, a1 i)) k)
      have hzb := HBL.out.size
      clear HRR v0 v1 v2
      go_wp2_with fail
      refine (HCALL.out _).mono ?_
      rintro e w2 ⟨rfl, hb2⟩
      replace hb2 := ((Below.refl wr.heap.size wr).alloc (Nat.le_refl _) _).trans (hb2.mono (by simp))
      have HB2 := Lib.hid (HBL.out.trans (hb2.mono HBL.out.size))
      obtain ⟨w5, hput, hse5, hg⟩ := (HSE.out.below hb2).put Tryz.underlying236 lawPair kvP_inj (a0 k, a1 k) HKEY.out (by unfold maxLen; omega)
      have hsn := HSN.out
      try simp only at hsn
      rw [← hsn] at hse5
      have HSE5 := Lib.hid hse5
      have HB5 : Hid (Below w.heap.size w w5) := HB2.out.grown hg HB2.out.size (fun j hj => by injection hj with hj; omega)
      clear hse5 hg hb2 HSE HSN hsn HKEY HCALL
      simp only [kvP] at hput
      go_wp2_with fail
      go_roundw
      case rel => exact ⟨k + 1, by go_num, by omega, HSE5.out, HB5.out⟩
      case measure => simp [intOf]; omega
    · obtain rfl : k = n := by omega
      have hlen := fun ty => HSE.out.len Tryz.underlying236 ty
      have hdl := distN_le ((List.range k).map (fun i => (a0 i, a1 i)))
      rw [List.length_map, List.length_range] at hdl
      generalize hd : distN ((List.range k).map (fun i => (a0 i, a1 i))) = d at *
      have HD := Lib.hid hd
      clear hd
      go_wp2_with fail
      go_ret
      exact ⟨by rw [HD.out]; rfl, HBL.out⟩
set_option maxRecDepth 20000 in
set_option maxHeartbeats 4000000 in
theorem unique_Dp (a0 a1 : Nat → ByteArray) (ad : Option Addr) (n c : Nat) (f : Nat → Nat → Value) (b off : Nat) (w : World) (hr : Rw w ad n 2 f b off) (hn : n ≤ 1000000)
    (hv : ∀ i, i < n → f i 0 = .string (a0 i) ∧ f i 1 = .string (a1 i)) (hok : ∀ i, i < n → (a0 i).size ≤ 1000000) :
    Calls Tryz.prog 157 #[.slice ad n c, .func (.func 158) #[] #[]] w fun e w' => e = .returned (.bool (decide (((List.range n).map a0).Nodup))) ∧ Below w.heap.size w w' := by
  have HR := Lib.hid hr
  have HV := Lib.hid hv
  have HOK := Lib.hid hok
  have HP := Lib.hid @key_Dp
  have HE : Hid (decide (((List.range n).map a0).Nodup) = (((distN ((List.range n).map a0) : Nat) : Int) == (n : Int))) := by
    have := distN_nodup ((List.range n).map a0)
    rw [List.length_map, List.length_range] at this
    rw [Hid, Bool.eq_iff_iff, decide_eq_true_eq, beq_iff_eq, ← this]
    omega
  rw [HE.out]
  clear hr hv hok HE
  have eg := enters_of Tryz.func158 (by kernel_rfl) rfl
  have hmm := @run_makeMap Tryz.prog
  go_enter Tryz.func157, Tryz.ntmps157
  go_wp2_with fail
  have HS0 := Lib.hid (SetK.made 9 Value.string w)
  have HB0 : Hid (Below w.heap.size w (w.alloc (.map #[] 0))) := (Below.refl _ _).alloc (Nat.le_refl _) _
  generalize w.alloc (.map #[] 0) = w1 at *
  go_loopw [11] (fun u wr => ∃ k : Nat, u = .int .i64 (k : Int) ∧ k ≤ n ∧ SetK 9 Value.string wr w.heap.size k ((List.range k).map a0) ∧ Below w.heap.size w wr) (fun u _ => n - (intOf u).toNat)
  case atStart => exact ⟨0, rfl, Nat.zero_le _, HS0.out, HB0.out⟩
  case round =>
    obtain ⟨k, rfl, hkn, hse, hbl⟩ := hrel
    have HSE := Lib.hid hse
    have HBL := Lib.hid hbl
    clear hse hbl HS0 HB0
    by_cases hlt : k < n
    · have HRR := Lib.hid (HR.out.below HBL.out)
      obtain ⟨v0, v1⟩ := HV.out k hlt
      have hix := fun W => HRR.out.ix 43 134 Tryz.underlying43 (by kernel_rfl) (by omega) hlt c W
      have c0 : wr.cell? ⟨b, off + k * 2, none⟩ = some (f k 0) := HRR.out.cell k 0 hlt (by omega)
      rw [v0] at c0
      have c1 : wr.cell? ⟨b, off + k * 2 + 1, none⟩ = some (f k 1) := HRR.out.cell k 1 hlt (by omega)
      rw [v1] at c1
      have HCALL := Lib.hid (HP.out (a0 k) (a1 k))
      have HKEY := Lib.hid (keyStr (s := a0 k) (by have := HOK.out k hlt; unfold maxLen; omega))
      have HSN := Lib.hid (keysN_snoc a0 k)
      have hzb := HBL.out.size
      clear HRR v0 v1
      go_wp2_with fail
      refine (HCALL.out _).mono ?_
      rintro e w2 ⟨rfl, hb2⟩
      replace hb2 := ((Below.refl wr.heap.size wr).alloc (Nat.le_refl _) _).trans (hb2.mono (by simp))
      have HB2 := Lib.hid (HBL.out.trans (hb2.mono HBL.out.size))
      obtain ⟨w5, hput, hse5, hg⟩ := (HSE.out.below hb2).put Tryz.underlying234 lawStr kvS_inj (a0 k) HKEY.out (by unfold maxLen; omega)
      have hsn := HSN.out
      try simp only at hsn
      rw [← hsn] at hse5
      have HSE5 := Lib.hid hse5
      have HB5 : Hid (Below w.heap.size w w5) := HB2.out.grown hg HB2.out.size (fun j hj => by injection hj with hj; omega)
      clear hse5 hg hb2 HSE HSN hsn HKEY HCALL
      
      go_wp2_with fail
      go_roundw
      case rel => exact ⟨k + 1, by go_num, by omega, HSE5.out, HB5.out⟩
      case measure => simp [intOf]; omega
    · obtain rfl : k = n := by omega
      have hlen := fun ty => HSE.out.len Tryz.underlying234 ty
      have hdl := distN_le ((List.range k).map a0)
      rw [List.length_map, List.length_range] at hdl
      generalize hd : distN ((List.range k).map a0) = d at *
      have HD := Lib.hid hd
      clear hd
      go_wp2_with fail
      go_ret
      exact ⟨by rw [HD.out]; rfl, HBL.out⟩
end Go.Proofs.YtmleeodfmmpdgaaGreatDoor
namespace Go.Proofs.YtmleeodfmmpdgaaGreatDoor
open Go.RowKit
attribute [local go_sem] Ext.cell Ext.frozen
attribute [local go_sem ↓] Go.wp_at_zero Go.wp_at_succ
set_option maxRecDepth 20000 in
theorem idx_St (p : Nat → Bool) (g : Nat) (lb : Array Value) (eg : ∀ args w, (callFunc g args).run Tryz.prog w = .ok (.enter g args) w) (ad : Option Addr) (n c : Nat) (f : Nat → Nat → Value) (b off : Nat) (w : World) (hr : Rw w ad n 1 f b off)
    (hp : ∀ W i, i < n → Below w.heap.size w W → Calls Tryz.prog g (#[f i 0] ++ lb) W fun e w' => e = .returned (.bool (p i)) ∧ Below W.heap.size W w') :
    Calls Tryz.prog 167 #[.slice ad n c, .func (.func g) #[] lb] w fun e w' => e = .returned (.int .i64 (idxP p n)) ∧ Below w.heap.size w w' := by
  have HR := Lib.hid hr
  have HP := Lib.hid hp
  have hm := hr.max
  clear hr hp
  go_enter Tryz.func167, Tryz.ntmps167
  go_wp2_with fail
  go_loopw [5, 8] (fun _ v wr => ∃ k : Nat, v = .int .i64 (k : Int) ∧ k ≤ n ∧ (∀ i, i < k → p i = false) ∧ Below w.heap.size w wr) (fun _ v _ => n - (intOf v).toNat)
  case atStart => exact ⟨0, rfl, Nat.zero_le _, fun i hi => absurd hi (Nat.not_lt_zero _), Below.refl _ _⟩
  case round =>
    obtain ⟨k, rfl, hkn, hm0, hbl⟩ := hrel
    have HM := Lib.hid hm0
    have HBL := Lib.hid hbl
    clear hm0 hbl
    by_cases hlt : k < n
    · have HRR := Lib.hid (HR.out.below HBL.out)
      have hix := fun W => HRR.out.ix 44 9 Tryz.underlying44 (by kernel_rfl) (by omega) hlt c W
      rw [Nat.mul_one] at hix
      have c0 : wr.cell? ⟨b, off + k, none⟩ = some (f k 0) := by have := HRR.out.cell k 0 hlt (by omega); rwa [Nat.mul_one, Nat.add_zero] at this
      have HCALL := Lib.hid (HP.out wr k hlt HBL.out)
      clear HRR
      cases hq : p k with
      | true =>
        have HQ := Lib.hid hq
        rw [Hid, hq] at HCALL
        clear hq
        go_wp2_with (go_at_fn g; refine HCALL.mono ?_; rintro e w' ⟨rfl, hb'⟩)
        go_ret
        exact ⟨ret_int (idxP_hit hlt HQ.out HM.out).symm, HBL.out.trans (hb'.mono HBL.out.size)⟩
      | false =>
        have HQ := Lib.hid hq
        rw [Hid, hq] at HCALL
        clear hq
        go_wp2_with (go_at_fn g; refine HCALL.mono ?_; rintro e w' ⟨rfl, hb'⟩)
        go_roundw
        case rel =>
          refine ⟨k + 1, by go_num, by omega, fun i hi => ?_, HBL.out.trans (hb'.mono HBL.out.size)⟩
          by_cases e : i = k
          · subst e; exact HQ.out
          · exact HM.out i (by omega)
        case measure => simp [intOf]; omega
    · obtain rfl : k = n := by omega
      go_wp2_with fail
      go_ret
      exact ⟨ret_int (idxP_miss HM.out).symm, HBL.out⟩
theorem cont_St (p : Nat → Bool) (g : Nat) (lb : Array Value) (eg : ∀ args w, (callFunc g args).run Tryz.prog w = .ok (.enter g args) w) (ad : Option Addr) (n c : Nat) (f : Nat → Nat → Value) (b off : Nat) (w : World) (hr : Rw w ad n 1 f b off)
    (hp : ∀ W i, i < n → Below w.heap.size w W → Calls Tryz.prog g (#[f i 0] ++ lb) W fun e w' => e = .returned (.bool (p i)) ∧ Below W.heap.size W w') :
    Calls Tryz.prog 102 #[.slice ad n c, .func (.func g) #[] lb] w fun e w' => e = .returned (.bool (anyP p n)) ∧ Below w.heap.size w w' := by
  have HC := Lib.hid (idx_St p g lb eg ad n c f b off w hr hp)
  clear hr hp eg
  rw [← anyP_idx]
  generalize idxP p n = z at *
  go_enter Tryz.func102, Tryz.ntmps102
  go_wp2_with (go_at_call 167; refine HC.out.mono ?_; rintro e w' ⟨rfl, hb'⟩)
  go_ret
  exact ⟨rfl, hb'⟩
set_option maxRecDepth 20000 in
set_option maxHeartbeats 4000000 in
theorem nwords_any (s : ByteArray) (w : World) (hs : s.size ≤ 200000) : Calls Tryz.prog 103 #[.string s] w fun e w' => e = .returned (.bool (!wokB s)) ∧ Below w.heap.size w w' := by
  have HP := Lib.hid (fun W => isword_any s.data.toList (by rw [ba_len]; exact hs) W)
  have HO : Hid (isWordV s.data.toList = wokB s) := rfl
  rw [Hid, HO.out, show bs s.data.toList = s from rfl] at HP
  have HP := Lib.hid HP
  clear hs HO
  generalize wokB s = q at *
  go_enter Tryz.func103, Tryz.ntmps103
  go_wp2_with (go_at_call 104; refine (HP.out _).mono ?_; rintro e w' ⟨rfl, hb⟩)
  go_ret
  exact ⟨by cases q <;> rfl, hb⟩
theorem pwords_any (v : Value) (l : List ByteArray) (w : World) (h : RowsOf 1 OneS w v l) (hz : ∀ s ∈ l, s.size ≤ 200000) : Calls Tryz.prog 45 #[v] w fun e w' => e = .returned (.bool (okWs l)) ∧ Below w.heap.size w w' := by
  obtain ⟨ad, c, f, b, off, rfl, hr, _, _, _, hf⟩ := h.opn
  have HC := cont_St (fun i => !wokB (l.getD i .empty)) 103 #[] (enters_of Tryz.func103 (by kernel_rfl) rfl) ad l.length c f b off w hr (fun W i hi hb => by
    obtain ⟨h1, _⟩ := hf i hi
    rw [h1]
    have h2 : l.getD i .empty = l[i] := by rw [List.getD_eq_getElem?_getD, List.getElem?_eq_getElem hi]; rfl
    rw [h2]
    exact nwords_any l[i] W (hz _ (List.getElem_mem hi)))
  rw [anyP_list (fun s => !wokB s), all_any] at HC
  have HC := Lib.hid HC
  have HO : Hid (okWs l = l.all wokB) := rfl
  rw [HO.out]
  clear hr hf hz HO
  generalize l.all wokB = q at *
  generalize l.length = n at *
  go_enter Tryz.func45, Tryz.ntmps45
  go_wp2_with (refine HC.out.mono ?_; rintro e w' ⟨rfl, hb⟩)
  go_ret
  exact ⟨by cases q <;> rfl, hb⟩
set_option maxRecDepth 20000 in
set_option maxHeartbeats 4000000 in
theorem ntexts_any (s : ByteArray) (w : World) (hs : s.size ≤ 200000) (hU : TabU w) : Calls Tryz.prog 145 #[.string s] w fun e w' => e = .returned (.bool (!xokB s)) ∧ Below w.heap.size w w' := by
  have HP := Lib.hid (fun W (hb : Below w.heap.size w W) => istext_any s.data.toList (by rw [ba_len]; exact hs) W (hU.below hb))
  have HO : Hid (isTextV s.data.toList = xokB s) := rfl
  rw [Hid, HO.out, show bs s.data.toList = s from rfl] at HP
  have HP := Lib.hid HP
  clear hs hU HO
  generalize xokB s = q at *
  go_enter Tryz.func145, Tryz.ntmps145
  go_wp2_with (go_at_call 146; refine (HP.out _ (Below.refl _ _)).mono ?_; rintro e w' ⟨rfl, hb⟩)
  go_ret
  exact ⟨by cases q <;> rfl, hb⟩
theorem ptexts_any (v : Value) (l : List ByteArray) (w : World) (h : RowsOf 1 OneS w v l) (hz : ∀ s ∈ l, s.size ≤ 200000) (hU : TabU w) : Calls Tryz.prog 96 #[v] w fun e w' => e = .returned (.bool (okXs l)) ∧ Below w.heap.size w w' := by
  obtain ⟨ad, c, f, b, off, rfl, hr, _, _, _, hf⟩ := h.opn
  have HC := cont_St (fun i => !xokB (l.getD i .empty)) 145 #[] (enters_of Tryz.func145 (by kernel_rfl) rfl) ad l.length c f b off w hr (fun W i hi hb => by
    obtain ⟨h1, _⟩ := hf i hi
    rw [h1]
    have h2 : l.getD i .empty = l[i] := by rw [List.getD_eq_getElem?_getD, List.getElem?_eq_getElem hi]; rfl
    rw [h2]
    exact ntexts_any l[i] W (hz _ (List.getElem_mem hi)) (hU.below hb))
  rw [anyP_list (fun s => !xokB s), all_any] at HC
  have HC := Lib.hid HC
  have HO : Hid (okXs l = l.all xokB) := rfl
  rw [HO.out]
  clear hr hf hz hU HO
  generalize l.all xokB = q at *
  generalize l.length = n at *
  go_enter Tryz.func96, Tryz.ntmps96
  go_wp2_with (refine HC.out.mono ?_; rintro e w' ⟨rfl, hb⟩)
  go_ret
  exact ⟨by cases q <;> rfl, hb⟩
set_option maxRecDepth 20000 in
set_option maxHeartbeats 4000000 in
theorem nevery_Rule (p : Bool) (g : Nat) (eg : ∀ args w, (callFunc g args).run Tryz.prog w = .ok (.enter g args) w) (x0 x1 : Value) (fb : Nat) (w : World) (hk : Cel w fb 189 [.func (.func g) #[] #[]])
    (hp : ∀ W, Below w.heap.size w W → Calls Tryz.prog g #[.agg #[x0, x1]] W fun e w' => e = .returned (.bool p) ∧ Below W.heap.size W w') :
    Calls Tryz.prog 199 #[.agg #[x0, x1], .pointer (some ⟨fb, 0, none⟩)] w fun e w' => e = .returned (.bool (!p)) ∧ Below w.heap.size w w' := by
  have HP := Lib.hid hp
  have c0 := hk.cell 0
  simp only [List.getElem?_cons_zero] at c0
  have hlk := hk.lt
  clear hk hp
  go_enter Tryz.func199, Tryz.ntmps199
  go_wp2_with (go_at_fn g; refine (HP.out _ (by first | exact Below.refl _ _ | exact (Below.refl _ _).alloc (Nat.le_refl _) _)).mono ?_; rintro e w' ⟨rfl, hb⟩)
  go_ret
  exact ⟨by cases p <;> rfl, by first | exact hb | exact ((Below.refl _ _).alloc (Nat.le_refl _) _).trans (hb.mono (by simp))⟩
theorem every_Rule (p : Nat → Bool) (g : Nat) (eg : ∀ args w, (callFunc g args).run Tryz.prog w = .ok (.enter g args) w) (ad : Option Addr) (n c : Nat) (f : Nat → Nat → Value) (b off : Nat) (w : World) (hr : Rw w ad n 2 f b off)
    (hp : ∀ W i, i < n → Below w.heap.size w W → Calls Tryz.prog g #[.agg #[f i 0, f i 1]] W fun e w' => e = .returned (.bool (p i)) ∧ Below W.heap.size W w') :
    Calls Tryz.prog 149 #[.slice ad n c, .func (.func g) #[] #[]] w fun e w' => e = .returned (.bool (!anyP (fun i => !p i) n)) ∧ Below w.heap.size w w' := by
  have hmf : ∀ (fn : Fn) (first cap : Array Value) (w : World), (Instr.makeFunc fn first cap).run Tryz.prog w = .ok (.func fn first cap) w := fun _ _ _ _ => rfl
  have HC : Hid (∀ W fb, Below w.heap.size w W → Cel W fb 189 [.func (.func g) #[] #[]] → Calls Tryz.prog 198 #[.slice ad n c, .func (.func 199) #[] #[.pointer (some ⟨fb, 0, none⟩)]] W fun e w' => e = .returned (.bool (anyP (fun i => !p i) n)) ∧ Below W.heap.size W w') := by
    intro W fb hb hfb
    refine cont_Rule _ 199 _ (enters_of Tryz.func199 (by kernel_rfl) rfl) ad n c f b off W (hr.below hb) (fun V i hi hV => ?_)
    exact nevery_Rule (p i) g eg _ _ fb V (hfb.below (hV.mono (by omega))) (fun U hU => hp U i hi (hb.trans ((hV.trans (hU.mono hV.size)).mono hb.size)))
  clear hr hp
  generalize anyP (fun i => !p i) n = q at *
  have HN := Lib.hid (Cel.new w [.func (.func g) #[] #[]] 189)
  have HB0 : Hid (Below w.heap.size w (w.alloc (.cells #[.func (.func g) #[] #[]] 189))) := (Below.refl _ _).alloc (Nat.le_refl _) _
  go_enter Tryz.func149, Tryz.ntmps149
  go_wp2_with (refine (HC.out _ w.heap.size HB0.out HN.out).mono ?_; rintro e w' ⟨rfl, hb⟩)
  go_ret
  exact ⟨rfl, HB0.out.trans (hb.mono HB0.out.size)⟩
set_option maxRecDepth 20000 in
set_option maxHeartbeats 4000000 in
theorem nevery_lp (p : Bool) (g : Nat) (eg : ∀ args w, (callFunc g args).run Tryz.prog w = .ok (.enter g args) w) (x0 x1 x2 x3 x4 : Value) (fb : Nat) (w : World) (hk : Cel w fb 198 [.func (.func g) #[] #[]])
    (hp : ∀ W, Below w.heap.size w W → Calls Tryz.prog g #[.agg #[x0, x1, x2, x3, x4]] W fun e w' => e = .returned (.bool p) ∧ Below W.heap.size W w') :
    Calls Tryz.prog 204 #[.agg #[x0, x1, x2, x3, x4], .pointer (some ⟨fb, 0, none⟩)] w fun e w' => e = .returned (.bool (!p)) ∧ Below w.heap.size w w' := by
  have HP := Lib.hid hp
  have c0 := hk.cell 0
  simp only [List.getElem?_cons_zero] at c0
  have hlk := hk.lt
  clear hk hp
  go_enter Tryz.func204, Tryz.ntmps204
  go_wp2_with (go_at_fn g; refine (HP.out _ (by first | exact Below.refl _ _ | exact (Below.refl _ _).alloc (Nat.le_refl _) _)).mono ?_; rintro e w' ⟨rfl, hb⟩)
  go_ret
  exact ⟨by cases p <;> rfl, by first | exact hb | exact ((Below.refl _ _).alloc (Nat.le_refl _) _).trans (hb.mono (by simp))⟩
theorem every_lp (p : Nat → Bool) (g : Nat) (eg : ∀ args w, (callFunc g args).run Tryz.prog w = .ok (.enter g args) w) (ad : Option Addr) (n c : Nat) (f : Nat → Nat → Value) (b off : Nat) (w : World) (hr : Rw w ad n 5 f b off)
    (hp : ∀ W i, i < n → Below w.heap.size w W → Calls Tryz.prog g #[.agg #[f i 0, f i 1, f i 2, f i 3, f i 4]] W fun e w' => e = .returned (.bool (p i)) ∧ Below W.heap.size W w') :
    Calls Tryz.prog 159 #[.slice ad n c, .func (.func g) #[] #[]] w fun e w' => e = .returned (.bool (!anyP (fun i => !p i) n)) ∧ Below w.heap.size w w' := by
  have hmf : ∀ (fn : Fn) (first cap : Array Value) (w : World), (Instr.makeFunc fn first cap).run Tryz.prog w = .ok (.func fn first cap) w := fun _ _ _ _ => rfl
  have HC : Hid (∀ W fb, Below w.heap.size w W → Cel W fb 198 [.func (.func g) #[] #[]] → Calls Tryz.prog 203 #[.slice ad n c, .func (.func 204) #[] #[.pointer (some ⟨fb, 0, none⟩)]] W fun e w' => e = .returned (.bool (anyP (fun i => !p i) n)) ∧ Below W.heap.size W w') := by
    intro W fb hb hfb
    refine cont_lp _ 204 _ (enters_of Tryz.func204 (by kernel_rfl) rfl) ad n c f b off W (hr.below hb) (fun V i hi hV => ?_)
    exact nevery_lp (p i) g eg _ _ _ _ _ fb V (hfb.below (hV.mono (by omega))) (fun U hU => hp U i hi (hb.trans ((hV.trans (hU.mono hV.size)).mono hb.size)))
  clear hr hp
  generalize anyP (fun i => !p i) n = q at *
  have HN := Lib.hid (Cel.new w [.func (.func g) #[] #[]] 198)
  have HB0 : Hid (Below w.heap.size w (w.alloc (.cells #[.func (.func g) #[] #[]] 198))) := (Below.refl _ _).alloc (Nat.le_refl _) _
  go_enter Tryz.func159, Tryz.ntmps159
  go_wp2_with (refine (HC.out _ w.heap.size HB0.out HN.out).mono ?_; rintro e w' ⟨rfl, hb⟩)
  go_ret
  exact ⟨rfl, HB0.out.trans (hb.mono HB0.out.size)⟩
set_option maxRecDepth 20000 in
set_option maxHeartbeats 4000000 in
theorem nevery_up (p : Bool) (g : Nat) (eg : ∀ args w, (callFunc g args).run Tryz.prog w = .ok (.enter g args) w) (x0 x1 x2 : Value) (fb : Nat) (w : World) (hk : Cel w fb 200 [.func (.func g) #[] #[]])
    (hp : ∀ W, Below w.heap.size w W → Calls Tryz.prog g #[.agg #[x0, x1, x2]] W fun e w' => e = .returned (.bool p) ∧ Below W.heap.size W w') :
    Calls Tryz.prog 206 #[.agg #[x0, x1, x2], .pointer (some ⟨fb, 0, none⟩)] w fun e w' => e = .returned (.bool (!p)) ∧ Below w.heap.size w w' := by
  have HP := Lib.hid hp
  have c0 := hk.cell 0
  simp only [List.getElem?_cons_zero] at c0
  have hlk := hk.lt
  clear hk hp
  go_enter Tryz.func206, Tryz.ntmps206
  go_wp2_with (go_at_fn g; refine (HP.out _ (by first | exact Below.refl _ _ | exact (Below.refl _ _).alloc (Nat.le_refl _) _)).mono ?_; rintro e w' ⟨rfl, hb⟩)
  go_ret
  exact ⟨by cases p <;> rfl, by first | exact hb | exact ((Below.refl _ _).alloc (Nat.le_refl _) _).trans (hb.mono (by simp))⟩
theorem every_up (p : Nat → Bool) (g : Nat) (eg : ∀ args w, (callFunc g args).run Tryz.prog w = .ok (.enter g args) w) (ad : Option Addr) (n c : Nat) (f : Nat → Nat → Value) (b off : Nat) (w : World) (hr : Rw w ad n 3 f b off)
    (hp : ∀ W i, i < n → Below w.heap.size w W → Calls Tryz.prog g #[.agg #[f i 0, f i 1, f i 2]] W fun e w' => e = .returned (.bool (p i)) ∧ Below W.heap.size W w') :
    Calls Tryz.prog 161 #[.slice ad n c, .func (.func g) #[] #[]] w fun e w' => e = .returned (.bool (!anyP (fun i => !p i) n)) ∧ Below w.heap.size w w' := by
  have hmf : ∀ (fn : Fn) (first cap : Array Value) (w : World), (Instr.makeFunc fn first cap).run Tryz.prog w = .ok (.func fn first cap) w := fun _ _ _ _ => rfl
  have HC : Hid (∀ W fb, Below w.heap.size w W → Cel W fb 200 [.func (.func g) #[] #[]] → Calls Tryz.prog 205 #[.slice ad n c, .func (.func 206) #[] #[.pointer (some ⟨fb, 0, none⟩)]] W fun e w' => e = .returned (.bool (anyP (fun i => !p i) n)) ∧ Below W.heap.size W w') := by
    intro W fb hb hfb
    refine cont_up _ 206 _ (enters_of Tryz.func206 (by kernel_rfl) rfl) ad n c f b off W (hr.below hb) (fun V i hi hV => ?_)
    exact nevery_up (p i) g eg _ _ _ fb V (hfb.below (hV.mono (by omega))) (fun U hU => hp U i hi (hb.trans ((hV.trans (hU.mono hV.size)).mono hb.size)))
  clear hr hp
  generalize anyP (fun i => !p i) n = q at *
  have HN := Lib.hid (Cel.new w [.func (.func g) #[] #[]] 200)
  have HB0 : Hid (Below w.heap.size w (w.alloc (.cells #[.func (.func g) #[] #[]] 200))) := (Below.refl _ _).alloc (Nat.le_refl _) _
  go_enter Tryz.func161, Tryz.ntmps161
  go_wp2_with (refine (HC.out _ w.heap.size HB0.out HN.out).mono ?_; rintro e w' ⟨rfl, hb⟩)
  go_ret
  exact ⟨rfl, HB0.out.trans (hb.mono HB0.out.size)⟩
set_option maxRecDepth 20000 in
set_option maxHeartbeats 4000000 in
theorem nevery_dp (p : Bool) (g : Nat) (eg : ∀ args w, (callFunc g args).run Tryz.prog w = .ok (.enter g args) w) (x0 x1 : Value) (fb : Nat) (w : World) (hk : Cel w fb 202 [.func (.func g) #[] #[]])
    (hp : ∀ W, Below w.heap.size w W → Calls Tryz.prog g #[.agg #[x0, x1]] W fun e w' => e = .returned (.bool p) ∧ Below W.heap.size W w') :
    Calls Tryz.prog 208 #[.agg #[x0, x1], .pointer (some ⟨fb, 0, none⟩)] w fun e w' => e = .returned (.bool (!p)) ∧ Below w.heap.size w w' := by
  have HP := Lib.hid hp
  have c0 := hk.cell 0
  simp only [List.getElem?_cons_zero] at c0
  have hlk := hk.lt
  clear hk hp
  go_enter Tryz.func208, Tryz.ntmps208
  go_wp2_with (go_at_fn g; refine (HP.out _ (by first | exact Below.refl _ _ | exact (Below.refl _ _).alloc (Nat.le_refl _) _)).mono ?_; rintro e w' ⟨rfl, hb⟩)
  go_ret
  exact ⟨by cases p <;> rfl, by first | exact hb | exact ((Below.refl _ _).alloc (Nat.le_refl _) _).trans (hb.mono (by simp))⟩
theorem every_dp (p : Nat → Bool) (g : Nat) (eg : ∀ args w, (callFunc g args).run Tryz.prog w = .ok (.enter g args) w) (ad : Option Addr) (n c : Nat) (f : Nat → Nat → Value) (b off : Nat) (w : World) (hr : Rw w ad n 2 f b off)
    (hp : ∀ W i, i < n → Below w.heap.size w W → Calls Tryz.prog g #[.agg #[f i 0, f i 1]] W fun e w' => e = .returned (.bool (p i)) ∧ Below W.heap.size W w') :
    Calls Tryz.prog 164 #[.slice ad n c, .func (.func g) #[] #[]] w fun e w' => e = .returned (.bool (!anyP (fun i => !p i) n)) ∧ Below w.heap.size w w' := by
  have hmf : ∀ (fn : Fn) (first cap : Array Value) (w : World), (Instr.makeFunc fn first cap).run Tryz.prog w = .ok (.func fn first cap) w := fun _ _ _ _ => rfl
  have HC : Hid (∀ W fb, Below w.heap.size w W → Cel W fb 202 [.func (.func g) #[] #[]] → Calls Tryz.prog 207 #[.slice ad n c, .func (.func 208) #[] #[.pointer (some ⟨fb, 0, none⟩)]] W fun e w' => e = .returned (.bool (anyP (fun i => !p i) n)) ∧ Below W.heap.size W w') := by
    intro W fb hb hfb
    refine cont_dp _ 208 _ (enters_of Tryz.func208 (by kernel_rfl) rfl) ad n c f b off W (hr.below hb) (fun V i hi hV => ?_)
    exact nevery_dp (p i) g eg _ _ fb V (hfb.below (hV.mono (by omega))) (fun U hU => hp U i hi (hb.trans ((hV.trans (hU.mono hV.size)).mono hb.size)))
  clear hr hp
  generalize anyP (fun i => !p i) n = q at *
  have HN := Lib.hid (Cel.new w [.func (.func g) #[] #[]] 202)
  have HB0 : Hid (Below w.heap.size w (w.alloc (.cells #[.func (.func g) #[] #[]] 202))) := (Below.refl _ _).alloc (Nat.le_refl _) _
  go_enter Tryz.func164, Tryz.ntmps164
  go_wp2_with (refine (HC.out _ w.heap.size HB0.out HN.out).mono ?_; rintro e w' ⟨rfl, hb⟩)
  go_ret
  exact ⟨rfl, HB0.out.trans (hb.mono HB0.out.size)⟩
set_option maxRecDepth 20000 in
set_option maxHeartbeats 4000000 in
theorem nevery_lc (p : Bool) (g : Nat) (eg : ∀ args w, (callFunc g args).run Tryz.prog w = .ok (.enter g args) w) (x0 x1 x2 x3 x4 x5 x6 x7 x8 x9 x10 x11 x12 x13 x14 x15 : Value) (fb : Nat) (w : World) (hk : Cel w fb 89 [.func (.func g) #[] #[]])
    (hp : ∀ W, Below w.heap.size w W → Calls Tryz.prog g #[.agg #[x0, x1, x2, x3, x4, x5, x6, x7, x8, x9, x10, x11, x12, x13, x14, x15]] W fun e w' => e = .returned (.bool p) ∧ Below W.heap.size W w') :
    Calls Tryz.prog 94 #[.agg #[x0, x1, x2, x3, x4, x5, x6, x7, x8, x9, x10, x11, x12, x13, x14, x15], .pointer (some ⟨fb, 0, none⟩)] w fun e w' => e = .returned (.bool (!p)) ∧ Below w.heap.size w w' := by
  have HP := Lib.hid hp
  have c0 := hk.cell 0
  simp only [List.getElem?_cons_zero] at c0
  have hlk := hk.lt
  clear hk hp
  go_enter Tryz.func94, Tryz.ntmps94
  go_wp2_with (go_at_fn g; refine (HP.out _ (by first | exact Below.refl _ _ | exact (Below.refl _ _).alloc (Nat.le_refl _) _)).mono ?_; rintro e w' ⟨rfl, hb⟩)
  go_ret
  exact ⟨by cases p <;> rfl, by first | exact hb | exact ((Below.refl _ _).alloc (Nat.le_refl _) _).trans (hb.mono (by simp))⟩
theorem every_lc (p : Nat → Bool) (g : Nat) (eg : ∀ args w, (callFunc g args).run Tryz.prog w = .ok (.enter g args) w) (ad : Option Addr) (n c : Nat) (f : Nat → Nat → Value) (b off : Nat) (w : World) (hr : Rw w ad n 16 f b off)
    (hp : ∀ W i, i < n → Below w.heap.size w W → Calls Tryz.prog g #[.agg #[f i 0, f i 1, f i 2, f i 3, f i 4, f i 5, f i 6, f i 7, f i 8, f i 9, f i 10, f i 11, f i 12, f i 13, f i 14, f i 15]] W fun e w' => e = .returned (.bool (p i)) ∧ Below W.heap.size W w') :
    Calls Tryz.prog 41 #[.slice ad n c, .func (.func g) #[] #[]] w fun e w' => e = .returned (.bool (!anyP (fun i => !p i) n)) ∧ Below w.heap.size w w' := by
  have hmf : ∀ (fn : Fn) (first cap : Array Value) (w : World), (Instr.makeFunc fn first cap).run Tryz.prog w = .ok (.func fn first cap) w := fun _ _ _ _ => rfl
  have HC : Hid (∀ W fb, Below w.heap.size w W → Cel W fb 89 [.func (.func g) #[] #[]] → Calls Tryz.prog 93 #[.slice ad n c, .func (.func 94) #[] #[.pointer (some ⟨fb, 0, none⟩)]] W fun e w' => e = .returned (.bool (anyP (fun i => !p i) n)) ∧ Below W.heap.size W w') := by
    intro W fb hb hfb
    refine cont_lc _ 94 _ (enters_of Tryz.func94 (by kernel_rfl) rfl) ad n c f b off W (hr.below hb) (fun V i hi hV => ?_)
    exact nevery_lc (p i) g eg _ _ _ _ _ _ _ _ _ _ _ _ _ _ _ _ fb V (hfb.below (hV.mono (by omega))) (fun U hU => hp U i hi (hb.trans ((hV.trans (hU.mono hV.size)).mono hb.size)))
  clear hr hp
  generalize anyP (fun i => !p i) n = q at *
  have HN := Lib.hid (Cel.new w [.func (.func g) #[] #[]] 89)
  have HB0 : Hid (Below w.heap.size w (w.alloc (.cells #[.func (.func g) #[] #[]] 89))) := (Below.refl _ _).alloc (Nat.le_refl _) _
  go_enter Tryz.func41, Tryz.ntmps41
  go_wp2_with (refine (HC.out _ w.heap.size HB0.out HN.out).mono ?_; rintro e w' ⟨rfl, hb⟩)
  go_ret
  exact ⟨rfl, HB0.out.trans (hb.mono HB0.out.size)⟩
set_option maxRecDepth 20000 in
set_option maxHeartbeats 4000000 in
theorem nevery_al (p : Bool) (g : Nat) (eg : ∀ args w, (callFunc g args).run Tryz.prog w = .ok (.enter g args) w) (x0 x1 : Value) (fb : Nat) (w : World) (hk : Cel w fb 98 [.func (.func g) #[] #[]])
    (hp : ∀ W, Below w.heap.size w W → Calls Tryz.prog g #[.agg #[x0, x1]] W fun e w' => e = .returned (.bool p) ∧ Below W.heap.size W w') :
    Calls Tryz.prog 101 #[.agg #[x0, x1], .pointer (some ⟨fb, 0, none⟩)] w fun e w' => e = .returned (.bool (!p)) ∧ Below w.heap.size w w' := by
  have HP := Lib.hid hp
  have c0 := hk.cell 0
  simp only [List.getElem?_cons_zero] at c0
  have hlk := hk.lt
  clear hk hp
  go_enter Tryz.func101, Tryz.ntmps101
  go_wp2_with (go_at_fn g; refine (HP.out _ (by first | exact Below.refl _ _ | exact (Below.refl _ _).alloc (Nat.le_refl _) _)).mono ?_; rintro e w' ⟨rfl, hb⟩)
  go_ret
  exact ⟨by cases p <;> rfl, by first | exact hb | exact ((Below.refl _ _).alloc (Nat.le_refl _) _).trans (hb.mono (by simp))⟩
theorem every_al (p : Nat → Bool) (g : Nat) (eg : ∀ args w, (callFunc g args).run Tryz.prog w = .ok (.enter g args) w) (ad : Option Addr) (n c : Nat) (f : Nat → Nat → Value) (b off : Nat) (w : World) (hr : Rw w ad n 2 f b off)
    (hp : ∀ W i, i < n → Below w.heap.size w W → Calls Tryz.prog g #[.agg #[f i 0, f i 1]] W fun e w' => e = .returned (.bool (p i)) ∧ Below W.heap.size W w') :
    Calls Tryz.prog 43 #[.slice ad n c, .func (.func g) #[] #[]] w fun e w' => e = .returned (.bool (!anyP (fun i => !p i) n)) ∧ Below w.heap.size w w' := by
  have hmf : ∀ (fn : Fn) (first cap : Array Value) (w : World), (Instr.makeFunc fn first cap).run Tryz.prog w = .ok (.func fn first cap) w := fun _ _ _ _ => rfl
  have HC : Hid (∀ W fb, Below w.heap.size w W → Cel W fb 98 [.func (.func g) #[] #[]] → Calls Tryz.prog 100 #[.slice ad n c, .func (.func 101) #[] #[.pointer (some ⟨fb, 0, none⟩)]] W fun e w' => e = .returned (.bool (anyP (fun i => !p i) n)) ∧ Below W.heap.size W w') := by
    intro W fb hb hfb
    refine cont_al _ 101 _ (enters_of Tryz.func101 (by kernel_rfl) rfl) ad n c f b off W (hr.below hb) (fun V i hi hV => ?_)
    exact nevery_al (p i) g eg _ _ fb V (hfb.below (hV.mono (by omega))) (fun U hU => hp U i hi (hb.trans ((hV.trans (hU.mono hV.size)).mono hb.size)))
  clear hr hp
  generalize anyP (fun i => !p i) n = q at *
  have HN := Lib.hid (Cel.new w [.func (.func g) #[] #[]] 98)
  have HB0 : Hid (Below w.heap.size w (w.alloc (.cells #[.func (.func g) #[] #[]] 98))) := (Below.refl _ _).alloc (Nat.le_refl _) _
  go_enter Tryz.func43, Tryz.ntmps43
  go_wp2_with (refine (HC.out _ w.heap.size HB0.out HN.out).mono ?_; rintro e w' ⟨rfl, hb⟩)
  go_ret
  exact ⟨rfl, HB0.out.trans (hb.mono HB0.out.size)⟩
set_option maxRecDepth 20000 in
set_option maxHeartbeats 4000000 in
theorem nevery_ne (p : Bool) (g : Nat) (eg : ∀ args w, (callFunc g args).run Tryz.prog w = .ok (.enter g args) w) (x0 x1 x2 : Value) (fb : Nat) (w : World) (hk : Cel w fb 100 [.func (.func g) #[] #[]])
    (hp : ∀ W, Below w.heap.size w W → Calls Tryz.prog g #[.agg #[x0, x1, x2]] W fun e w' => e = .returned (.bool p) ∧ Below W.heap.size W w') :
    Calls Tryz.prog 106 #[.agg #[x0, x1, x2], .pointer (some ⟨fb, 0, none⟩)] w fun e w' => e = .returned (.bool (!p)) ∧ Below w.heap.size w w' := by
  have HP := Lib.hid hp
  have c0 := hk.cell 0
  simp only [List.getElem?_cons_zero] at c0
  have hlk := hk.lt
  clear hk hp
  go_enter Tryz.func106, Tryz.ntmps106
  go_wp2_with (go_at_fn g; refine (HP.out _ (by first | exact Below.refl _ _ | exact (Below.refl _ _).alloc (Nat.le_refl _) _)).mono ?_; rintro e w' ⟨rfl, hb⟩)
  go_ret
  exact ⟨by cases p <;> rfl, by first | exact hb | exact ((Below.refl _ _).alloc (Nat.le_refl _) _).trans (hb.mono (by simp))⟩
theorem every_ne (p : Nat → Bool) (g : Nat) (eg : ∀ args w, (callFunc g args).run Tryz.prog w = .ok (.enter g args) w) (ad : Option Addr) (n c : Nat) (f : Nat → Nat → Value) (b off : Nat) (w : World) (hr : Rw w ad n 3 f b off)
    (hp : ∀ W i, i < n → Below w.heap.size w W → Calls Tryz.prog g #[.agg #[f i 0, f i 1, f i 2]] W fun e w' => e = .returned (.bool (p i)) ∧ Below W.heap.size W w') :
    Calls Tryz.prog 46 #[.slice ad n c, .func (.func g) #[] #[]] w fun e w' => e = .returned (.bool (!anyP (fun i => !p i) n)) ∧ Below w.heap.size w w' := by
  have hmf : ∀ (fn : Fn) (first cap : Array Value) (w : World), (Instr.makeFunc fn first cap).run Tryz.prog w = .ok (.func fn first cap) w := fun _ _ _ _ => rfl
  have HC : Hid (∀ W fb, Below w.heap.size w W → Cel W fb 100 [.func (.func g) #[] #[]] → Calls Tryz.prog 105 #[.slice ad n c, .func (.func 106) #[] #[.pointer (some ⟨fb, 0, none⟩)]] W fun e w' => e = .returned (.bool (anyP (fun i => !p i) n)) ∧ Below W.heap.size W w') := by
    intro W fb hb hfb
    refine cont_ne _ 106 _ (enters_of Tryz.func106 (by kernel_rfl) rfl) ad n c f b off W (hr.below hb) (fun V i hi hV => ?_)
    exact nevery_ne (p i) g eg _ _ _ fb V (hfb.below (hV.mono (by omega))) (fun U hU => hp U i hi (hb.trans ((hV.trans (hU.mono hV.size)).mono hb.size)))
  clear hr hp
  generalize anyP (fun i => !p i) n = q at *
  have HN := Lib.hid (Cel.new w [.func (.func g) #[] #[]] 100)
  have HB0 : Hid (Below w.heap.size w (w.alloc (.cells #[.func (.func g) #[] #[]] 100))) := (Below.refl _ _).alloc (Nat.le_refl _) _
  go_enter Tryz.func46, Tryz.ntmps46
  go_wp2_with (refine (HC.out _ w.heap.size HB0.out HN.out).mono ?_; rintro e w' ⟨rfl, hb⟩)
  go_ret
  exact ⟨rfl, HB0.out.trans (hb.mono HB0.out.size)⟩
end Go.Proofs.YtmleeodfmmpdgaaGreatDoor
