/- Walks: Number of both. -/
import Derived.Test.YtmleeodfmmpdgaaGreatDoorQ17
import Derived.Test.YtmleeodfmmpdgaaGreatDoorQ18
import Derived.Deep.QuietTactic
import Derived.BigQuiet
import Derived.Test.YtmleeodfmmpdgaaGreatDoorQ15
import Derived.Test.YtmleeodfmmpdgaaGreatDoorQ00
import Derived.Deep.RegionHeld3
import Derived.Laws.AppendOwn
import Derived.Laws.AppendOwnNone
import Derived.Deep.AppendLies
import Derived.Shelf.Strings.Search3
namespace Go.Proofs.YtmleeodfmmpdgaaGreatDoor
open Go.RowKit
attribute [local go_sem] Ext.cell Ext.frozen
attribute [local go_sem ↓] Go.wp_at_zero Go.wp_at_succ
def digL : List UInt8 := [48, 49, 50, 51, 52, 53, 54, 55, 56, 57]
def digLen (l : List UInt8) : Nat := (l.takeWhile (digL.contains ·)).length
theorem digLen_le (l : List UInt8) : digLen l ≤ l.length := (List.takeWhile_prefix _).length_le
theorem rundig_any (l : List UInt8) (hl : l.length ≤ 200000) (w : World) : Calls Tryz.prog 168 #[.string (bs l), .string (bs digL)] w fun e w' => e = .returned (.int .i64 (digLen l : Int)) ∧ Below w.heap.size w w' := by
  have HTR : Hid (∀ w, Calls Tryz.prog 209 #[.string (bs l), .string (bs digL)] w fun e w' => ∃ T : ByteArray, e = .returned (.string T) ∧ (T.size : Int) = (l.length : Int) - (digLen l : Int) ∧ Below w.heap.size w w') := fun w => by
    refine (Any.strings_TrimLeft_laid Tryz.lays161 (by kernel_rfl) (bs l) (bs digL) w (by decide) (fun j b h => ?_)).mono ?_
    · have hm : b ∈ digL := List.mem_of_getElem? h
      have k : ∀ b ∈ digL, b.toNat < 128 := by decide
      exact k b hm
    · rintro e w' ⟨rfl, hb⟩
      refine ⟨_, rfl, ?_, hb⟩
      rw [bs_data, bs_data]
      show ((Lib.trimLeftS l digL).toArray.size : Int) = _
      rw [List.size_toArray]
      unfold Lib.trimLeftS
      rw [drop_len]
      have := digLen_le l
      unfold digLen at this ⊢
      omega
  have hsz : (bs l).size = l.length := bs_size l
  have hle : (bs l).size ≤ 200000 := by omega
  have hwl := digLen_le l
  have HS := Lib.hid hsz
  generalize hW : digLen l = W at *
  generalize bs l = S at *
  generalize bs digL = I at *
  clear hsz hW
  go_enter Tryz.func168, Tryz.ntmps168
  go_wp2_with fail
  refine (HTR.out _).mono ?_
  rintro e w2 ⟨T, rfl, hT, hb⟩
  have HB := Lib.hid hb
  have HT : Hid ((S.size : Int) - (T.size : Int) = (W : Int)) := by unfold Hid; rw [hT, HS.out]; omega
  have hts : T.size ≤ 200000 := by omega
  clear hT hb
  go_wp2_with fail
  go_ret
  exact ⟨by rw [← HT.out]; rfl, HB.out⟩
theorem dig_mem (c : UInt8) : c ∈ digL ↔ Lib.digitVal c ≠ none := by
  have h : ∀ n : Fin 256, (UInt8.ofNat n.val ∈ digL ↔ Lib.digitVal (UInt8.ofNat n.val) ≠ none) := by decide +kernel
  have := h ⟨c.toNat, c.toNat_lt⟩
  simpa using this
theorem dig_all : ∀ (l : List UInt8) (acc : Nat), digLen l = l.length ↔ Lib.decFrom acc l ≠ none
  | [], acc => ⟨fun _ h => (by cases h), fun _ => rfl⟩
  | c :: l, acc => by
    have hm := dig_mem c
    unfold digLen Lib.decFrom
    rw [List.takeWhile_cons]
    by_cases h : c ∈ digL
    · rw [if_pos (by simpa using h)]
      obtain ⟨d, hd⟩ := Option.ne_none_iff_exists'.1 (hm.1 h)
      rw [hd]
      have ih := dig_all l (acc * 10 + d)
      unfold digLen at ih
      rw [← ih, List.length_cons, List.length_cons]
      omega
    · rw [if_neg (by simpa using h)]
      have hd : Lib.digitVal c = none := Classical.byContradiction fun e => h (hm.2 e)
      rw [hd]
      exact ⟨fun e => by simp at e, fun e => absurd rfl e⟩
def numOk (l : List UInt8) : Bool := decide (1 ≤ l.length) && decide (l.length ≤ 6) && decide (Lib.decFrom 0 l ≠ none) && !(decide (1 < l.length) && decide (l.getD 0 0 = 48))
def numW (l : List UInt8) : Nat × Bool := if numOk l then ((Lib.decFrom 0 l).getD 0, true) else (0, false)
def numE (l : List UInt8) : Ending := .returned (.tuple #[.int .i64 ((numW l).1 : Int), .bool (numW l).2])
theorem numW_no {l : List UInt8} (h : numOk l = false) : numW l = (0, false) := by unfold numW; rw [h]; rfl
theorem numW_yes {l : List UInt8} {n : Nat} (h1 : 1 ≤ l.length) (h6 : l.length ≤ 6) (hd : Lib.decFrom 0 l = some n) (hz : ¬ (1 < l.length ∧ l.getD 0 0 = 48)) : numW l = (n, true) := by
  unfold numW numOk
  rw [hd, decide_eq_true h1, decide_eq_true h6]
  rw [show (decide (1 < l.length) && decide (l.getD 0 0 = 48)) = false by rw [← Bool.decide_and]; exact decide_eq_false hz]
  rfl
theorem decFrom_lt : ∀ (l : List UInt8) (acc n : Nat), Lib.decFrom acc l = some n → n < (acc + 1) * 10 ^ l.length
  | [], acc, n, h => by
    injection h with h
    subst h
    simp
  | c :: l, acc, n, h => by
    unfold Lib.decFrom at h
    split at h
    · rename_i d hd
      have hd9 : d ≤ 9 := by
        unfold Lib.digitVal at hd
        split at hd
        · injection hd with hd; omega
        · cases hd
      have ih := decFrom_lt l _ n h
      rw [List.length_cons, Nat.pow_succ]
      have h2 : (acc * 10 + d + 1) * 10 ^ l.length ≤ ((acc + 1) * 10) * 10 ^ l.length := Nat.mul_le_mul_right _ (by omega)
      have h3 : ((acc + 1) * 10) * 10 ^ l.length = (acc + 1) * (10 ^ l.length * 10) := by rw [Nat.mul_assoc, Nat.mul_comm 10]
      omega
    · cases h
theorem decFrom_none : ∀ (l : List UInt8) (acc k : Nat) (b : UInt8), l[k]? = some b → Lib.digitVal b = none → Lib.decFrom acc l = none
  | [], acc, k, b, h, _ => by simp at h
  | c :: l, acc, 0, b, h, hb => by
    simp at h
    subst h
    unfold Lib.decFrom
    rw [hb]
  | c :: l, acc, k + 1, b, h, hb => by
    unfold Lib.decFrom
    split
    · exact decFrom_none l _ k b (by simpa using h) hb
    · rfl
theorem atoi_dig {l : List UInt8} {n : Nat} (h1 : 1 ≤ l.length) (hd : Lib.decFrom 0 l = some n) : Lib.atoi l = some (n : Int) := by
  match l, h1 with
  | c :: r, _ =>
    have hc : Lib.digitVal c ≠ none := fun e => by rw [decFrom_none (c :: r) 0 0 c rfl e] at hd; cases hd
    have hc2 := (dig_mem c).2 hc
    have k : ∀ c ∈ digL, (c == 45) = false ∧ (c == 43) = false := by decide
    obtain ⟨k1, k2⟩ := k c hc2
    show (if (c == 45) = true then (Lib.decNat r).map fun (m : Nat) => -(m : Int) else if (c == 43) = true then (Lib.decNat r).map fun (m : Nat) => (m : Int) else (Lib.decNat (c :: r)).map fun (m : Nat) => (m : Int)) = some (n : Int)
    rw [k1, k2]
    unfold Lib.decNat
    rw [hd]
    rfl
set_option maxRecDepth 20000 in
set_option maxHeartbeats 4000000 in
theorem number_any (l : List UInt8) (hl : l.length ≤ 200000) (w : World) : Calls Tryz.prog 120 #[.string (bs l)] w fun e w' => e = numE l ∧ Below w.heap.size w w' := by
  have HRN := Lib.hid (fun w => rundig_any l hl w)
  have hsz : (bs l).size = l.length := bs_size l
  have HB : Hid (Below w.heap.size w w) := Below.refl _ _
  by_cases h0 : 1 ≤ l.length
  rotate_left
  · have HR : Hid (numW l = (0, false)) := numW_no (by unfold numOk; rw [decide_eq_false h0]; rfl)
    have g0 : ((bs l).size : Int) < 1 := by omega
    generalize bs l = S at *
    clear hsz h0 HRN
    go_enter Tryz.func120, Tryz.ntmps120
    go_wp2_with fail
    exact bodyPost_ret (v := .tuple #[.int .i64 0, .bool false]) (by simp [results, Tryz.f120, go_sem]) rfl ⟨by unfold numE; rw [HR.out]; rfl, HB.out⟩
  have g0 : ¬ ((bs l).size : Int) < 1 := by omega
  by_cases h6 : l.length ≤ 6
  rotate_left
  · have HR : Hid (numW l = (0, false)) := numW_no (by unfold numOk; rw [decide_eq_false h6, Bool.and_false]; rfl)
    have g6 : 6 < ((bs l).size : Int) := by omega
    generalize bs l = S at *
    clear hsz h0 h6 HRN
    go_enter Tryz.func120, Tryz.ntmps120
    go_wp2_with fail
    exact bodyPost_ret (v := .tuple #[.int .i64 0, .bool false]) (by simp [results, Tryz.f120, go_sem]) rfl ⟨by unfold numE; rw [HR.out]; rfl, HB.out⟩
  have g6 : ¬ 6 < ((bs l).size : Int) := by omega
  by_cases hd : Lib.decFrom 0 l = none
  · have HR : Hid (numW l = (0, false)) := numW_no (by unfold numOk; rw [decide_eq_false (p := Lib.decFrom 0 l ≠ none) (fun h => h hd), Bool.and_false]; rfl)
    have hn : digLen l ≠ l.length := fun e => (dig_all l 0).1 e hd
    have m5 : (((digLen l : Nat) : Int) == ((bs l).size : Int)) = false := by rw [hsz, beq_eq_false_iff_ne]; omega
    have m6 : (((digLen l : Nat) : Int) != ((bs l).size : Int)) = true := by unfold bne; rw [m5]; rfl
    generalize digLen l = D at *
    generalize bs l = S at *
    clear hsz h0 h6 hd hn HB
    go_enter Tryz.func120, Tryz.ntmps120
    go_wp2_with fail
    refine (HRN.out _).mono ?_
    rintro e w2 ⟨rfl, hb⟩
    have HB := Lib.hid hb
    clear hb
    go_wp2_with fail
    exact bodyPost_ret (v := .tuple #[.int .i64 0, .bool false]) (by simp [results, Tryz.f120, go_sem]) rfl ⟨by unfold numE; rw [HR.out]; rfl, HB.out⟩
  obtain ⟨n, hn⟩ := Option.ne_none_iff_exists'.1 hd
  have hdl : digLen l = l.length := (dig_all l 0).2 hd
  have m5 : (((digLen l : Nat) : Int) == ((bs l).size : Int)) = true := by rw [hsz, hdl]; simp
  have m6 : (((digLen l : Nat) : Int) != ((bs l).size : Int)) = false := by unfold bne; rw [m5]; rfl
  have hps : 0 < (bs l).size := by omega
  have hat : ∀ g : 0 < (bs l).size, (bs l)[0]'g = l.getD 0 0 := fun g => ba_at l g
  have hlt := decFrom_lt l 0 n hn
  have hnb : n < 1000000 := by
    have : (10 : Nat) ^ l.length ≤ 10 ^ 6 := Nat.pow_le_pow_right (by omega) h6
    omega
  have HAT : Hid (∀ w, Calls Tryz.prog 178 #[.string (bs l)] w fun e w' => e = .returned (.tuple #[.int .i64 (n : Int), .nilIface]) ∧ Below w.heap.size w w') := fun w => by
    refine (Tryz.strconv_Atoi (bs l) n (by omega) (by rw [bs_data]; exact atoi_dig h0 hn) w).mono ?_
    rintro e w' ⟨e0, t, hw⟩
    exact ⟨e0, by rw [hw]; exact bytes_below _ _ _⟩
  by_cases h1 : 1 < l.length
  · have g1 : 1 < ((bs l).size : Int) := by omega
    by_cases h48 : l.getD 0 0 = 48
    · have HR : Hid (numW l = (0, false)) := numW_no (by unfold numOk; rw [decide_eq_true h1, decide_eq_true h48]; simp)
      rw [h48] at hat
      generalize digLen l = D at *
      generalize bs l = S at *
      clear hsz h0 h6 hd hn hdl hlt HAT h1 h48 HB
      go_enter Tryz.func120, Tryz.ntmps120
      go_wp2_with fail
      refine (HRN.out _).mono ?_
      rintro e w2 ⟨rfl, hb⟩
      have HB := Lib.hid hb
      clear hb
      go_wp2_with fail
      exact bodyPost_ret (v := .tuple #[.int .i64 0, .bool false]) (by simp [results, Tryz.f120, go_sem]) rfl ⟨by unfold numE; rw [HR.out]; rfl, HB.out⟩
    · have HR : Hid (numW l = (n, true)) := numW_yes h0 h6 hn (fun h => h48 h.2)
      have g48 : (((l.getD 0 0).toNat : Int) == 48) = false := neU h48
      generalize digLen l = D at *
      generalize l.getD 0 0 = ch at *
      generalize bs l = S at *
      clear hsz h0 h6 hd hn hdl hlt h1 h48 HB
      go_enter Tryz.func120, Tryz.ntmps120
      go_wp2_with fail
      refine (HRN.out _).mono ?_
      rintro e w2 ⟨rfl, hb⟩
      have HB := Lib.hid hb
      clear hb
      go_wp2_with fail
      refine (HAT.out _).mono ?_
      rintro e w3 ⟨rfl, hb3⟩
      have HB3 : Hid (Below w.heap.size w w3) := HB.out.trans (hb3.mono HB.out.size)
      clear hb3
      go_wp2_with fail
      go_quiet (fail)
      all_goals
        go_wp2_with fail
        exact bodyPost_ret (v := .tuple #[.int .i64 (n : Int), .bool true]) (by simp [results, Tryz.f120, go_sem]) rfl ⟨by unfold numE; rw [HR.out], HB3.out.trans ((below_drewN _ _).mono HB3.out.size)⟩
  · have g1 : ¬ 1 < ((bs l).size : Int) := by omega
    have HR : Hid (numW l = (n, true)) := numW_yes h0 h6 hn (fun h => h1 h.1)
    generalize digLen l = D at *
    generalize l.getD 0 0 = ch at *
    generalize bs l = S at *
    clear hsz h0 h6 hd hn hdl hlt h1 HB
    go_enter Tryz.func120, Tryz.ntmps120
    go_wp2_with fail
    refine (HRN.out _).mono ?_
    rintro e w2 ⟨rfl, hb⟩
    have HB := Lib.hid hb
    clear hb
    go_wp2_with fail
    refine (HAT.out _).mono ?_
    rintro e w3 ⟨rfl, hb3⟩
    have HB3 : Hid (Below w.heap.size w w3) := HB.out.trans (hb3.mono HB.out.size)
    clear hb3
    go_wp2_with fail
    go_quiet (fail)
    all_goals
      go_wp2_with fail
      exact bodyPost_ret (v := .tuple #[.int .i64 (n : Int), .bool true]) (by simp [results, Tryz.f120, go_sem]) rfl ⟨by unfold numE; rw [HR.out], HB3.out.trans ((below_drewN _ _).mono HB3.out.size)⟩
theorem Kp.setN {P : Nat → Bool} {a w : World} (h : Kp P a w) {p : Addr} (hp : a.heap.size ≤ p.block) (u : Value) : Kp P a (w.setCell p u) :=
  h.then (Q := oneP p.block) ((Kp.refl _ w).set (oneP_self _) u) (fun i hi e => by
    have := of_decide_eq_true e
    omega)
end Go.Proofs.YtmleeodfmmpdgaaGreatDoor
namespace Go.Proofs.YtmleeodfmmpdgaaGreatDoor
open Go.RowKit

section
variable {P : Program} {ops : Array Oper} {Q : Exit → Act → World → Prop} {md : Region.Mode} {S : Array Bool → World → Prop}

def wpAnyG (P : Program) (md : Region.Mode) (ops : Array Oper) (Q : Exit → Act → World → Prop) (S : Array Bool → World → Prop) : Nat → Array Bool → Act → World → Prop
  | 0, L, a, w => Region.ready md ops L = [] ∧ Q .normal a w
  | g + 1, L, a, w => (Region.ready md ops L = [] → Q .normal a w) ∧ ∀ i ∈ Region.ready md ops L, wpOp P ops Q i (fun a' w' => S (L.setIfInBounds i true) w' ∧ wpAnyG P md ops Q S g (L.setIfInBounds i true) a' w') a w
theorem wpAny_of_G : ∀ (g : Nat) (L : Array Bool) (a : Act) (w : World), wpAnyG P md ops Q S g L a w → wpAny P md ops Q g L a w
  | 0, _, _, _, h => h
  | g + 1, _, _, _, h => ⟨h.1, fun i hi => wpOp_mono (fun a' w' h' => wpAny_of_G g _ a' w' h'.2) (h.2 i hi)⟩
def Until (k : Nat) (S : World → Prop) (L : Array Bool) (w : World) : Prop := L.getD k true = false → S w
def waitsB (md : Region.Mode) (ops : Array Oper) (k i : Nat) : Bool := match ops[k]? with | some o => o.after.any fun e => Region.binds md e && e.on == i | none => false
theorem wpAnyG_first {k i : Nat} {oi : Oper} {v : Value} {S : World → Prop} (hi : ops[i]? = some oi) (hsel : ∀ (j : Nat) (o : Oper) cs b, ops[j]? = some o → o.op ≠ .select cs b)
    (hQ : ∀ c a w, Q (.panic c) (a.put oi.dst v) w → Q (.panic c) a w) (hki : i ≠ k) (hw : waitsB md ops k i = true) :
    ∀ (g : Nat) (L : Array Bool) (a : Act) (w : World),
      (∀ j oj, ops[j]? = some oj → j ≠ i → L.getD j true = false → (∀ e ∈ oj.after, Region.binds md e = true → e.on ≠ i) → oi.apart ops oj = true) →
      i ∈ Region.ready md ops L → YieldsIf P ops S oi v a → L.getD k true = false → S w →
      wpAnyG P md ops Q (Until k S) g (L.setIfInBounds i true) (a.put oi.dst v) w → wpAnyG P md ops Q (Until k S) (g + 1) L a w := by
  intro g
  induction g with
  | zero =>
    intro L a w _ hr hy _ hS H
    refine ⟨fun h => (by rw [h] at hr; cases hr), fun j hj => ?_⟩
    by_cases hji : j = i
    · subst hji; exact hy.wpOp hi hS ⟨fun _ => hS, H⟩
    · have := ready_mono hj hji
      rw [H.1] at this
      cases this
  | succ g ih =>
    intro L a w hfree hr hy hkL hS H
    refine ⟨fun h => (by rw [h] at hr; cases hr), fun j hj => ?_⟩
    by_cases hji : j = i
    · subst hji; exact hy.wpOp hi hS ⟨fun _ => hS, H⟩
    · have h1 := H.2 j (ready_mono hj hji)
      obtain ⟨hjun, oj, hoj, hall⟩ := mem_ready.1 hj
      have hun := (mem_ready.1 hr).1
      have hnot : ∀ e ∈ oj.after, Region.binds md e = true → e.on ≠ i := fun e he hb heq => by
        have h1 := hall e he hb
        rw [heq] at h1
        rcases Nat.lt_or_ge i L.size with h' | h'
        · simp [h'] at hun h1; rw [hun] at h1; cases h1
        · simp [Array.getElem?_eq_none h'] at h1
      have hjk : j ≠ k := fun e => by
        subst e
        unfold waitsB at hw
        rw [hoj] at hw
        simp only [Array.any_eq_true, Bool.and_eq_true, beq_iff_eq] at hw
        obtain ⟨x, hx, hb, ho⟩ := hw
        exact hnot _ (Array.getElem_mem hx) hb ho
      have hkL' : (L.setIfInBounds j true).getD k true = false := by rw [getD_set_ne true hjk]; exact hkL
      have hkL2 : ((L.setIfInBounds i true).setIfInBounds j true).getD k true = false := by rw [getD_set_ne true hjk, getD_set_ne true hki]; exact hkL
      have h2 := wpOp_putIf hoj (hfree j oj hoj hji hjun hnot) (fun cs b => hsel i oi cs b hi) (fun cs b => hsel j oj cs b hoj) hQ hy h1
      have hfree' : ∀ m ok, ops[m]? = some ok → m ≠ i → (L.setIfInBounds j true).getD m true = false →
          (∀ e ∈ ok.after, Region.binds md e = true → e.on ≠ i) → oi.apart ops ok = true := fun m ok hm hmi hun hno => by
        refine hfree m ok hm hmi ?_ hno
        by_cases hjm : j = m
        · subst hjm; exact hjun
        · rw [getD_set_ne true hjm] at hun; exact hun
      refine wpOp_mono (fun a' w' h3 => ?_) h2
      have hS' : S w' := h3.2.1 hkL2
      refine ⟨fun _ => hS', ih (L.setIfInBounds j true) a' w' hfree' (ready_mono hr (Ne.symm hji)) h3.1 hkL' hS' ?_⟩
      rw [Array.setIfInBounds_comm _ _ hji]
      exact h3.2.2
theorem wpAnyG_take {k i : Nat} {oi : Oper} {v : Value} {g : Nat} {L : Array Bool} {a : Act} {w : World} {S : World → Prop} (hi : ops[i]? = some oi)
    (hs : Region.noSelect ops = true) (hf : Region.free md ops L i = true) (hr : (Region.ready md ops L).contains i = true)
    (hQ : ∀ c a w, Q (.panic c) (a.put oi.dst v) w → Q (.panic c) a w) (hw : waitsB md ops k i = true) (hki : i ≠ k) (hk : L.getD k true = false) (hy : YieldsIf P ops S oi v a) (hS : S w)
    (h : wpAnyG P md ops Q (Until k S) g (L.setIfInBounds i true) (a.put oi.dst v) w) : wpAnyG P md ops Q (Until k S) (g + 1) L a w :=
  wpAnyG_first hi (Region.noSelect_spec hs) hQ hki hw g L a w (Region.free_spec hi hf) (by simpa using hr) hy hk hS h
def AllReadyG (P : Program) (md : Region.Mode) (ops : Array Oper) (Q : Exit → Act → World → Prop) (S : Array Bool → World → Prop) (g : Nat) (L : Array Bool) (a : Act) (w : World) (rs : List Nat) : Prop :=
  ∀ i ∈ rs, wpOp P ops Q i (fun a' w' => S (L.setIfInBounds i true) w' ∧ wpAnyG P md ops Q S g (L.setIfInBounds i true) a' w') a w
theorem AllReadyG.nil {g : Nat} {L : Array Bool} {a : Act} {w : World} : AllReadyG P md ops Q S g L a w [] := fun _ h => by cases h
theorem AllReadyG.cons {g : Nat} {L : Array Bool} {a : Act} {w : World} {i : Nat} {o : Oper} {rs : List Nat} (ho : ops[i]? = some o)
    (h : ∀ K' : Act → World → Prop, Shut (∀ a w, S (L.setIfInBounds i true) w → (S (L.setIfInBounds i true) w → wpAnyG P md ops Q S g (L.setIfInBounds i true) a w) → K' a w) → if Region.wanted o (yielded ops a.tmps) = true then Oper.wp P o a w K' Q else K' (a.put o.dst undef) w)
    (hs : AllReadyG P md ops Q S g L a w rs) : AllReadyG P md ops Q S g L a w (i :: rs) := fun j hj => by
  rcases List.mem_cons.1 hj with rfl | hj
  · exact wpOp_step ho (fun K' hK => h K' (fun a w hS hW => hK a w ⟨hS, hW hS⟩))
  · exact hs j hj
theorem wpAnyG_ready {rs : List Nat} {g : Nat} {L : Array Bool} {a : Act} {w : World} (hr : Region.ready md ops L = rs) (hne : rs ≠ [])
    (h : AllReadyG P md ops Q S g L a w rs) : wpAnyG P md ops Q S (g + 1) L a w := ⟨fun h0 => absurd (hr ▸ h0) hne, hr ▸ h⟩
theorem wpAnyG_done {L : Array Bool} {a : Act} {w : World} (hr : Region.ready md ops L = []) (h : Q .normal a w) : ∀ g, wpAnyG P md ops Q S g L a w
  | 0 => ⟨hr, h⟩
  | _ + 1 => ⟨fun _ => h, by rw [hr]; simp⟩
theorem wp_region_until {id : Nat} {a : Act} {w : World} (k : Nat) (S : World → Prop) (hm : P.follows .mixedOrders = true) (hS : S w.drew)
    (h : S w.drew → wpAnyG P .any ops Q (Until k S) ops.size (Array.replicate ops.size false) a w.drew) : (Code.region id ops true).wp P Q a w :=
  wp_region_any hm (wpAny_of_G _ _ _ _ (h hS))
end

def flat (sz : Nat) (f : Nat → Nat → Value) (n : Nat) : List Value := (List.range n).flatMap fun i => (List.range sz).map (f i)
theorem flat_succ (sz : Nat) (f : Nat → Nat → Value) (n : Nat) : flat sz f (n + 1) = flat sz f n ++ (List.range sz).map (f n) := by simp [flat, List.range_succ]
theorem flat_length (sz : Nat) (f : Nat → Nat → Value) : ∀ n, (flat sz f n).length = n * sz
  | 0 => by simp [flat]
  | n + 1 => by rw [flat_succ, List.length_append, flat_length sz f n, List.length_map, List.length_range, Nat.succ_mul]
theorem flat_get (sz : Nat) (f : Nat → Nat → Value) : ∀ {n i j : Nat}, i < n → j < sz → (flat sz f n)[i * sz + j]? = some (f i j)
  | 0, _, _, hi, _ => absurd hi (Nat.not_lt_zero _)
  | n + 1, i, j, hi, hj => by
    rw [flat_succ]
    by_cases h : i < n
    · have : i * sz + j < (flat sz f n).length := by
        rw [flat_length]
        have := Nat.mul_le_mul_right sz (show i + 1 ≤ n by omega)
        rw [Nat.succ_mul] at this
        omega
      rw [List.getElem?_append_left this]
      exact flat_get sz f h hj
    · obtain rfl : i = n := by omega
      rw [List.getElem?_append_right (by rw [flat_length]; omega), flat_length, Nat.add_sub_cancel_left]
      simp [hj]
theorem flat_mem {sz : Nat} {f : Nat → Nat → Value} {n : Nat} {u : Value} (h : u ∈ flat sz f n) : ∃ i j, i < n ∧ j < sz ∧ u = f i j := by
  obtain ⟨i, hi, hu⟩ := List.mem_flatMap.1 h
  obtain ⟨j, hj, e⟩ := List.mem_map.1 hu
  exact ⟨i, j, List.mem_range.1 hi, List.mem_range.1 hj, e.symm⟩
theorem flat_get_inv {sz : Nat} {f : Nat → Nat → Value} {n q : Nat} {u : Value} (hs : 0 < sz) (h : (flat sz f n)[q]? = some u) : ∃ i j, q = i * sz + j ∧ i < n ∧ j < sz ∧ u = f i j := by
  have hq : q < n * sz := by rw [← flat_length sz f n]; exact (List.getElem?_eq_some_iff.1 h).1
  have h1 : q / sz < n := by rw [Nat.div_lt_iff_lt_mul hs]; exact hq
  have h2 : q % sz < sz := Nat.mod_lt _ hs
  have h3 : q = q / sz * sz + q % sz := by rw [Nat.mul_comm]; exact (Nat.div_add_mod q sz).symm
  refine ⟨q / sz, q % sz, h3, h1, h2, ?_⟩
  rw [h3, flat_get sz f h1 h2] at h
  injection h with h
  rw [← h]
theorem flat_append (sz : Nat) (f g : Nat → Nat → Value) (k n : Nat) : flat sz f k ++ flat sz g n = flat sz (fun i j => if i < k then f i j else g (i - k) j) (k + n) := by
  have h1 : flat sz f k = flat sz (fun i j => if i < k then f i j else g (i - k) j) k := by
    unfold flat
    refine congrArg List.flatten (List.map_congr_left fun i hi => List.map_congr_left fun j _ => ?_)
    show f i j = if i < k then f i j else g (i - k) j
    rw [if_pos (List.mem_range.1 hi)]
  induction n with
  | zero => simpa [flat] using h1
  | succ n ih =>
    rw [flat_succ, ← List.append_assoc, ih, ← Nat.add_assoc, flat_succ]
    congr 1
    refine List.map_congr_left fun j _ => ?_
    show g n j = if k + n < k then f (k + n) j else g (k + n - k) j
    rw [if_neg (by omega), Nat.add_sub_cancel_left]
theorem own_shape {w : World} {base : Nat} {E : TypeId} {size : Nat} {v : Value} {n : Nat} {xs : List Value} (h : w.ownsRow base E size v n xs) : ∃ ad c, v = .slice ad n c := by
  obtain ⟨_, ⟨rfl, rfl⟩ | ⟨g, cap, cur, rfl, _⟩⟩ := h
  · exact ⟨_, _, rfl⟩
  · exact ⟨_, _, rfl⟩
theorem own_rw {w : World} {base : Nat} {E : TypeId} {sz : Nat} {ad : Option Addr} {n c : Nat} {f : Nat → Nat → Value} (h : w.ownsRow base E sz (.slice ad n c) n (flat sz f n)) :
    ∃ b, Rw w ad n sz f b 0 ∧ (ad = none → c = 0) ∧ n ≤ c ∧ (n ≠ 0 → base ≤ b) := by
  obtain ⟨hl, ⟨h1, h2⟩ | ⟨g, cap, cur, h1, h2, h3, h4, h5, h6, h7⟩⟩ := h
  · subst h2
    injection h1 with e1 e2 e3
    subst e1 e3
    exact ⟨0, ⟨Nat.zero_le _, fun h => absurd rfl h, fun i j hi => absurd hi (Nat.not_lt_zero _)⟩, fun _ => rfl, Nat.le_refl _, fun h => absurd rfl h⟩
  · injection h1 with e1 e2 e3
    subst e1 e3
    refine ⟨g, ⟨by unfold maxLen at h5; omega, fun _ => rfl, fun i j hi hj => ?_⟩, (fun h => by cases h), h4, fun _ => h2⟩
    have hf := flat_get sz f hi hj
    have hlt : i * sz + j < n * sz := by
      have := (List.getElem?_eq_some_iff.1 hf).1
      rwa [flat_length] at this
    rw [← h7, List.getElem?_take, if_pos hlt, Array.getElem?_toList] at hf
    rw [Nat.zero_add]
    simp only [World.cell?, h3]
    simpa using hf
theorem own_literal (w : World) (E : TypeId) (sz n : Nat) (cs : Array Value) (base : Nat) (hb : base ≤ w.heap.size) (hn : n ≤ maxLen) (hs : cs.size = n * sz) : (w.alloc (.cells cs E)).ownsRow base E sz (.slice (some ⟨w.heap.size, 0, none⟩) n n) n cs.toList :=
  ⟨by simpa using hs, .inr ⟨w.heap.size, n, cs, rfl, hb, heap_alloc_new w _, Nat.le_refl _, hn, hs, by rw [List.take_of_length_le (by simp [hs])]⟩⟩
section
variable {P : Program} {T E : TypeId} {z : Value} {sz bytes : Nat}
theorem run_app_rows {w : World} (ty : TypeId) (hT : P.underlying T = some (.slice E)) (info : (P.info? E).map (fun i => (i.zero, i.size, i.bytes)) = some (some z, sz, bytes)) (hzs : z.cells.size = sz) (hsz : 0 < sz)
    (base : Nat) (ad : Option Addr) (k c : Nat) (ys : List Value) (hown : w.ownsRow base E sz (.slice ad k c) k ys) (ad2 : Option Addr) (n c2 : Nat) (f : Nat → Nat → Value) (b off : Nat)
    (hx : Rw w ad2 n sz f b off) (hc : ad2 = none → c2 = 0) (h1 : ∀ i j, i < n → j < sz → (f i j).oneCell' = true) (h63 : k + n ≤ maxLen) (hr : (k + n) * bytes ≤ 140737488355328) (hb : base ≤ w.heap.size) :
    ∃ ad' c' w', (Builtin.append_ #[T, T] ty #[.slice ad k c, .slice ad2 n c2]).run P w = .ok (.slice ad' (k + n) c') w' ∧
      w'.ownsRow base E sz (.slice ad' (k + n) c') (k + n) (ys ++ flat sz f n) ∧ w.grownBy w' (Value.ownBlock (.slice ad k c)) := by
  obtain ⟨i0, hi, hz0, hz1, hz2⟩ := info_parts info
  by_cases h0 : n = 0
  · subst h0
    cases ad2 with
    | none =>
      obtain rfl := hc rfl
      exact ⟨ad, c, w, run_append_owned_none w base T ty E i0 sz hT hi (.slice ad k c) k ys hown, by simpa [flat] using hown, World.grownBy.refl _ _⟩
    | some A2 =>
      obtain ⟨v', w', k1, k2, k3, k4⟩ := run_append_own (P := P) (w := w) base T ty E i0 z sz bytes hT hi hz0 hz1 hz2 hzs hsz (.slice ad k c) k ys hown A2 0 c2 [] (by simp) (fun j u h => by simp at h) (fun u h => by cases h) h63 hr hb
      obtain ⟨ad', c', rfl⟩ := own_shape k2
      exact ⟨ad', c', w', k1, by simpa [flat] using k2, k3⟩
  · have ha := hx.adr h0
    subst ha
    have news : ∀ q u, (flat sz f n)[q]? = some u → w.cell? ((⟨b, off, none⟩ : Addr).add q) = some u := by
      intro q u hu
      obtain ⟨i, j, rfl, hi, hj, rfl⟩ := flat_get_inv hsz hu
      have := hx.cell i j hi hj
      rw [Nat.add_assoc] at this
      unfold Addr.add
      split
      · rename_i h
        rw [h, Nat.add_zero] at this
        exact this
      · exact this
    obtain ⟨v', w', k1, k2, k3, k4⟩ := run_append_own (P := P) (w := w) base T ty E i0 z sz bytes hT hi hz0 hz1 hz2 hzs hsz (.slice ad k c) k ys hown ⟨b, off, none⟩ n c2 (flat sz f n)
      (flat_length _ _ _) news (fun u hu => by obtain ⟨i, j, hi, hj, rfl⟩ := flat_mem hu; exact h1 i j hi hj) h63 hr hb
    obtain ⟨ad', c', rfl⟩ := own_shape k2
    exact ⟨ad', c', w', k1, k2, k3⟩
theorem wp_app_rows {w : World} {o : Oper} {a : Act} {K : Act → World → Prop} {Q : Exit → Act → World → Prop} (s x : Operand) (ho : o.op = .call { callee := .builtin .append, args := #[s, x], argTypes := #[T, T] })
    (hT : P.underlying T = some (.slice E)) (info : (P.info? E).map (fun i => (i.zero, i.size, i.bytes)) = some (some z, sz, bytes)) (hzs : z.cells.size = sz) (hsz : 0 < sz)
    (base : Nat) (ad : Option Addr) (k c : Nat) (ys : List Value) (hs : a.eval s = .slice ad k c) (hown : w.ownsRow base E sz (.slice ad k c) k ys) (ad2 : Option Addr) (n c2 : Nat) (f : Nat → Nat → Value) (b off : Nat) (hxe : a.eval x = .slice ad2 n c2)
    (hx : Rw w ad2 n sz f b off) (hc : ad2 = none → c2 = 0) (h1 : ∀ i j, i < n → j < sz → (f i j).oneCell' = true) (h63 : k + n ≤ maxLen) (hr : (k + n) * bytes ≤ 140737488355328) (hb : base ≤ w.heap.size)
    (h : ∀ ad' c' w', w'.ownsRow base E sz (.slice ad' (k + n) c') (k + n) (ys ++ flat sz f n) → w.grownBy w' (Value.ownBlock (.slice ad k c)) → K (a.put o.dst (.slice ad' (k + n) c')) w') : o.wp P a w K Q := by
  obtain ⟨ad', c', w', g1, g2, g3⟩ := run_app_rows o.type hT info hzs hsz base ad k c ys hown ad2 n c2 f b off hx hc h1 h63 hr hb
  unfold Oper.wp execOp
  simp only [ho, resolve, invoke, builtin, Sem.run_bind, Sem.run_pure, Result.andThen_ok, List.map_toArray, List.map_cons, List.map_nil, hs, hxe, g1]
  exact h ad' c' w' g2 g3
theorem step_app_rows {w : World} {ops : Array Oper} {o : Oper} {a : Act} {K : Act → World → Prop} {Q : Exit → Act → World → Prop} {R : Prop} (hgd : o.guard = none) (s x : Operand) (ho : o.op = .call { callee := .builtin .append, args := #[s, x], argTypes := #[T, T] })
    (hT : P.underlying T = some (.slice E)) (info : (P.info? E).map (fun i => (i.zero, i.size, i.bytes)) = some (some z, sz, bytes)) (hzs : z.cells.size = sz) (hsz : 0 < sz)
    (base : Nat) (ad : Option Addr) (k c : Nat) (ys : List Value) (hs : a.eval s = .slice ad k c) (hown : w.ownsRow base E sz (.slice ad k c) k ys) (ad2 : Option Addr) (n c2 : Nat) (f : Nat → Nat → Value) (b off : Nat) (hxe : a.eval x = .slice ad2 n c2)
    (hx : Rw w ad2 n sz f b off) (hc : ad2 = none → c2 = 0) (h1 : ∀ i j, i < n → j < sz → (f i j).oneCell' = true) (h63 : k + n ≤ maxLen) (hr : (k + n) * bytes ≤ 140737488355328) (hb : base ≤ w.heap.size)
    (h : ∀ ad' c' w', w'.ownsRow base E sz (.slice ad' (k + n) c') (k + n) (ys ++ flat sz f n) → w.grownBy w' (Value.ownBlock (.slice ad k c)) → K (a.put o.dst (.slice ad' (k + n) c')) w') :
    if Region.wanted o (yielded ops a.tmps) = true then Oper.wp P o a w K Q else R := by
  have hw : Region.wanted o (yielded ops a.tmps) = true := by simp [Region.wanted, hgd]
  rw [if_pos hw]
  exact wp_app_rows s x ho hT info hzs hsz base ad k c ys hs hown ad2 n c2 f b off hxe hx hc h1 h63 hr hb h
end
end Go.Proofs.YtmleeodfmmpdgaaGreatDoor
namespace Go.Proofs.YtmleeodfmmpdgaaGreatDoor
open Go.RowKit
attribute [local go_sem] Ext.cell Ext.frozen
attribute [local go_sem ↓] Go.wp_at_zero Go.wp_at_succ
def CP.spans (s : List UInt8) (op : Int) : Nat → List (Int × Int) → CP → List (Int × Int) × CP
  | 0, l, p => (l, p)
  | n + 1, l, p =>
    if p.err = 0 then
      (if (CP.next s [44] (CP.span s op l.length p).2).1 then CP.spans s op n (l ++ [(CP.span s op l.length p).1]) (CP.next s [44] (CP.span s op l.length p).2).2
       else (l ++ [(CP.span s op l.length p).1], (CP.next s [44] (CP.span s op l.length p).2).2))
    else (l, p)
def lettersC : List UInt8 := [32, 110, 105, 118, 119, 102, 116]
def CP.relHead (s : List UInt8) (p : CP) : CP :=
  let op := Lib.index lettersC (tokI s p.pos)
  let p1 := if decide ((tokI s p.pos).length = 1) && !decide (op < 1) then p.skip s else (p.skip s).fail 3
  let p2 : CP := { p1 with rel := p1.rel + 1 }
  if 6 < p2.rel then p2.fail 6 else p2
def CP.relation (s : List UInt8) (p : CP) : Rel × CP :=
  let op := Lib.index lettersC (tokI s p.pos)
  let p4 := (CP.take s [bs (tokI s p.pos)] (p.relHead s)).2
  let m := CP.next s [37] p4
  let a := if m.1 then CP.number s (chk3 op) m.2 else (0, m.2)
  let t := CP.take s [bs [61], bs [33, 61]] a.2
  let l := CP.spans s op 6 [] t.2
  (⟨op, a.1, decide (t.1 = [33, 61]), l.1⟩, l.2)
def lenV : Value → Nat
  | .slice _ n _ => n
  | _ => 0
end Go.Proofs.YtmleeodfmmpdgaaGreatDoor
