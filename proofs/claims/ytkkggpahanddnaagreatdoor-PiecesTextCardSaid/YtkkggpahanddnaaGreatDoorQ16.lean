/- The contracts of Diff, With and Apply, errors and all. -/
import Derived.Test.YtkkggpahanddnaaGreatDoorQ15
import Derived.Test.YtkkggpahanddnaaGreatDoorQ04
namespace Go.Proofs.YtkkggpahanddnaaGreatDoor
open Go.RowKit

/-- a layout and an error are answered -/
def DiffR (E : TypeId) (w : World) (r : List (Int × ByteArray) × Nat) (e : Ending) (w' : World) : Prop :=
  ∃ ad c, e = .returned (.tuple #[.slice ad r.1.length c, .int .i64 (r.2 : Int)]) ∧ w'.ownsRow w.heap.size E 2 (.slice ad r.1.length c) r.1.length (pcCells r.1) ∧ Below w.heap.size w w'
def diffR (l m : List ByteArray) : List (Int × ByteArray) × Nat := if l.length = m.length then (diffV l m, 0) else ([], 1)
/-- a document and an error are answered -/
def DocR (w : World) (r : List ByteArray × Nat) (e : Ending) (w' : World) : Prop :=
  ∃ h xs t ad c, r.1 = allV h xs t ∧ e = .returned (.tuple #[.agg #[.string h, .slice ad xs.length c, .string t], .int .i64 (r.2 : Int)]) ∧ w'.ownsRow w.heap.size 9 1 (.slice ad xs.length c) xs.length (strs xs) ∧ (ad = none → c = 0) ∧ Below w.heap.size w w'
def zeroD : List ByteArray := [⟨#[]⟩, ⟨#[]⟩]
def withR (l : List ByteArray) (i : Int) (s : ByteArray) : List ByteArray × Nat := if 0 ≤ i ∧ i < (l.length : Int) then (l.set i.toNat s, 0) else (zeroD, 2)
def applyR (l : List ByteArray) (ps : List (Int × ByteArray)) : List ByteArray × Nat := if validV ps ((l.length : Int) - 2) = true then (applyV l ps, 0) else (zeroD, 1)
theorem DocR.of_err {w : World} {h t : ByteArray} {xs : List ByteArray} {e : Ending} {w' : World} (hd : DocErr w h xs t e w') : DocR w (allV h xs t, 0) e w' := by
  obtain ⟨ad, c, he, ho, hn, hb⟩ := hd
  exact ⟨h, xs, t, ad, c, rfl, he, ho, hn, hb⟩
theorem DocR.zero {w : World} {e : Ending} {w' : World} (k : Nat) (he : e = .returned (.tuple #[.agg #[.string ⟨#[]⟩, .slice none 0 0, .string ⟨#[]⟩], .int .i64 (k : Int)])) (hb : Below w.heap.size w w') : DocR w (zeroD, k) e w' :=
  ⟨⟨#[]⟩, [], ⟨#[]⟩, none, 0, rfl, he, World.ownsRow_nil _ _ _ _, fun _ => rfl, hb⟩
section
variable (h t : ByteArray) (ad : Option Addr) (n c : Nat) (xs : List ByteArray) (w : World)
theorem lenX {w : World} {ad : Option Addr} {n : Nat} {xs : List ByteArray} (hx : Sl w ad n (strs xs)) : xs.length = n := by have := hx.len; rwa [strs_length] at this
theorem pdiffU (h' t' : ByteArray) (ad' : Option Addr) (n' c' : Nat) (xs' : List ByteArray) (hx : Sl w ad n (strs xs)) (hx' : Sl w ad' n' (strs xs')) (hn : n ≤ 10000) :
    Calls Tryz.prog 13 #[.agg #[.string h, .slice ad n c, .string t], .agg #[.string h', .slice ad' n' c', .string t']] w (DiffR 43 w (diffR (allV h xs t) (allV h' xs' t'))) := by
  have l1 := lenX hx
  have l2 := lenX hx'
  unfold diffR
  by_cases hne : n = n'
  · subst hne
    rw [if_pos (by rw [allV_len, allV_len]; omega)]
    exact pdiff_yes h t ad n c xs h' t' ad' c' xs' w hx hx' (by omega)
  · rw [if_neg (by rw [allV_len, allV_len]; omega)]
    exact (pdiff_no h t ad n c h' t' ad' n' c' w hne).mono fun _ _ ⟨he, hb⟩ => ⟨none, 0, he, World.ownsRow_nil _ _ _ _, hb⟩
end
/-- whether pieces are few and short -/
def fewP (ps : List (Int × ByteArray)) : Bool := ps.all (fun p => decide (p.2.size ≤ 2000)) && decide (ps.length ≤ 30)
theorem fewP_facts {ps : List (Int × ByteArray)} (h : fewP ps = true) : (∀ p ∈ ps, p.2.size ≤ 2000) ∧ ps.length ≤ 30 := by
  unfold fewP at h
  rw [Bool.and_eq_true, List.all_eq_true, decide_eq_true_eq] at h
  exact ⟨fun p hp => by simpa using h.1 p hp, h.2⟩
set_option maxRecDepth 20000 in
set_option maxHeartbeats 4000000 in
theorem fewp_any (ad : Option Addr) (n c : Nat) (ps : List (Int × ByteArray)) (w : World) (hp : Pc w ad n ps) :
    Calls Tryz.prog 5 #[.slice ad n c] w fun e w' => e = .returned (.bool (fewP ps)) ∧ w = w' := by
  have hnm := hp.max
  have HL := Lib.hid hp.len
  obtain ⟨b, off, hp⟩ := hp
  have HP := Lib.hid hp
  clear hp
  go_enter Tryz.func5, Tryz.ntmps5
  go_wp2_with fail
  go_loop [3] (fun i => ∃ k : Nat, i = .int .i64 (k : Int) ∧ k ≤ n ∧ (ps.take k).all (fun p => decide (p.2.size ≤ 2000)) = true) (fun i => n - (intOf i).toNat)
  case atStart => exact ⟨0, rfl, Nat.zero_le _, by simp⟩
  case round =>
    obtain ⟨k, rfl, hkn, hall⟩ := hrel
    have HALL := Lib.hid hall
    clear hall
    by_cases hlt : k < n
    · have hix := fun W => HP.out.ix 22 42 Tryz.underlying22 cellsRc hlt c W
      have h1 := HP.out.c1 k hlt
      have hkl : k < ps.length := by rw [HL.out]; exact hlt
      have HST := Lib.hid (all_take_succ (fun p : Int × ByteArray => decide (p.2.size ≤ 2000)) ps k hkl (0, .empty))
      have HNO := Lib.hid (all_of_getD (fun p : Int × ByteArray => decide (p.2.size ≤ 2000)) ps k hkl (0, .empty))
      clear hkl
      generalize ps.getD k (0, .empty) = p at *
      obtain ⟨p0, p1⟩ := p
      simp only at h1
      by_cases hp2 : p1.size ≤ 2000
      · have hp' : ¬ 2000 < (p1.size : Int) := by omega
        have HS2 : Hid ((ps.take (k + 1)).all (fun p => decide (p.2.size ≤ 2000)) = true) := by unfold Hid; rw [HST.out, HALL.out, decide_eq_true hp2]; rfl
        go_wp2_with fail
        go_round
        case rel => exact ⟨k + 1, by go_num, by omega, HS2.out⟩
        case measure => simp [intOf]; omega
      · have hp' : 2000 < (p1.size : Int) := by omega
        have HF : Hid (fewP ps = false) := by unfold Hid fewP; rw [HNO.out (decide_eq_false hp2)]; rfl
        go_wp2_with fail
        go_ret
        exact ⟨by rw [HF.out]; rfl, rfl⟩
    · obtain rfl : k = n := by omega
      have HF : Hid (fewP ps = decide ((k : Int) ≤ 30)) := by
        unfold Hid fewP
        have h1 := HALL.out
        rw [List.take_of_length_le (by rw [HL.out]; exact Nat.le_refl _)] at h1
        rw [h1, Bool.true_and, HL.out]
        exact decide_eq_decide.2 (by omega)
      go_wp2_with fail
      go_ret
      exact ⟨by rw [HF.out]; rfl, rfl⟩
end Go.Proofs.YtkkggpahanddnaaGreatDoor
