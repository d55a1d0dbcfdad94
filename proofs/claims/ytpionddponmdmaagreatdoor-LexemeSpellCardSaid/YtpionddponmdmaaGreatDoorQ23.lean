/- Walks: the reference's backslash, of any string. -/
import Derived.Test.YtpionddponmdmaaGreatDoorQ22
import Derived.Test.YtpionddponmdmaaGreatDoorQ20
import Derived.Laws.BytesString
namespace Go.Proofs.YtpionddponmdmaaGreatDoor
open Go.RowKit
attribute [local go_sem] Ext.cell Ext.frozen
attribute [local go_sem ↓] Go.wp_at_zero Go.wp_at_succ
end Go.Proofs.YtpionddponmdmaaGreatDoor
/- Walks: the reference's Unescape and End, of any string. -/
namespace Go.Proofs.YtpionddponmdmaaGreatDoor
open Go.RowKit
attribute [local go_sem] Ext.cell Ext.frozen
attribute [local go_sem ↓] Go.wp_at_zero Go.wp_at_succ
theorem conv_own {w : World} {base n c : Nat} {ad : Option Addr} {l : List UInt8} (h : w.ownsRow base 5 1 (.slice ad n c) n (Lib.byteCells l)) :
    (convert 59 9 (.slice ad n c)).run Tryz.prog w = .ok (.string (bs l)) w := by
  have hl : l.length = n := by have := h.1; rw [Lib.byteCells_length] at this; omega
  obtain ⟨b, off, hs⟩ := Own.sl h
  rcases h.2 with ⟨h1, h2⟩ | ⟨g, cap, cur, h1, _⟩
  · obtain ⟨e1, -, e3⟩ := Value.slice.inj h1
    subst e1 e3
    subst h2
    obtain rfl := List.eq_nil_of_length_eq_zero hl
    rw [run_convert_bytes_string _ 59 9 5 _ _ _ Tryz.underlying59 Tryz.underlying5 Tryz.underlying9]
    rfl
  · obtain ⟨e1, -, e3⟩ := Value.slice.inj h1
    subst e1
    subst hl
    refine run_convert_bytes_back _ 59 9 5 ⟨g, 0, none⟩ c l Tryz.underlying59 Tryz.underlying5 Tryz.underlying9 ?_
    intro j hj
    have ha := hs.adr (by omega)
    injection ha with ha
    injection ha with ha1 ha2
    subst ha1 ha2
    have := hs.cell j hj
    rw [show (⟨g, 0, none⟩ : Addr).add j = ⟨g, 0 + j, none⟩ by (simp [Addr.add]; exact fun e => e.symm), this]
    simp [Lib.byteCells, List.getD, List.getElem?_eq_getElem hj]
theorem rstyle_any (w : World) : Calls Tryz.prog 34 #[.int .i64 2] w fun e w' => e = .returned (.bool true) ∧ w = w' := by
  go_enter Tryz.func34, Tryz.ntmps34
  go_wp2_with fail
  go_ret
  exact ⟨rfl, rfl⟩
theorem ext_one (l : List UInt8) {i : Nat} (h : i < l.length) : (bs l).extract i (i + 1) = bs [l.getD i 0] := by
  rw [bs_extract, List.take_succ_eq_append_getElem h]
  have e : (l.take i).length = i := by rw [List.length_take]; omega
  have k := @List.drop_left _ (l.take i) [l[i]]
  rw [e] at k
  rw [k]
  simp [List.getD, List.getElem?_eq_getElem h]
end Go.Proofs.YtpionddponmdmaaGreatDoor
