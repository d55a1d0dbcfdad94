/- ChooseMore behind the two calls of Choose, at other kinds. -/
import Derived.Test.YtadhblppeaamlaaGreatDoorQ27
namespace Go.Proofs.YtadhblppeaamlaaGreatDoor
open Go.RowKit
attribute [local go_sem] Ext.cell Ext.frozen
attribute [local go_sem ↓] Go.wp_at_zero Go.wp_at_succ
set_option maxRecDepth 100000 in
set_option maxHeartbeats 64000000 in
theorem more_end_num (kind ci di : Int) (ce de cn cc qn qc cq : Nat) (cad qad : Option Addr) (name s1 s3 a0 a1 cs : ByteArray) (vt : Int) (x0 x1 x2 x3 x4 x5 x6 x7 x8 x9 x10 x11 x12 x13 x14 x15 : Value) (c0 c1 c2 c6 c8 c13 c14 c15 c16 c17 c18 c19 c20 c21 c22 c23 c24 c25 c26 c27 c28 c29 c30 c31 c32 c33 c34 c35 c36 c37 c38 c39 c40 c41 c42 c43 c44 c45 c46 c47 c48 c49 c50 c51 c52 c53 c54 c55 c56 c57 c58 c59 c60 c61 c62 c63 c64 c65 c66 c67 c68 c69 c70 c71 c72 c73 c74 c75 c76 c77 c78 c79 c80 c81 c82 c83 c84 c85 c86 c87 c88 c89 c90 c91 c92 c93 c94 c95 c96 c97 c98 c99 c100 c101 c102 c103 c104 c105 c106 c107 c108 c109 c110 c111 c112 c113 c114 c115 c116 c117 c118 c119 c120 c121 c122 c123 c124 c125 c126 c127 c128 c129 c130 c131 : Value) (w W1 W8 : World) (hs0 : a0.size ≤ 200) (HK9 : Hid (kind ≠ 9)) (HMORE : Hid (ce = 0 → de = 0 ∧ (di = ci ∨ di = (cn : Int) ∧ (kind = 9 ∧ a1 = a0 ∨ kind ≠ 9 ∧ (a1 = bs (61 :: a0.data.toList) ∨ a1 = cs)))))
    (HCL : Hid (∀ (W : World), Below w.heap.size w W → Calls Tryz.prog 16 #[.agg #[x0, x1, x2, x3, x4, x5, x6, x7, x8, x9, x10, x11, x12, x13, x14, x15], .int .i64 kind, .string a0] W fun e w' => e = .returned (.tuple #[.string cs, .int .i64 (cq : Int)]) ∧ Below W.heap.size W w')) (HW8 : Hid (Below w.heap.size w W8)) (HRL8 : Hid (W8.heap[w.heap.size]? = some (.cells #[x0, x1, x2, x3, x4, x5, x6, x7, x8, x9, x10, x11, x12, x13, x14, x15] 30 (0, 0)))) (HRP8 : Hid (W8.heap[w.heap.size + 1]? = some (.cells #[.int .i64 kind, .string s1, .string name, .string s3, .slice cad cn cc, .slice qad qn qc] 34 (0, 0)))) (HRA8 : Hid (W8.heap[w.heap.size + 2]? = some (.cells #[.string a0, .string a1] 47 (0, 0)))) (HRV8 : Hid (W8.heap[W1.heap.size]? = some (.cells #[.string name, .int .i64 vt, .string a0, .int .i64 0, .slice none 0 0] 46 (0, 0)))) (hz1 : w.heap.size + 2 < W1.heap.size) (o83 : W1.heap.size < W8.heap.size) :
    (moreC 12).wp Tryz.prog (bodyPost Tryz.prog Tryz.f5 fun e w' => e = .returned (.bool true) ∧ Below w.heap.size w w') ⟨#[c0, c1, c2, .pointer (some ⟨w.heap.size, 0, none⟩), .pointer (some ⟨w.heap.size + 1, 0, none⟩), .pointer (some ⟨w.heap.size + 1 + 1, 0, none⟩), c6, .pointer (some ⟨W1.heap.size, 0, none⟩), c8, .int .i64 ci, .int .i64 (ce : Int), .int .i64 di, .int .i64 (de : Int), c13, c14, c15, c16, c17, c18, c19, c20, c21, c22, c23, c24, c25, c26, c27, c28, c29, c30, c31, c32, c33, c34, c35, c36, c37, c38, c39, c40, c41, c42, c43, c44, c45, c46, c47, c48, c49, c50, c51, c52, c53, c54, c55, c56, c57, c58, c59, c60, c61, c62, c63, c64, c65, c66, c67, c68, c69, c70, c71, c72, c73, c74, c75, c76, c77, c78, c79, c80, c81, c82, c83, c84, c85, c86, c87, c88, c89, c90, c91, c92, c93, c94, c95, c96, c97, c98, c99, c100, c101, c102, c103, c104, c105, c106, c107, c108, c109, c110, c111, c112, c113, c114, c115, c116, c117, c118, c119, c120, c121, c122, c123, c124, c125, c126, c127, c128, c129, c130, c131], []⟩ W8 := by
  conv => arg 2; whnf
  by_cases he : ce = 0
  · obtain ⟨hde, hcase⟩ := HMORE.out he
    subst he
    subst hde
    have ez : (((0 : Nat) : Int) != 0) = false := rfl
    have ey : (((0 : Nat) : Int) == 0) = true := rfl
    by_cases hdc : ci = di
    · subst hdc
      have ec : (ci == ci) = true := by simp
      clear hcase HMORE
      go_wp2_with fail
      go_ret
      exact ⟨rfl, HW8.out⟩
    · have ec : (ci == di) = false := by rw [beq_eq_false_iff_ne]; exact hdc
      rcases hcase with h | ⟨hdn, hor⟩
      · exact absurd h.symm hdc
      subst hdn
      have en : ((cn : Int) == (cn : Int)) = true := by simp
      clear HMORE hdc
      have o80 : w.heap.size < W8.heap.size := by omega
      have o81 : w.heap.size + 1 < W8.heap.size := by omega
      have o82 : w.heap.size + 2 < W8.heap.size := by omega
      have lq0 : W8.cell? ⟨w.heap.size, 0, none⟩ = some (x0) := by rw [Lib.cell_of_heap HRL8.out]; rfl
      have lq1 : W8.cell? ⟨w.heap.size, 1, none⟩ = some (x1) := by rw [Lib.cell_of_heap HRL8.out]; rfl
      have lq2 : W8.cell? ⟨w.heap.size, 2, none⟩ = some (x2) := by rw [Lib.cell_of_heap HRL8.out]; rfl
      have lq3 : W8.cell? ⟨w.heap.size, 3, none⟩ = some (x3) := by rw [Lib.cell_of_heap HRL8.out]; rfl
      have lq4 : W8.cell? ⟨w.heap.size, 4, none⟩ = some (x4) := by rw [Lib.cell_of_heap HRL8.out]; rfl
      have lq5 : W8.cell? ⟨w.heap.size, 5, none⟩ = some (x5) := by rw [Lib.cell_of_heap HRL8.out]; rfl
      have lq6 : W8.cell? ⟨w.heap.size, 6, none⟩ = some (x6) := by rw [Lib.cell_of_heap HRL8.out]; rfl
      have lq7 : W8.cell? ⟨w.heap.size, 7, none⟩ = some (x7) := by rw [Lib.cell_of_heap HRL8.out]; rfl
      have lq8 : W8.cell? ⟨w.heap.size, 8, none⟩ = some (x8) := by rw [Lib.cell_of_heap HRL8.out]; rfl
      have lq9 : W8.cell? ⟨w.heap.size, 9, none⟩ = some (x9) := by rw [Lib.cell_of_heap HRL8.out]; rfl
      have lq10 : W8.cell? ⟨w.heap.size, 10, none⟩ = some (x10) := by rw [Lib.cell_of_heap HRL8.out]; rfl
      have lq11 : W8.cell? ⟨w.heap.size, 11, none⟩ = some (x11) := by rw [Lib.cell_of_heap HRL8.out]; rfl
      have lq12 : W8.cell? ⟨w.heap.size, 12, none⟩ = some (x12) := by rw [Lib.cell_of_heap HRL8.out]; rfl
      have lq13 : W8.cell? ⟨w.heap.size, 13, none⟩ = some (x13) := by rw [Lib.cell_of_heap HRL8.out]; rfl
      have lq14 : W8.cell? ⟨w.heap.size, 14, none⟩ = some (x14) := by rw [Lib.cell_of_heap HRL8.out]; rfl
      have lq15 : W8.cell? ⟨w.heap.size, 15, none⟩ = some (x15) := by rw [Lib.cell_of_heap HRL8.out]; rfl
      have pq0 : W8.cell? ⟨w.heap.size + 1, 0, none⟩ = some (.int .i64 kind) := by rw [Lib.cell_of_heap HRP8.out]; rfl
      have pq1 : W8.cell? ⟨w.heap.size + 1, 1, none⟩ = some (.string s1) := by rw [Lib.cell_of_heap HRP8.out]; rfl
      have pq2 : W8.cell? ⟨w.heap.size + 1, 2, none⟩ = some (.string name) := by rw [Lib.cell_of_heap HRP8.out]; rfl
      have pq3 : W8.cell? ⟨w.heap.size + 1, 3, none⟩ = some (.string s3) := by rw [Lib.cell_of_heap HRP8.out]; rfl
      have pq4 : W8.cell? ⟨w.heap.size + 1, 4, none⟩ = some (.slice cad cn cc) := by rw [Lib.cell_of_heap HRP8.out]; rfl
      have pq5 : W8.cell? ⟨w.heap.size + 1, 5, none⟩ = some (.slice qad qn qc) := by rw [Lib.cell_of_heap HRP8.out]; rfl
      have vq0 : W8.cell? ⟨W1.heap.size, 0, none⟩ = some (.string name) := by rw [Lib.cell_of_heap HRV8.out]; rfl
      have vq1 : W8.cell? ⟨W1.heap.size, 1, none⟩ = some (.int .i64 vt) := by rw [Lib.cell_of_heap HRV8.out]; rfl
      have vq2 : W8.cell? ⟨W1.heap.size, 2, none⟩ = some (.string a0) := by rw [Lib.cell_of_heap HRV8.out]; rfl
      have vq3 : W8.cell? ⟨W1.heap.size, 3, none⟩ = some (.int .i64 0) := by rw [Lib.cell_of_heap HRV8.out]; rfl
      have vq4 : W8.cell? ⟨W1.heap.size, 4, none⟩ = some (.slice none 0 0) := by rw [Lib.cell_of_heap HRV8.out]; rfl
      go_wp2_with fail
      refine (HCL.out _ HW8.out).mono ?_
      rintro e W9 ⟨rfl, hb9⟩
      have HB9 : Hid (Below W8.heap.size W8 W9) := hb9
      have HW9 : Hid (Below w.heap.size w W9) := HW8.out.trans (HB9.out.mono HW8.out.size)
      have HRP9 : Hid (W9.heap[w.heap.size + 1]? = some (.cells #[.int .i64 kind, .string s1, .string name, .string s3, .slice cad cn cc, .slice qad qn qc] 34 (0, 0))) := (HB9.out.block _ (by omega)).trans HRP8.out
      have HRV9 : Hid (W9.heap[W1.heap.size]? = some (.cells #[.string name, .int .i64 vt, .string a0, .int .i64 0, .slice none 0 0] 46 (0, 0))) := (HB9.out.block _ (by omega)).trans HRV8.out
      have HRA9 : Hid (W9.heap[w.heap.size + 2]? = some (.cells #[.string a0, .string a1] 47 (0, 0))) := (HB9.out.block _ (by omega)).trans HRA8.out
      have hz9 : W1.heap.size < W9.heap.size := by have := HB9.out.size; omega
      clear hb9
      clear lq0 lq1 lq2 lq3 lq4 lq5 lq6 lq7 lq8 lq9 lq10 lq11 lq12 lq13 lq14 lq15 pq0 pq1 pq2 pq3 pq4 pq5 vq0 vq1 vq2 vq3 vq4
      have pq0 : W9.cell? ⟨w.heap.size + 1, 0, none⟩ = some (.int .i64 kind) := by rw [Lib.cell_of_heap HRP9.out]; rfl
      have pq1 : W9.cell? ⟨w.heap.size + 1, 1, none⟩ = some (.string s1) := by rw [Lib.cell_of_heap HRP9.out]; rfl
      have pq2 : W9.cell? ⟨w.heap.size + 1, 2, none⟩ = some (.string name) := by rw [Lib.cell_of_heap HRP9.out]; rfl
      have pq3 : W9.cell? ⟨w.heap.size + 1, 3, none⟩ = some (.string s3) := by rw [Lib.cell_of_heap HRP9.out]; rfl
      have pq4 : W9.cell? ⟨w.heap.size + 1, 4, none⟩ = some (.slice cad cn cc) := by rw [Lib.cell_of_heap HRP9.out]; rfl
      have pq5 : W9.cell? ⟨w.heap.size + 1, 5, none⟩ = some (.slice qad qn qc) := by rw [Lib.cell_of_heap HRP9.out]; rfl
      have vq0 : W9.cell? ⟨W1.heap.size, 0, none⟩ = some (.string name) := by rw [Lib.cell_of_heap HRV9.out]; rfl
      have vq1 : W9.cell? ⟨W1.heap.size, 1, none⟩ = some (.int .i64 vt) := by rw [Lib.cell_of_heap HRV9.out]; rfl
      have vq2 : W9.cell? ⟨W1.heap.size, 2, none⟩ = some (.string a0) := by rw [Lib.cell_of_heap HRV9.out]; rfl
      have vq3 : W9.cell? ⟨W1.heap.size, 3, none⟩ = some (.int .i64 0) := by rw [Lib.cell_of_heap HRV9.out]; rfl
      have vq4 : W9.cell? ⟨W1.heap.size, 4, none⟩ = some (.slice none 0 0) := by rw [Lib.cell_of_heap HRV9.out]; rfl
      have aq0 : W9.cell? ⟨w.heap.size + 2, 0, none⟩ = some (.string a0) := by rw [Lib.cell_of_heap HRA9.out]; rfl
      have aq1 : W9.cell? ⟨w.heap.size + 2, 1, none⟩ = some (.string a1) := by rw [Lib.cell_of_heap HRA9.out]; rfl
      have aa := fun W => run_string_add_sum (P := Tryz.prog) (w := W) ⟨#[61]⟩ a0 (by rw [show (⟨#[61]⟩ : ByteArray).size = 1 from rfl]; omega)
      have HEQ : Hid ((⟨#[61]⟩ : ByteArray) ++ a0 = bs (61 :: a0.data.toList)) := by
        have := bs_append [61] a0.data.toList
        rw [bs_self] at this
        exact this
      have hn : a1 = (⟨#[61]⟩ : ByteArray) ++ a0 ∨ a1 = cs := by
        rcases hor with ⟨h, _⟩ | ⟨_, h⟩
        · exact absurd h HK9.out
        · rw [HEQ.out]; exact h
      clear hor HEQ
      generalize (⟨#[61]⟩ : ByteArray) ++ a0 = eq0 at *
      by_cases h1 : a1 = a0
      · have q1 : (a1.toList == a0.toList) = true := by rw [h1]; simp
        by_cases h2 : a1 = eq0
        · have q2 : (a1.toList == eq0.toList) = true := by rw [h2]; simp
          clear h1 h2 hn
          go_wp2_with fail
          go_ret
          exact ⟨rfl, HW9.out⟩
        · have q3 : (a1.toList == cs.toList) = true := by rw [hn.resolve_left h2]; simp
          have q2 : (a1.toList == (eq0).toList) = false := by rw [beq_eq_false_iff_ne]; exact fun e => h2 (ByteArray.ext (by simpa [ByteArray.toList_eq] using e))
          clear h1 h2 hn
          go_wp2_with fail
          go_ret
          exact ⟨rfl, HW9.out⟩
      · have q1 : (a1.toList == (a0).toList) = false := by rw [beq_eq_false_iff_ne]; exact fun e => h1 (ByteArray.ext (by simpa [ByteArray.toList_eq] using e))
        by_cases h2 : a1 = eq0
        · have q2 : (a1.toList == eq0.toList) = true := by rw [h2]; simp
          clear h1 h2 hn
          go_wp2_with fail
          go_ret
          exact ⟨rfl, HW9.out⟩
        · have q3 : (a1.toList == cs.toList) = true := by rw [hn.resolve_left h2]; simp
          have q2 : (a1.toList == (eq0).toList) = false := by rw [beq_eq_false_iff_ne]; exact fun e => h2 (ByteArray.ext (by simpa [ByteArray.toList_eq] using e))
          clear h1 h2 hn
          go_wp2_with fail
          go_ret
          exact ⟨rfl, HW9.out⟩
  · have e0 : ((ce : Int) == 0) = false := by rw [beq_eq_false_iff_ne]; omega
    have e1 : ((ce : Int) != 0) = true := by rw [bne, e0]; rfl
    go_wp2_with fail
    go_ret
    exact ⟨rfl, HW8.out⟩
end Go.Proofs.YtadhblppeaamlaaGreatDoor
/- ChooseMore: the two calls of Choose, at other kinds. -/
namespace Go.Proofs.YtadhblppeaamlaaGreatDoor
open Go.RowKit
attribute [local go_sem] Ext.cell Ext.frozen
attribute [local go_sem ↓] Go.wp_at_zero Go.wp_at_succ
set_option maxRecDepth 100000 in
set_option maxHeartbeats 64000000 in
theorem more_mid_num (kind ci di : Int) (ce de cn cc qn qc cq : Nat) (cad qad : Option Addr) (name s1 s3 a0 a1 cs : ByteArray) (vt : Int) (x0 x1 x2 x3 x4 x5 x6 x7 x8 x9 x10 x11 x12 x13 x14 x15 : Value) (keys : List ByteArray) (mad : Option Addr) (mc : Nat) (c0 c1 c2 c6 c9 c10 c11 c12 c13 c14 c15 c16 c17 c18 c19 c20 c21 c22 c23 c24 c25 c26 c27 c28 c29 c30 c31 c32 c33 c34 c35 c36 c37 c38 c39 c40 c41 c42 c43 c44 c45 c46 c47 c48 c49 c50 c51 c52 c53 c54 c55 c56 c57 c58 c59 c60 c61 c62 c63 c64 c65 c66 c67 c68 c69 c70 c71 c72 c73 c74 c75 c76 c77 c78 c79 c80 c81 c82 c83 c84 c85 c86 c87 c88 c89 c90 c91 c92 c93 c94 c95 c96 c97 c98 c99 c100 c101 c102 c103 c104 c105 c106 c107 c108 c109 c110 c111 c112 c113 c114 c115 c116 c117 c118 c119 c120 c121 c122 c123 c124 c125 c126 c127 c128 c129 c130 c131 : Value) (w W1 W4 W6 : World) (hs0 : a0.size ≤ 200) (HK9 : Hid (kind ≠ 9)) (HMORE : Hid (ce = 0 → de = 0 ∧ (di = ci ∨ di = (cn : Int) ∧ (kind = 9 ∧ a1 = a0 ∨ kind ≠ 9 ∧ (a1 = bs (61 :: a0.data.toList) ∨ a1 = cs)))))
    (HCL : Hid (∀ (W : World), Below w.heap.size w W → Calls Tryz.prog 16 #[.agg #[x0, x1, x2, x3, x4, x5, x6, x7, x8, x9, x10, x11, x12, x13, x14, x15], .int .i64 kind, .string a0] W fun e w' => e = .returned (.tuple #[.string cs, .int .i64 (cq : Int)]) ∧ Below W.heap.size W w'))
    (HC1 : Hid (∀ (W : World) (e : TypeId), Below w.heap.size w W → Calls Tryz.prog 11 #[.agg #[x0, x1, x2, x3, x4, x5, x6, x7, x8, x9, x10, x11, x12, x13, x14, x15], .agg #[.int .i64 kind, .string s1, .string name, .string s3, .slice cad cn cc, .slice qad qn qc], .slice (some ⟨W.heap.size, 0, none⟩) 1 1] (W.alloc (.cells #[.string name, .int .i64 vt, .string a0, .int .i64 0, .slice none 0 0] e)) fun e' w' => e' = .returned (.tuple #[.int .i64 ci, .int .i64 (ce : Int)]) ∧ Below (W.alloc (.cells #[.string name, .int .i64 vt, .string a0, .int .i64 0, .slice none 0 0] e)).heap.size (W.alloc (.cells #[.string name, .int .i64 vt, .string a0, .int .i64 0, .slice none 0 0] e)) w'))
    (HC2 : Hid (∀ (W : World) (e : TypeId) (mad : Option Addr) (mc : Nat), Below w.heap.size w W → RowsOf 2 CaseC W (.slice mad (cn + 1) mc) (keys ++ [a1]) → Calls Tryz.prog 11 #[.agg #[x0, x1, x2, x3, x4, x5, x6, x7, x8, x9, x10, x11, x12, x13, x14, x15], .agg #[.int .i64 kind, .string s1, .string name, .string s3, .slice mad (cn + 1) mc, .slice qad qn qc], .slice (some ⟨W.heap.size, 0, none⟩) 1 1] (W.alloc (.cells #[.string name, .int .i64 vt, .string a0, .int .i64 0, .slice none 0 0] e)) fun e' w' => e' = .returned (.tuple #[.int .i64 di, .int .i64 (de : Int)]) ∧ Below (W.alloc (.cells #[.string name, .int .i64 vt, .string a0, .int .i64 0, .slice none 0 0] e)).heap.size (W.alloc (.cells #[.string name, .int .i64 vt, .string a0, .int .i64 0, .slice none 0 0] e)) w'))
    (HW6 : Hid (Below w.heap.size w W6)) (HRL6 : Hid (W6.heap[w.heap.size]? = some (.cells #[x0, x1, x2, x3, x4, x5, x6, x7, x8, x9, x10, x11, x12, x13, x14, x15] 30 (0, 0)))) (HRP6 : Hid (W6.heap[w.heap.size + 1]? = some (.cells #[.int .i64 kind, .string s1, .string name, .string s3, .slice cad cn cc, .slice qad qn qc] 34 (0, 0)))) (HRA6 : Hid (W6.heap[w.heap.size + 2]? = some (.cells #[.string a0, .string a1] 47 (0, 0)))) (HRV6 : Hid (W6.heap[W1.heap.size]? = some (.cells #[.string name, .int .i64 vt, .string a0, .int .i64 0, .slice none 0 0] 46 (0, 0)))) (HRM6 : Hid (W6.heap[W4.heap.size]? = some (.cells #[.int .i64 kind, .string s1, .string name, .string s3, .slice mad (cn + 1) mc, .slice qad qn qc] 34 (0, 0)))) (HRK6 : Hid (RowsOf 2 CaseC W6 (.slice mad (cn + 1) mc) (keys ++ [a1]))) (hz1 : w.heap.size + 2 < W1.heap.size) (hz4 : W1.heap.size < W4.heap.size) (hz6 : W4.heap.size < W6.heap.size) :
    (moreC 10).wp Tryz.prog (bodyPost Tryz.prog Tryz.f5 fun e w' => e = .returned (.bool true) ∧ Below w.heap.size w w') ⟨#[c0, c1, c2, .pointer (some ⟨w.heap.size, 0, none⟩), .pointer (some ⟨w.heap.size + 1, 0, none⟩), .pointer (some ⟨w.heap.size + 1 + 1, 0, none⟩), c6, .pointer (some ⟨W1.heap.size, 0, none⟩), .pointer (some ⟨W4.heap.size, 0, none⟩), c9, c10, c11, c12, c13, c14, c15, c16, c17, c18, c19, c20, c21, c22, c23, c24, c25, c26, c27, c28, c29, c30, c31, c32, c33, c34, c35, c36, c37, c38, c39, c40, c41, c42, c43, c44, c45, c46, c47, c48, c49, c50, c51, c52, c53, c54, c55, c56, c57, c58, c59, c60, c61, c62, c63, c64, c65, c66, c67, c68, c69, c70, c71, c72, c73, c74, c75, c76, c77, c78, c79, c80, c81, c82, c83, c84, c85, c86, c87, c88, c89, c90, c91, c92, c93, c94, c95, c96, c97, c98, c99, c100, c101, c102, c103, c104, c105, c106, c107, c108, c109, c110, c111, c112, c113, c114, c115, c116, c117, c118, c119, c120, c121, c122, c123, c124, c125, c126, c127, c128, c129, c130, c131], []⟩ W6 := by
  conv => arg 2; whnf
  have o60 : w.heap.size < W6.heap.size := by omega
  have o61 : w.heap.size + 1 < W6.heap.size := by omega
  have o62 : w.heap.size + 2 < W6.heap.size := by omega
  have o63 : W1.heap.size < W6.heap.size := by omega
  have lq0 : W6.cell? ⟨w.heap.size, 0, none⟩ = some (x0) := by rw [Lib.cell_of_heap HRL6.out]; rfl
  have lq1 : W6.cell? ⟨w.heap.size, 1, none⟩ = some (x1) := by rw [Lib.cell_of_heap HRL6.out]; rfl
  have lq2 : W6.cell? ⟨w.heap.size, 2, none⟩ = some (x2) := by rw [Lib.cell_of_heap HRL6.out]; rfl
  have lq3 : W6.cell? ⟨w.heap.size, 3, none⟩ = some (x3) := by rw [Lib.cell_of_heap HRL6.out]; rfl
  have lq4 : W6.cell? ⟨w.heap.size, 4, none⟩ = some (x4) := by rw [Lib.cell_of_heap HRL6.out]; rfl
  have lq5 : W6.cell? ⟨w.heap.size, 5, none⟩ = some (x5) := by rw [Lib.cell_of_heap HRL6.out]; rfl
  have lq6 : W6.cell? ⟨w.heap.size, 6, none⟩ = some (x6) := by rw [Lib.cell_of_heap HRL6.out]; rfl
  have lq7 : W6.cell? ⟨w.heap.size, 7, none⟩ = some (x7) := by rw [Lib.cell_of_heap HRL6.out]; rfl
  have lq8 : W6.cell? ⟨w.heap.size, 8, none⟩ = some (x8) := by rw [Lib.cell_of_heap HRL6.out]; rfl
  have lq9 : W6.cell? ⟨w.heap.size, 9, none⟩ = some (x9) := by rw [Lib.cell_of_heap HRL6.out]; rfl
  have lq10 : W6.cell? ⟨w.heap.size, 10, none⟩ = some (x10) := by rw [Lib.cell_of_heap HRL6.out]; rfl
  have lq11 : W6.cell? ⟨w.heap.size, 11, none⟩ = some (x11) := by rw [Lib.cell_of_heap HRL6.out]; rfl
  have lq12 : W6.cell? ⟨w.heap.size, 12, none⟩ = some (x12) := by rw [Lib.cell_of_heap HRL6.out]; rfl
  have lq13 : W6.cell? ⟨w.heap.size, 13, none⟩ = some (x13) := by rw [Lib.cell_of_heap HRL6.out]; rfl
  have lq14 : W6.cell? ⟨w.heap.size, 14, none⟩ = some (x14) := by rw [Lib.cell_of_heap HRL6.out]; rfl
  have lq15 : W6.cell? ⟨w.heap.size, 15, none⟩ = some (x15) := by rw [Lib.cell_of_heap HRL6.out]; rfl
  have pq0 : W6.cell? ⟨w.heap.size + 1, 0, none⟩ = some (.int .i64 kind) := by rw [Lib.cell_of_heap HRP6.out]; rfl
  have pq1 : W6.cell? ⟨w.heap.size + 1, 1, none⟩ = some (.string s1) := by rw [Lib.cell_of_heap HRP6.out]; rfl
  have pq2 : W6.cell? ⟨w.heap.size + 1, 2, none⟩ = some (.string name) := by rw [Lib.cell_of_heap HRP6.out]; rfl
  have pq3 : W6.cell? ⟨w.heap.size + 1, 3, none⟩ = some (.string s3) := by rw [Lib.cell_of_heap HRP6.out]; rfl
  have pq4 : W6.cell? ⟨w.heap.size + 1, 4, none⟩ = some (.slice cad cn cc) := by rw [Lib.cell_of_heap HRP6.out]; rfl
  have pq5 : W6.cell? ⟨w.heap.size + 1, 5, none⟩ = some (.slice qad qn qc) := by rw [Lib.cell_of_heap HRP6.out]; rfl
  have vq0 : W6.cell? ⟨W1.heap.size, 0, none⟩ = some (.string name) := by rw [Lib.cell_of_heap HRV6.out]; rfl
  have vq1 : W6.cell? ⟨W1.heap.size, 1, none⟩ = some (.int .i64 vt) := by rw [Lib.cell_of_heap HRV6.out]; rfl
  have vq2 : W6.cell? ⟨W1.heap.size, 2, none⟩ = some (.string a0) := by rw [Lib.cell_of_heap HRV6.out]; rfl
  have vq3 : W6.cell? ⟨W1.heap.size, 3, none⟩ = some (.int .i64 0) := by rw [Lib.cell_of_heap HRV6.out]; rfl
  have vq4 : W6.cell? ⟨W1.heap.size, 4, none⟩ = some (.slice none 0 0) := by rw [Lib.cell_of_heap HRV6.out]; rfl
  go_wp2_with fail
  refine (HC1.out _ _ HW6.out).mono ?_
  rintro e W7 ⟨rfl, hb7⟩
  have HBA : Hid (Below W6.heap.size W6 (W6.alloc (.cells #[.string name, .int .i64 vt, .string a0, .int .i64 0, .slice none 0 0] 46))) := (Below.refl _ _).alloc (Nat.le_refl _) _
  have HB7 : Hid (Below W6.heap.size W6 W7) := HBA.out.trans (hb7.mono (by simp))
  have HW7 : Hid (Below w.heap.size w W7) := HW6.out.trans (HB7.out.mono HW6.out.size)
  have HRL7 : Hid (W7.heap[w.heap.size]? = some (.cells #[x0, x1, x2, x3, x4, x5, x6, x7, x8, x9, x10, x11, x12, x13, x14, x15] 30 (0, 0))) := (HB7.out.block _ (by omega)).trans HRL6.out
  have HRP7 : Hid (W7.heap[w.heap.size + 1]? = some (.cells #[.int .i64 kind, .string s1, .string name, .string s3, .slice cad cn cc, .slice qad qn qc] 34 (0, 0))) := (HB7.out.block _ (by omega)).trans HRP6.out
  have HRA7 : Hid (W7.heap[w.heap.size + 2]? = some (.cells #[.string a0, .string a1] 47 (0, 0))) := (HB7.out.block _ (by omega)).trans HRA6.out
  have HRV7 : Hid (W7.heap[W1.heap.size]? = some (.cells #[.string name, .int .i64 vt, .string a0, .int .i64 0, .slice none 0 0] 46 (0, 0))) := (HB7.out.block _ (by omega)).trans HRV6.out
  have HRM7 : Hid (W7.heap[W4.heap.size]? = some (.cells #[.int .i64 kind, .string s1, .string name, .string s3, .slice mad (cn + 1) mc, .slice qad qn qc] 34 (0, 0))) := (HB7.out.block _ (by omega)).trans HRM6.out
  have hz7 : W4.heap.size < W7.heap.size := by have := HB7.out.size; omega
  clear hb7
  clear lq0 lq1 lq2 lq3 lq4 lq5 lq6 lq7 lq8 lq9 lq10 lq11 lq12 lq13 lq14 lq15 pq0 pq1 pq2 pq3 pq4 pq5 vq0 vq1 vq2 vq3 vq4
  have HRK7 : Hid (RowsOf 2 CaseC W7 (.slice mad (cn + 1) mc) (keys ++ [a1])) := HRK6.out.map HB7.out fun _ _ h => h
  have o70 : w.heap.size < W7.heap.size := by omega
  have o71 : w.heap.size + 1 < W7.heap.size := by omega
  have o72 : w.heap.size + 2 < W7.heap.size := by omega
  have o73 : W1.heap.size < W7.heap.size := by omega
  go_upto_region 11 with (fail)
  go_cut [11, 12] (fun g1 g2 wx => g1 = .int .i64 di ∧ g2 = .int .i64 (de : Int) ∧ Below W7.heap.size W7 wx)
  case first =>
    have lq0 : W7.cell? ⟨w.heap.size, 0, none⟩ = some (x0) := by rw [Lib.cell_of_heap HRL7.out]; rfl
    have lq1 : W7.cell? ⟨w.heap.size, 1, none⟩ = some (x1) := by rw [Lib.cell_of_heap HRL7.out]; rfl
    have lq2 : W7.cell? ⟨w.heap.size, 2, none⟩ = some (x2) := by rw [Lib.cell_of_heap HRL7.out]; rfl
    have lq3 : W7.cell? ⟨w.heap.size, 3, none⟩ = some (x3) := by rw [Lib.cell_of_heap HRL7.out]; rfl
    have lq4 : W7.cell? ⟨w.heap.size, 4, none⟩ = some (x4) := by rw [Lib.cell_of_heap HRL7.out]; rfl
    have lq5 : W7.cell? ⟨w.heap.size, 5, none⟩ = some (x5) := by rw [Lib.cell_of_heap HRL7.out]; rfl
    have lq6 : W7.cell? ⟨w.heap.size, 6, none⟩ = some (x6) := by rw [Lib.cell_of_heap HRL7.out]; rfl
    have lq7 : W7.cell? ⟨w.heap.size, 7, none⟩ = some (x7) := by rw [Lib.cell_of_heap HRL7.out]; rfl
    have lq8 : W7.cell? ⟨w.heap.size, 8, none⟩ = some (x8) := by rw [Lib.cell_of_heap HRL7.out]; rfl
    have lq9 : W7.cell? ⟨w.heap.size, 9, none⟩ = some (x9) := by rw [Lib.cell_of_heap HRL7.out]; rfl
    have lq10 : W7.cell? ⟨w.heap.size, 10, none⟩ = some (x10) := by rw [Lib.cell_of_heap HRL7.out]; rfl
    have lq11 : W7.cell? ⟨w.heap.size, 11, none⟩ = some (x11) := by rw [Lib.cell_of_heap HRL7.out]; rfl
    have lq12 : W7.cell? ⟨w.heap.size, 12, none⟩ = some (x12) := by rw [Lib.cell_of_heap HRL7.out]; rfl
    have lq13 : W7.cell? ⟨w.heap.size, 13, none⟩ = some (x13) := by rw [Lib.cell_of_heap HRL7.out]; rfl
    have lq14 : W7.cell? ⟨w.heap.size, 14, none⟩ = some (x14) := by rw [Lib.cell_of_heap HRL7.out]; rfl
    have lq15 : W7.cell? ⟨w.heap.size, 15, none⟩ = some (x15) := by rw [Lib.cell_of_heap HRL7.out]; rfl
    have mq0 : W7.cell? ⟨W4.heap.size, 0, none⟩ = some (.int .i64 kind) := by rw [Lib.cell_of_heap HRM7.out]; rfl
    have mq1 : W7.cell? ⟨W4.heap.size, 1, none⟩ = some (.string s1) := by rw [Lib.cell_of_heap HRM7.out]; rfl
    have mq2 : W7.cell? ⟨W4.heap.size, 2, none⟩ = some (.string name) := by rw [Lib.cell_of_heap HRM7.out]; rfl
    have mq3 : W7.cell? ⟨W4.heap.size, 3, none⟩ = some (.string s3) := by rw [Lib.cell_of_heap HRM7.out]; rfl
    have mq4 : W7.cell? ⟨W4.heap.size, 4, none⟩ = some (.slice mad (cn + 1) mc) := by rw [Lib.cell_of_heap HRM7.out]; rfl
    have mq5 : W7.cell? ⟨W4.heap.size, 5, none⟩ = some (.slice qad qn qc) := by rw [Lib.cell_of_heap HRM7.out]; rfl
    have vq0 : W7.cell? ⟨W1.heap.size, 0, none⟩ = some (.string name) := by rw [Lib.cell_of_heap HRV7.out]; rfl
    have vq1 : W7.cell? ⟨W1.heap.size, 1, none⟩ = some (.int .i64 vt) := by rw [Lib.cell_of_heap HRV7.out]; rfl
    have vq2 : W7.cell? ⟨W1.heap.size, 2, none⟩ = some (.string a0) := by rw [Lib.cell_of_heap HRV7.out]; rfl
    have vq3 : W7.cell? ⟨W1.heap.size, 3, none⟩ = some (.int .i64 0) := by rw [Lib.cell_of_heap HRV7.out]; rfl
    have vq4 : W7.cell? ⟨W1.heap.size, 4, none⟩ = some (.slice none 0 0) := by rw [Lib.cell_of_heap HRV7.out]; rfl
    go_wp2_with fail
    refine (HC2.out _ _ _ _ HW7.out HRK7.out).mono ?_
    rintro e W8 ⟨rfl, hb8⟩
    have HBC : Hid (Below W7.heap.size W7 (W7.alloc (.cells #[.string name, .int .i64 vt, .string a0, .int .i64 0, .slice none 0 0] 46))) := (Below.refl _ _).alloc (Nat.le_refl _) _
    have HB8 : Hid (Below W7.heap.size W7 W8) := HBC.out.trans (hb8.mono (by simp))
    clear hb8
    go_wp2_with fail
    go_meet
    exact ⟨rfl, rfl, HB8.out⟩
  case rest =>
  obtain ⟨rfl, rfl, hb8⟩ := hcut
  obtain ⟨W8, hW8⟩ : ∃ W8, W8 = wc := ⟨_, rfl⟩
  rw [← hW8] at hb8 ⊢
  clear hW8
  have HB8 : Hid (Below W7.heap.size W7 W8) := hb8
  have HW8 : Hid (Below w.heap.size w W8) := HW7.out.trans (HB8.out.mono HW7.out.size)
  have HRL8 : Hid (W8.heap[w.heap.size]? = some (.cells #[x0, x1, x2, x3, x4, x5, x6, x7, x8, x9, x10, x11, x12, x13, x14, x15] 30 (0, 0))) := (HB8.out.block _ (by omega)).trans HRL7.out
  have HRP8 : Hid (W8.heap[w.heap.size + 1]? = some (.cells #[.int .i64 kind, .string s1, .string name, .string s3, .slice cad cn cc, .slice qad qn qc] 34 (0, 0))) := (HB8.out.block _ (by omega)).trans HRP7.out
  have HRA8 : Hid (W8.heap[w.heap.size + 2]? = some (.cells #[.string a0, .string a1] 47 (0, 0))) := (HB8.out.block _ (by omega)).trans HRA7.out
  have HRV8 : Hid (W8.heap[W1.heap.size]? = some (.cells #[.string name, .int .i64 vt, .string a0, .int .i64 0, .slice none 0 0] 46 (0, 0))) := (HB8.out.block _ (by omega)).trans HRV7.out
  have hz8 : W1.heap.size < W8.heap.size := by have := HB8.out.size; omega
  clear hb8
  rename_i K9 hK9
  refine hK9 _ _ ?_
  clear hK9
  exact more_end_num kind ci di ce de cn cc qn qc cq cad qad name s1 s3 a0 a1 cs vt x0 x1 x2 x3 x4 x5 x6 x7 x8 x9 x10 x11 x12 x13 x14 x15 _ _ _ _ _ _ _ _ _ _ _ _ _ _ _ _ _ _ _ _ _ _ _ _ _ _ _ _ _ _ _ _ _ _ _ _ _ _ _ _ _ _ _ _ _ _ _ _ _ _ _ _ _ _ _ _ _ _ _ _ _ _ _ _ _ _ _ _ _ _ _ _ _ _ _ _ _ _ _ _ _ _ _ _ _ _ _ _ _ _ _ _ _ _ _ _ _ _ _ _ _ _ _ _ _ _ _ _ _ _ _ _ _ _ _ _ _ _ _ _ _ _ _ _ w W1 W8 hs0 HK9 HMORE HCL HW8 HRL8 HRP8 HRA8 HRV8 hz1 hz8
end Go.Proofs.YtadhblppeaamlaaGreatDoor
/- ChooseMore behind the two calls of Choose, at kind 9. -/
namespace Go.Proofs.YtadhblppeaamlaaGreatDoor
open Go.RowKit
attribute [local go_sem] Ext.cell Ext.frozen
attribute [local go_sem ↓] Go.wp_at_zero Go.wp_at_succ
set_option maxRecDepth 100000 in
set_option maxHeartbeats 64000000 in
theorem more_end_sel (kind ci di : Int) (ce de cn cc qn qc cq : Nat) (cad qad : Option Addr) (name s1 s3 a0 a1 cs : ByteArray) (vt : Int) (x0 x1 x2 x3 x4 x5 x6 x7 x8 x9 x10 x11 x12 x13 x14 x15 : Value) (c0 c1 c2 c6 c8 c13 c14 c15 c16 c17 c18 c19 c20 c21 c22 c23 c24 c25 c26 c27 c28 c29 c30 c31 c32 c33 c34 c35 c36 c37 c38 c39 c40 c41 c42 c43 c44 c45 c46 c47 c48 c49 c50 c51 c52 c53 c54 c55 c56 c57 c58 c59 c60 c61 c62 c63 c64 c65 c66 c67 c68 c69 c70 c71 c72 c73 c74 c75 c76 c77 c78 c79 c80 c81 c82 c83 c84 c85 c86 c87 c88 c89 c90 c91 c92 c93 c94 c95 c96 c97 c98 c99 c100 c101 c102 c103 c104 c105 c106 c107 c108 c109 c110 c111 c112 c113 c114 c115 c116 c117 c118 c119 c120 c121 c122 c123 c124 c125 c126 c127 c128 c129 c130 c131 : Value) (w W1 W8 : World) (hs0 : a0.size ≤ 200) (HK9 : Hid (kind = 9)) (HMORE : Hid (ce = 0 → de = 0 ∧ (di = ci ∨ di = (cn : Int) ∧ (kind = 9 ∧ a1 = a0 ∨ kind ≠ 9 ∧ (a1 = bs (61 :: a0.data.toList) ∨ a1 = cs)))))
    (HCL : Hid (∀ (W : World), Below w.heap.size w W → Calls Tryz.prog 16 #[.agg #[x0, x1, x2, x3, x4, x5, x6, x7, x8, x9, x10, x11, x12, x13, x14, x15], .int .i64 kind, .string a0] W fun e w' => e = .returned (.tuple #[.string cs, .int .i64 (cq : Int)]) ∧ Below W.heap.size W w')) (HW8 : Hid (Below w.heap.size w W8)) (HRL8 : Hid (W8.heap[w.heap.size]? = some (.cells #[x0, x1, x2, x3, x4, x5, x6, x7, x8, x9, x10, x11, x12, x13, x14, x15] 30 (0, 0)))) (HRP8 : Hid (W8.heap[w.heap.size + 1]? = some (.cells #[.int .i64 kind, .string s1, .string name, .string s3, .slice cad cn cc, .slice qad qn qc] 34 (0, 0)))) (HRA8 : Hid (W8.heap[w.heap.size + 2]? = some (.cells #[.string a0, .string a1] 47 (0, 0)))) (HRV8 : Hid (W8.heap[W1.heap.size]? = some (.cells #[.string name, .int .i64 vt, .string a0, .int .i64 0, .slice none 0 0] 46 (0, 0)))) (hz1 : w.heap.size + 2 < W1.heap.size) (o83 : W1.heap.size < W8.heap.size) :
    (moreC 12).wp Tryz.prog (bodyPost Tryz.prog Tryz.f5 fun e w' => e = .returned (.bool true) ∧ Below w.heap.size w w') ⟨#[c0, c1, c2, .pointer (some ⟨w.heap.size, 0, none⟩), .pointer (some ⟨w.heap.size + 1, 0, none⟩), .pointer (some ⟨w.heap.size + 1 + 1, 0, none⟩), c6, .pointer (some ⟨W1.heap.size, 0, none⟩), c8, .int .i64 ci, .int .i64 (ce : Int), .int .i64 di, .int .i64 (de : Int), c13, c14, c15, c16, c17, c18, c19, c20, c21, c22, c23, c24, c25, c26, c27, c28, c29, c30, c31, c32, c33, c34, c35, c36, c37, c38, c39, c40, c41, c42, c43, c44, c45, c46, c47, c48, c49, c50, c51, c52, c53, c54, c55, c56, c57, c58, c59, c60, c61, c62, c63, c64, c65, c66, c67, c68, c69, c70, c71, c72, c73, c74, c75, c76, c77, c78, c79, c80, c81, c82, c83, c84, c85, c86, c87, c88, c89, c90, c91, c92, c93, c94, c95, c96, c97, c98, c99, c100, c101, c102, c103, c104, c105, c106, c107, c108, c109, c110, c111, c112, c113, c114, c115, c116, c117, c118, c119, c120, c121, c122, c123, c124, c125, c126, c127, c128, c129, c130, c131], []⟩ W8 := by
  conv => arg 2; whnf
  by_cases he : ce = 0
  · obtain ⟨hde, hcase⟩ := HMORE.out he
    subst he
    subst hde
    have ez : (((0 : Nat) : Int) != 0) = false := rfl
    have ey : (((0 : Nat) : Int) == 0) = true := rfl
    by_cases hdc : ci = di
    · subst hdc
      have ec : (ci == ci) = true := by simp
      clear hcase HMORE
      go_wp2_with fail
      go_ret
      exact ⟨rfl, HW8.out⟩
    · have ec : (ci == di) = false := by rw [beq_eq_false_iff_ne]; exact hdc
      rcases hcase with h | ⟨hdn, hor⟩
      · exact absurd h.symm hdc
      subst hdn
      have en : ((cn : Int) == (cn : Int)) = true := by simp
      clear HMORE hdc
      have o80 : w.heap.size < W8.heap.size := by omega
      have o81 : w.heap.size + 1 < W8.heap.size := by omega
      have o82 : w.heap.size + 2 < W8.heap.size := by omega
      have lq0 : W8.cell? ⟨w.heap.size, 0, none⟩ = some (x0) := by rw [Lib.cell_of_heap HRL8.out]; rfl
      have lq1 : W8.cell? ⟨w.heap.size, 1, none⟩ = some (x1) := by rw [Lib.cell_of_heap HRL8.out]; rfl
      have lq2 : W8.cell? ⟨w.heap.size, 2, none⟩ = some (x2) := by rw [Lib.cell_of_heap HRL8.out]; rfl
      have lq3 : W8.cell? ⟨w.heap.size, 3, none⟩ = some (x3) := by rw [Lib.cell_of_heap HRL8.out]; rfl
      have lq4 : W8.cell? ⟨w.heap.size, 4, none⟩ = some (x4) := by rw [Lib.cell_of_heap HRL8.out]; rfl
      have lq5 : W8.cell? ⟨w.heap.size, 5, none⟩ = some (x5) := by rw [Lib.cell_of_heap HRL8.out]; rfl
      have lq6 : W8.cell? ⟨w.heap.size, 6, none⟩ = some (x6) := by rw [Lib.cell_of_heap HRL8.out]; rfl
      have lq7 : W8.cell? ⟨w.heap.size, 7, none⟩ = some (x7) := by rw [Lib.cell_of_heap HRL8.out]; rfl
      have lq8 : W8.cell? ⟨w.heap.size, 8, none⟩ = some (x8) := by rw [Lib.cell_of_heap HRL8.out]; rfl
      have lq9 : W8.cell? ⟨w.heap.size, 9, none⟩ = some (x9) := by rw [Lib.cell_of_heap HRL8.out]; rfl
      have lq10 : W8.cell? ⟨w.heap.size, 10, none⟩ = some (x10) := by rw [Lib.cell_of_heap HRL8.out]; rfl
      have lq11 : W8.cell? ⟨w.heap.size, 11, none⟩ = some (x11) := by rw [Lib.cell_of_heap HRL8.out]; rfl
      have lq12 : W8.cell? ⟨w.heap.size, 12, none⟩ = some (x12) := by rw [Lib.cell_of_heap HRL8.out]; rfl
      have lq13 : W8.cell? ⟨w.heap.size, 13, none⟩ = some (x13) := by rw [Lib.cell_of_heap HRL8.out]; rfl
      have lq14 : W8.cell? ⟨w.heap.size, 14, none⟩ = some (x14) := by rw [Lib.cell_of_heap HRL8.out]; rfl
      have lq15 : W8.cell? ⟨w.heap.size, 15, none⟩ = some (x15) := by rw [Lib.cell_of_heap HRL8.out]; rfl
      have pq0 : W8.cell? ⟨w.heap.size + 1, 0, none⟩ = some (.int .i64 kind) := by rw [Lib.cell_of_heap HRP8.out]; rfl
      have pq1 : W8.cell? ⟨w.heap.size + 1, 1, none⟩ = some (.string s1) := by rw [Lib.cell_of_heap HRP8.out]; rfl
      have pq2 : W8.cell? ⟨w.heap.size + 1, 2, none⟩ = some (.string name) := by rw [Lib.cell_of_heap HRP8.out]; rfl
      have pq3 : W8.cell? ⟨w.heap.size + 1, 3, none⟩ = some (.string s3) := by rw [Lib.cell_of_heap HRP8.out]; rfl
      have pq4 : W8.cell? ⟨w.heap.size + 1, 4, none⟩ = some (.slice cad cn cc) := by rw [Lib.cell_of_heap HRP8.out]; rfl
      have pq5 : W8.cell? ⟨w.heap.size + 1, 5, none⟩ = some (.slice qad qn qc) := by rw [Lib.cell_of_heap HRP8.out]; rfl
      have vq0 : W8.cell? ⟨W1.heap.size, 0, none⟩ = some (.string name) := by rw [Lib.cell_of_heap HRV8.out]; rfl
      have vq1 : W8.cell? ⟨W1.heap.size, 1, none⟩ = some (.int .i64 vt) := by rw [Lib.cell_of_heap HRV8.out]; rfl
      have vq2 : W8.cell? ⟨W1.heap.size, 2, none⟩ = some (.string a0) := by rw [Lib.cell_of_heap HRV8.out]; rfl
      have vq3 : W8.cell? ⟨W1.heap.size, 3, none⟩ = some (.int .i64 0) := by rw [Lib.cell_of_heap HRV8.out]; rfl
      have vq4 : W8.cell? ⟨W1.heap.size, 4, none⟩ = some (.slice none 0 0) := by rw [Lib.cell_of_heap HRV8.out]; rfl
      go_wp2_with fail
      refine (HCL.out _ HW8.out).mono ?_
      rintro e W9 ⟨rfl, hb9⟩
      have HB9 : Hid (Below W8.heap.size W8 W9) := hb9
      have HW9 : Hid (Below w.heap.size w W9) := HW8.out.trans (HB9.out.mono HW8.out.size)
      have HRP9 : Hid (W9.heap[w.heap.size + 1]? = some (.cells #[.int .i64 kind, .string s1, .string name, .string s3, .slice cad cn cc, .slice qad qn qc] 34 (0, 0))) := (HB9.out.block _ (by omega)).trans HRP8.out
      have HRV9 : Hid (W9.heap[W1.heap.size]? = some (.cells #[.string name, .int .i64 vt, .string a0, .int .i64 0, .slice none 0 0] 46 (0, 0))) := (HB9.out.block _ (by omega)).trans HRV8.out
      have HRA9 : Hid (W9.heap[w.heap.size + 2]? = some (.cells #[.string a0, .string a1] 47 (0, 0))) := (HB9.out.block _ (by omega)).trans HRA8.out
      have hz9 : W1.heap.size < W9.heap.size := by have := HB9.out.size; omega
      clear hb9
      clear lq0 lq1 lq2 lq3 lq4 lq5 lq6 lq7 lq8 lq9 lq10 lq11 lq12 lq13 lq14 lq15 pq0 pq1 pq2 pq3 pq4 pq5 vq0 vq1 vq2 vq3 vq4
      have pq0 : W9.cell? ⟨w.heap.size + 1, 0, none⟩ = some (.int .i64 kind) := by rw [Lib.cell_of_heap HRP9.out]; rfl
      have pq1 : W9.cell? ⟨w.heap.size + 1, 1, none⟩ = some (.string s1) := by rw [Lib.cell_of_heap HRP9.out]; rfl
      have pq2 : W9.cell? ⟨w.heap.size + 1, 2, none⟩ = some (.string name) := by rw [Lib.cell_of_heap HRP9.out]; rfl
      have pq3 : W9.cell? ⟨w.heap.size + 1, 3, none⟩ = some (.string s3) := by rw [Lib.cell_of_heap HRP9.out]; rfl
      have pq4 : W9.cell? ⟨w.heap.size + 1, 4, none⟩ = some (.slice cad cn cc) := by rw [Lib.cell_of_heap HRP9.out]; rfl
      have pq5 : W9.cell? ⟨w.heap.size + 1, 5, none⟩ = some (.slice qad qn qc) := by rw [Lib.cell_of_heap HRP9.out]; rfl
      have vq0 : W9.cell? ⟨W1.heap.size, 0, none⟩ = some (.string name) := by rw [Lib.cell_of_heap HRV9.out]; rfl
      have vq1 : W9.cell? ⟨W1.heap.size, 1, none⟩ = some (.int .i64 vt) := by rw [Lib.cell_of_heap HRV9.out]; rfl
      have vq2 : W9.cell? ⟨W1.heap.size, 2, none⟩ = some (.string a0) := by rw [Lib.cell_of_heap HRV9.out]; rfl
      have vq3 : W9.cell? ⟨W1.heap.size, 3, none⟩ = some (.int .i64 0) := by rw [Lib.cell_of_heap HRV9.out]; rfl
      have vq4 : W9.cell? ⟨W1.heap.size, 4, none⟩ = some (.slice none 0 0) := by rw [Lib.cell_of_heap HRV9.out]; rfl
      have aq0 : W9.cell? ⟨w.heap.size + 2, 0, none⟩ = some (.string a0) := by rw [Lib.cell_of_heap HRA9.out]; rfl
      have aq1 : W9.cell? ⟨w.heap.size + 2, 1, none⟩ = some (.string a1) := by rw [Lib.cell_of_heap HRA9.out]; rfl
      have aa := fun W => run_string_add_sum (P := Tryz.prog) (w := W) ⟨#[61]⟩ a0 (by rw [show (⟨#[61]⟩ : ByteArray).size = 1 from rfl]; omega)
      have HEQ : Hid ((⟨#[61]⟩ : ByteArray) ++ a0 = bs (61 :: a0.data.toList)) := by
        have := bs_append [61] a0.data.toList
        rw [bs_self] at this
        exact this
      have ha : a1 = a0 := by
        rcases hor with ⟨_, h⟩ | ⟨h, _⟩
        · exact h
        · exact absurd HK9.out h
      have q1 : (a1.toList == a0.toList) = true := by rw [ha]; simp
      clear hor ha
      go_wp2_with fail
      go_ret
      exact ⟨rfl, HW9.out⟩
  · have e0 : ((ce : Int) == 0) = false := by rw [beq_eq_false_iff_ne]; omega
    have e1 : ((ce : Int) != 0) = true := by rw [bne, e0]; rfl
    go_wp2_with fail
    go_ret
    exact ⟨rfl, HW8.out⟩
end Go.Proofs.YtadhblppeaamlaaGreatDoor
