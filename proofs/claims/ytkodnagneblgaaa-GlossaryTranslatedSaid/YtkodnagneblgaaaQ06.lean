/- Walks: the library's merge: its last parts. -/
import Derived.Test.YtkodnagneblgaaaQ05
import Derived.Deep.DeepCutAuto
namespace Go.Proofs.Ytkodnagneblgaaa
open Go.RowKit Go.Sort
attribute [local go_sem ↓] Go.wp_at_zero Go.wp_at_succ
/-- the text of a function from a region on -/
def fromReg (n : Nat) : Code → Code
  | .seq a b => match a with
    | .region k _ _ => if k = n then .seq a b else fromReg n b
    | .seq (.region k _ _) _ => if k = n then .seq a b else fromReg n b
    | _ => fromReg n b
  | .scope c => fromReg n c
  | c => c
/-- the last statement -/
def lastOf : Code → Code
  | .seq _ b => lastOf b
  | c => c
noncomputable def symC (n : Nat) : Code := fromReg n ((Try.f59.body).getD .skip)
set_option maxRecDepth 100000 in
set_option maxHeartbeats 4000000 in
theorem sym_43 {K : Nat} {R : Int → Int → Prop} (xb : Nat) (w0 : World) (blk off cap : Nat) (d0 : Array (Fin (K + 1))) (a m b M E i : Nat) (RR : Ending → World → Prop) (v5 v6 v7 v8 v9 v10 v11 v12 v13 v14 v15 v16 v17 v19 v21 v22 v23 v25 v26 v27 v28 v29 v30 v31 v32 v33 v34 v35 v36 v37 v38 v39 v40 v41 v42 v43 v44 v45 v46 v47 v48 v49 v50 v51 v52 v53 v54 v55 v56 v57 v58 v59 v60 v61 v62 v63 v64 v65 v66 v67 v68 v69 v70 v71 v72 v73 v74 v75 v76 v77 v78 v79 v80 v81 v82 v83 v84 v85 v86 v87 v88 v89 v90 v91 v92 v93 v94 v95 v96 v97 v98 v99 v100 v101 v102 v103 v104 v105 v106 v107 v108 v109 v110 v111 v112 v113 v114 v115 v116 v117 v118 v119 v120 v121 v122 v123 v124 v125 v126 v127 v128 v129 v130 v131 v132 v133 v134 v135 v136 v137 v138 v139 v140 v141 v142 v143 v144 v145 v146 v147 v148 v149 v150 v151 v152 v153 v154 v155 v156 v157 v158 v159 v160 v161 v162 v163 v164 v165 v166 v167 v168 v169 v170 v171 v172 v173 v174 v175 v176 v177 v178 v179 v180 v181 v182 v183 v184 v185 v186 v187 v188 v189 v190 v191 v192 v193 v194 v195 v196 v197 v198 v199 v200 v201 v202 v203 v204 v205 v206 v207 v208 v209 v210 v211 v212 v213 v214 v215 v216 v217 v218 v219 : Value) (n : Nat) (d2 : Array (Fin (K + 1)))
    (hcall : M < E → E < b → Calls Try.prog 59 #[.slice (some ⟨blk, off, none⟩) d0.size cap, .int .i64 (M : Int), .int .i64 (E : Int), .int .i64 (b : Int), .func (.func 51) #[] #[.pointer (some ⟨xb, 0, none⟩)]] ((putRow encI w0 blk off d2).drewN n) fun e w' => e = .returned (.tuple #[]) ∧ ∃ (q' : Nat) (d' : Array (Fin (K + 1))), d'.size = d0.size ∧ SortO R (zOf d') M b ∧ MemO (zOf d2) (zOf d') M b ∧ SameO (zOf d2) (zOf d') M b ∧ w' = (putRow encI w0 blk off d').drewN q')
    (hf1 : ∀ (q : Nat) (d3 : Array (Fin (K + 1))), d3.size = d0.size → SortO R (zOf d3) M b → MemO (zOf d2) (zOf d3) M b → SameO (zOf d2) (zOf d3) M b → RR (.returned (.tuple #[])) ((putRow encI w0 blk off d3).drewN q))
    (hf0 : ¬ (M < E ∧ E < b) → RR (.returned (.tuple #[])) ((putRow encI w0 blk off d2).drewN n)) :
    (symC 43).wp Try.prog (bodyPost Try.prog Try.f59 RR) ⟨#[.slice (some ⟨blk, off, none⟩) d0.size cap, .int .i64 (a : Int), .int .i64 (m : Int), .int .i64 (b : Int), .func (.func 51) #[] #[.pointer (some ⟨xb, 0, none⟩)], v5, v6, v7, v8, v9, v10, v11, v12, v13, v14, v15, v16, v17, .int .i64 (M : Int), v19, .int .i64 (i : Int), v21, v22, v23, .int .i64 (E : Int), v25, v26, v27, v28, v29, v30, v31, v32, v33, v34, v35, v36, v37, v38, v39, v40, v41, v42, v43, v44, v45, v46, v47, v48, v49, v50, v51, v52, v53, v54, v55, v56, v57, v58, v59, v60, v61, v62, v63, v64, v65, v66, v67, v68, v69, v70, v71, v72, v73, v74, v75, v76, v77, v78, v79, v80, v81, v82, v83, v84, v85, v86, v87, v88, v89, v90, v91, v92, v93, v94, v95, v96, v97, v98, v99, v100, v101, v102, v103, v104, v105, v106, v107, v108, v109, v110, v111, v112, v113, v114, v115, v116, v117, v118, v119, v120, v121, v122, v123, v124, v125, v126, v127, v128, v129, v130, v131, v132, v133, v134, v135, v136, v137, v138, v139, v140, v141, v142, v143, v144, v145, v146, v147, v148, v149, v150, v151, v152, v153, v154, v155, v156, v157, v158, v159, v160, v161, v162, v163, v164, v165, v166, v167, v168, v169, v170, v171, v172, v173, v174, v175, v176, v177, v178, v179, v180, v181, v182, v183, v184, v185, v186, v187, v188, v189, v190, v191, v192, v193, v194, v195, v196, v197, v198, v199, v200, v201, v202, v203, v204, v205, v206, v207, v208, v209, v210, v211, v212, v213, v214, v215, v216, v217, v218, v219], []⟩ ((putRow encI w0 blk off d2).drewN n) := by
  dsimp only
  conv => arg 2; whnf
  have HC := Lib.hid hcall
  have HF1 := Lib.hid hf1
  have HF0 := Lib.hid hf0
  clear hcall hf1 hf0
  go_upto_region 43 with (fail)
  go_cut [213] (fun v wx => v = .bool (decide (M < E ∧ E < b)) ∧ wx = (putRow encI w0 blk off d2).drewN n)
  case first =>
    by_cases h1 : M < E
    · by_cases h2 : E < b
      · have k1 : decide ((M : Int) < (E : Int)) = true := decide_eq_true (by omega)
        have j1 : (M : Int) < (E : Int) := by omega
        have k2 : decide ((E : Int) < (b : Int)) = true := decide_eq_true (by omega)
        have j2 : (E : Int) < (b : Int) := by omega
        have hd : decide (M < E ∧ E < b) = true := decide_eq_true (by omega)
        go_wp2_with fail
        go_meet
        exact ⟨by rw [hd], rfl⟩
      · have k1 : decide ((M : Int) < (E : Int)) = true := decide_eq_true (by omega)
        have j1 : (M : Int) < (E : Int) := by omega
        have k2 : decide ((E : Int) < (b : Int)) = false := decide_eq_false (by omega)
        have j2 : ¬ (E : Int) < (b : Int) := by omega
        have hd : decide (M < E ∧ E < b) = false := decide_eq_false (by omega)
        go_wp2_with fail
        go_meet
        exact ⟨by rw [hd], rfl⟩
    · have k1 : decide ((M : Int) < (E : Int)) = false := decide_eq_false (by omega)
      have j1 : ¬ (M : Int) < (E : Int) := by omega
      have hd : decide (M < E ∧ E < b) = false := decide_eq_false (by omega)
      go_wp2_with fail
      go_meet
      exact ⟨by rw [hd], rfl⟩
  case rest =>
  obtain ⟨rfl, rfl⟩ := hcut
  go_upto_if 213 with (fail)
  by_cases hg : M < E ∧ E < b
  · rw [decide_eq_true hg]
    go_wp2_with fail
    refine (HC.out hg.1 hg.2).mono ?_
    rintro e w3 ⟨rfl, n3, d3, hs3, ht, hm, he, rfl⟩
    have HFIN := Lib.hid (HF1.out n3 d3 hs3 ht hm he)
    clear ht hm he
    go_wp2_with fail
    go_end0
    exact HFIN.out
  · rw [decide_eq_false hg]
    go_wp2_with fail
    go_end0
    exact HF0.out hg
set_option maxRecDepth 100000 in
set_option maxHeartbeats 4000000 in
theorem sym_41 {K : Nat} {R : Int → Int → Prop} (xb : Nat) (w0 : World) (blk off cap : Nat) (d0 : Array (Fin (K + 1))) (a m b M E i : Nat) (RR : Ending → World → Prop) (v5 v6 v7 v8 v9 v10 v11 v12 v13 v14 v15 v16 v17 v19 v21 v22 v23 v25 v26 v27 v28 v29 v30 v31 v32 v33 v34 v35 v36 v37 v38 v39 v40 v41 v42 v43 v44 v45 v46 v47 v48 v49 v50 v51 v52 v53 v54 v55 v56 v57 v58 v59 v60 v61 v62 v63 v64 v65 v66 v67 v68 v69 v70 v71 v72 v73 v74 v75 v76 v77 v78 v79 v80 v81 v82 v83 v84 v85 v86 v87 v88 v89 v90 v91 v92 v93 v94 v95 v96 v97 v98 v99 v100 v101 v102 v103 v104 v105 v106 v107 v108 v109 v110 v111 v112 v113 v114 v115 v116 v117 v118 v119 v120 v121 v122 v123 v124 v125 v126 v127 v128 v129 v130 v131 v132 v133 v134 v135 v136 v137 v138 v139 v140 v141 v142 v143 v144 v145 v146 v147 v148 v149 v150 v151 v152 v153 v154 v155 v156 v157 v158 v159 v160 v161 v162 v163 v164 v165 v166 v167 v168 v169 v170 v171 v172 v173 v174 v175 v176 v177 v178 v179 v180 v181 v182 v183 v184 v185 v186 v187 v188 v189 v190 v191 v192 v193 v194 v195 v196 v197 v198 v199 v200 v201 v202 v203 v204 v205 v206 v207 v208 v209 v210 v211 v212 v213 v214 v215 v216 v217 v218 v219 : Value) (n : Nat) (d1 : Array (Fin (K + 1))) (hN1 : d1.size = d0.size)
    (hcall : a < i → i < M → Calls Try.prog 59 #[.slice (some ⟨blk, off, none⟩) d0.size cap, .int .i64 (a : Int), .int .i64 (i : Int), .int .i64 (M : Int), .func (.func 51) #[] #[.pointer (some ⟨xb, 0, none⟩)]] ((putRow encI w0 blk off d1).drewN n) fun e w' => e = .returned (.tuple #[]) ∧ ∃ (q' : Nat) (d' : Array (Fin (K + 1))), d'.size = d0.size ∧ SortO R (zOf d') a M ∧ MemO (zOf d1) (zOf d') a M ∧ SameO (zOf d1) (zOf d') a M ∧ w' = (putRow encI w0 blk off d').drewN q')
    (h0 : ¬ (a < i ∧ i < M) → SortO R (zOf d1) a M)
    (hnext : ∀ (v5 v6 v7 v8 v9 v10 v11 v12 v13 v14 v15 v16 v17 v19 v21 v22 v23 v25 v26 v27 v28 v29 v30 v31 v32 v33 v34 v35 v36 v37 v38 v39 v40 v41 v42 v43 v44 v45 v46 v47 v48 v49 v50 v51 v52 v53 v54 v55 v56 v57 v58 v59 v60 v61 v62 v63 v64 v65 v66 v67 v68 v69 v70 v71 v72 v73 v74 v75 v76 v77 v78 v79 v80 v81 v82 v83 v84 v85 v86 v87 v88 v89 v90 v91 v92 v93 v94 v95 v96 v97 v98 v99 v100 v101 v102 v103 v104 v105 v106 v107 v108 v109 v110 v111 v112 v113 v114 v115 v116 v117 v118 v119 v120 v121 v122 v123 v124 v125 v126 v127 v128 v129 v130 v131 v132 v133 v134 v135 v136 v137 v138 v139 v140 v141 v142 v143 v144 v145 v146 v147 v148 v149 v150 v151 v152 v153 v154 v155 v156 v157 v158 v159 v160 v161 v162 v163 v164 v165 v166 v167 v168 v169 v170 v171 v172 v173 v174 v175 v176 v177 v178 v179 v180 v181 v182 v183 v184 v185 v186 v187 v188 v189 v190 v191 v192 v193 v194 v195 v196 v197 v198 v199 v200 v201 v202 v203 v204 v205 v206 v207 v208 v209 v210 v211 v212 v213 v214 v215 v216 v217 v218 v219 : Value) (n2 : Nat) (d2 : Array (Fin (K + 1))), d2.size = d0.size → MemO (zOf d1) (zOf d2) a M → SameO (zOf d1) (zOf d2) a M → SortO R (zOf d2) a M → (symC 43).wp Try.prog (bodyPost Try.prog Try.f59 RR) ⟨#[.slice (some ⟨blk, off, none⟩) d0.size cap, .int .i64 (a : Int), .int .i64 (m : Int), .int .i64 (b : Int), .func (.func 51) #[] #[.pointer (some ⟨xb, 0, none⟩)], v5, v6, v7, v8, v9, v10, v11, v12, v13, v14, v15, v16, v17, .int .i64 (M : Int), v19, .int .i64 (i : Int), v21, v22, v23, .int .i64 (E : Int), v25, v26, v27, v28, v29, v30, v31, v32, v33, v34, v35, v36, v37, v38, v39, v40, v41, v42, v43, v44, v45, v46, v47, v48, v49, v50, v51, v52, v53, v54, v55, v56, v57, v58, v59, v60, v61, v62, v63, v64, v65, v66, v67, v68, v69, v70, v71, v72, v73, v74, v75, v76, v77, v78, v79, v80, v81, v82, v83, v84, v85, v86, v87, v88, v89, v90, v91, v92, v93, v94, v95, v96, v97, v98, v99, v100, v101, v102, v103, v104, v105, v106, v107, v108, v109, v110, v111, v112, v113, v114, v115, v116, v117, v118, v119, v120, v121, v122, v123, v124, v125, v126, v127, v128, v129, v130, v131, v132, v133, v134, v135, v136, v137, v138, v139, v140, v141, v142, v143, v144, v145, v146, v147, v148, v149, v150, v151, v152, v153, v154, v155, v156, v157, v158, v159, v160, v161, v162, v163, v164, v165, v166, v167, v168, v169, v170, v171, v172, v173, v174, v175, v176, v177, v178, v179, v180, v181, v182, v183, v184, v185, v186, v187, v188, v189, v190, v191, v192, v193, v194, v195, v196, v197, v198, v199, v200, v201, v202, v203, v204, v205, v206, v207, v208, v209, v210, v211, v212, v213, v214, v215, v216, v217, v218, v219], []⟩ ((putRow encI w0 blk off d2).drewN n2)) :
    (symC 41).wp Try.prog (bodyPost Try.prog Try.f59 RR) ⟨#[.slice (some ⟨blk, off, none⟩) d0.size cap, .int .i64 (a : Int), .int .i64 (m : Int), .int .i64 (b : Int), .func (.func 51) #[] #[.pointer (some ⟨xb, 0, none⟩)], v5, v6, v7, v8, v9, v10, v11, v12, v13, v14, v15, v16, v17, .int .i64 (M : Int), v19, .int .i64 (i : Int), v21, v22, v23, .int .i64 (E : Int), v25, v26, v27, v28, v29, v30, v31, v32, v33, v34, v35, v36, v37, v38, v39, v40, v41, v42, v43, v44, v45, v46, v47, v48, v49, v50, v51, v52, v53, v54, v55, v56, v57, v58, v59, v60, v61, v62, v63, v64, v65, v66, v67, v68, v69, v70, v71, v72, v73, v74, v75, v76, v77, v78, v79, v80, v81, v82, v83, v84, v85, v86, v87, v88, v89, v90, v91, v92, v93, v94, v95, v96, v97, v98, v99, v100, v101, v102, v103, v104, v105, v106, v107, v108, v109, v110, v111, v112, v113, v114, v115, v116, v117, v118, v119, v120, v121, v122, v123, v124, v125, v126, v127, v128, v129, v130, v131, v132, v133, v134, v135, v136, v137, v138, v139, v140, v141, v142, v143, v144, v145, v146, v147, v148, v149, v150, v151, v152, v153, v154, v155, v156, v157, v158, v159, v160, v161, v162, v163, v164, v165, v166, v167, v168, v169, v170, v171, v172, v173, v174, v175, v176, v177, v178, v179, v180, v181, v182, v183, v184, v185, v186, v187, v188, v189, v190, v191, v192, v193, v194, v195, v196, v197, v198, v199, v200, v201, v202, v203, v204, v205, v206, v207, v208, v209, v210, v211, v212, v213, v214, v215, v216, v217, v218, v219], []⟩ ((putRow encI w0 blk off d1).drewN n) := by
  dsimp only
  conv => arg 2; whnf
  have HC := Lib.hid hcall
  have HN := Lib.hid hnext
  have H0 := Lib.hid h0
  clear hcall hnext h0
  refine wp_seq_k ?_
  intro K9 hK9
  go_upto_region 41 with (fail)
  go_cut [199] (fun v wx => v = .bool (decide (a < i ∧ i < M)) ∧ wx = (putRow encI w0 blk off d1).drewN n)
  case first =>
    by_cases h1 : a < i
    · by_cases h2 : i < M
      · have k1 : decide ((a : Int) < (i : Int)) = true := decide_eq_true (by omega)
        have j1 : (a : Int) < (i : Int) := by omega
        have k2 : decide ((i : Int) < (M : Int)) = true := decide_eq_true (by omega)
        have j2 : (i : Int) < (M : Int) := by omega
        have hd : decide (a < i ∧ i < M) = true := decide_eq_true (by omega)
        go_wp2_with fail
        go_meet
        exact ⟨by rw [hd], rfl⟩
      · have k1 : decide ((a : Int) < (i : Int)) = true := decide_eq_true (by omega)
        have j1 : (a : Int) < (i : Int) := by omega
        have k2 : decide ((i : Int) < (M : Int)) = false := decide_eq_false (by omega)
        have j2 : ¬ (i : Int) < (M : Int) := by omega
        have hd : decide (a < i ∧ i < M) = false := decide_eq_false (by omega)
        go_wp2_with fail
        go_meet
        exact ⟨by rw [hd], rfl⟩
    · have k1 : decide ((a : Int) < (i : Int)) = false := decide_eq_false (by omega)
      have j1 : ¬ (a : Int) < (i : Int) := by omega
      have hd : decide (a < i ∧ i < M) = false := decide_eq_false (by omega)
      go_wp2_with fail
      go_meet
      exact ⟨by rw [hd], rfl⟩
  case rest =>
  obtain ⟨rfl, rfl⟩ := hcut
  go_upto_if 199 with (fail)
  go_cut [] (fun wx => ∃ (n2 : Nat) (d2 : Array (Fin (K + 1))), d2.size = d0.size ∧ MemO (zOf d1) (zOf d2) a M ∧ SameO (zOf d1) (zOf d2) a M ∧ SortO R (zOf d2) a M ∧ wx = (putRow encI w0 blk off d2).drewN n2)
  case first =>
    by_cases hg : a < i ∧ i < M
    · rw [decide_eq_true hg]
      go_wp2_with fail
      refine (HC.out hg.1 hg.2).mono ?_
      rintro e w2 ⟨rfl, n2, d2, hs2, ht, hm, he, rfl⟩
      have HT := Lib.hid ht
      have HM := Lib.hid hm
      have HE := Lib.hid he
      clear ht hm he
      go_wp2_with fail
      go_meet
      exact ⟨n2, d2, hs2, HM.out, HE.out, HT.out, rfl⟩
    · rw [decide_eq_false hg]
      go_wp2_with fail
      go_meet
      exact ⟨n, d1, hN1, MemO.refl _ _ _, SameO.refl _ _ _, H0.out hg, rfl⟩
  case rest =>
  obtain ⟨n2, d2, hN2, hm2, he2, ht2, rfl⟩ := hcut
  refine hK9 _ _ ?_
  exact HN.out _ _ _ _ _ _ _ _ _ _ _ _ _ _ _ _ _ _ _ _ _ _ _ _ _ _ _ _ _ _ _ _ _ _ _ _ _ _ _ _ _ _ _ _ _ _ _ _ _ _ _ _ _ _ _ _ _ _ _ _ _ _ _ _ _ _ _ _ _ _ _ _ _ _ _ _ _ _ _ _ _ _ _ _ _ _ _ _ _ _ _ _ _ _ _ _ _ _ _ _ _ _ _ _ _ _ _ _ _ _ _ _ _ _ _ _ _ _ _ _ _ _ _ _ _ _ _ _ _ _ _ _ _ _ _ _ _ _ _ _ _ _ _ _ _ _ _ _ _ _ _ _ _ _ _ _ _ _ _ _ _ _ _ _ _ _ _ _ _ _ _ _ _ _ _ _ _ _ _ _ _ _ _ _ _ _ _ _ _ _ _ _ _ _ _ _ _ _ _ _ _ _ _ _ _ _ _ _ _ _ _ _ n2 d2 hN2 hm2 he2 ht2
set_option maxRecDepth 100000 in
set_option maxHeartbeats 4000000 in
theorem sym_39 {K : Nat} {_R : Int → Int → Prop} (xb : Nat) (w0 : World) (blk off cap : Nat) (d0 : Array (Fin (K + 1))) (a m b M E i : Nat) (RR : Ending → World → Prop) (v5 v6 v7 v8 v9 v10 v11 v12 v13 v14 v15 v16 v17 v19 v21 v22 v23 v25 v26 v27 v28 v29 v30 v31 v32 v33 v34 v35 v36 v37 v38 v39 v40 v41 v42 v43 v44 v45 v46 v47 v48 v49 v50 v51 v52 v53 v54 v55 v56 v57 v58 v59 v60 v61 v62 v63 v64 v65 v66 v67 v68 v69 v70 v71 v72 v73 v74 v75 v76 v77 v78 v79 v80 v81 v82 v83 v84 v85 v86 v87 v88 v89 v90 v91 v92 v93 v94 v95 v96 v97 v98 v99 v100 v101 v102 v103 v104 v105 v106 v107 v108 v109 v110 v111 v112 v113 v114 v115 v116 v117 v118 v119 v120 v121 v122 v123 v124 v125 v126 v127 v128 v129 v130 v131 v132 v133 v134 v135 v136 v137 v138 v139 v140 v141 v142 v143 v144 v145 v146 v147 v148 v149 v150 v151 v152 v153 v154 v155 v156 v157 v158 v159 v160 v161 v162 v163 v164 v165 v166 v167 v168 v169 v170 v171 v172 v173 v174 v175 v176 v177 v178 v179 v180 v181 v182 v183 v184 v185 v186 v187 v188 v189 v190 v191 v192 v193 v194 v195 v196 v197 v198 v199 v200 v201 v202 v203 v204 v205 v206 v207 v208 v209 v210 v211 v212 v213 v214 v215 v216 v217 v218 v219 : Value) (n : Nat) (d : Array (Fin (K + 1))) (hN : d.size = d0.size) (_hb : b ≤ d0.size) (c1 : i ≤ m) (c2 : m ≤ E) (_c3 : E ≤ b)
    (h0 : ¬ (i < m ∧ m < E) → i = m ∨ m = E)
    (hrot : i < m → m < E → ∀ fv : Value, Calls Try.prog 60 #[.slice (some ⟨blk, off, none⟩) d0.size cap, .int .i64 (i : Int), .int .i64 (m : Int), .int .i64 (E : Int), fv] ((putRow encI w0 blk off d).drewN n) fun e w' => e = .returned (.tuple #[]) ∧ ∃ (q' : Nat) (d' : Array (Fin (K + 1))), d'.size = d0.size ∧ RotO (zOf d) (zOf d') i m E ∧ w' = (putRow encI w0 blk off d').drewN q')
    (hnext : ∀ (v5 v6 v7 v8 v9 v10 v11 v12 v13 v14 v15 v16 v17 v19 v21 v22 v23 v25 v26 v27 v28 v29 v30 v31 v32 v33 v34 v35 v36 v37 v38 v39 v40 v41 v42 v43 v44 v45 v46 v47 v48 v49 v50 v51 v52 v53 v54 v55 v56 v57 v58 v59 v60 v61 v62 v63 v64 v65 v66 v67 v68 v69 v70 v71 v72 v73 v74 v75 v76 v77 v78 v79 v80 v81 v82 v83 v84 v85 v86 v87 v88 v89 v90 v91 v92 v93 v94 v95 v96 v97 v98 v99 v100 v101 v102 v103 v104 v105 v106 v107 v108 v109 v110 v111 v112 v113 v114 v115 v116 v117 v118 v119 v120 v121 v122 v123 v124 v125 v126 v127 v128 v129 v130 v131 v132 v133 v134 v135 v136 v137 v138 v139 v140 v141 v142 v143 v144 v145 v146 v147 v148 v149 v150 v151 v152 v153 v154 v155 v156 v157 v158 v159 v160 v161 v162 v163 v164 v165 v166 v167 v168 v169 v170 v171 v172 v173 v174 v175 v176 v177 v178 v179 v180 v181 v182 v183 v184 v185 v186 v187 v188 v189 v190 v191 v192 v193 v194 v195 v196 v197 v198 v199 v200 v201 v202 v203 v204 v205 v206 v207 v208 v209 v210 v211 v212 v213 v214 v215 v216 v217 v218 v219 : Value) (n1 : Nat) (d1 : Array (Fin (K + 1))), d1.size = d0.size → RotO (zOf d) (zOf d1) i m E → (symC 41).wp Try.prog (bodyPost Try.prog Try.f59 RR) ⟨#[.slice (some ⟨blk, off, none⟩) d0.size cap, .int .i64 (a : Int), .int .i64 (m : Int), .int .i64 (b : Int), .func (.func 51) #[] #[.pointer (some ⟨xb, 0, none⟩)], v5, v6, v7, v8, v9, v10, v11, v12, v13, v14, v15, v16, v17, .int .i64 (M : Int), v19, .int .i64 (i : Int), v21, v22, v23, .int .i64 (E : Int), v25, v26, v27, v28, v29, v30, v31, v32, v33, v34, v35, v36, v37, v38, v39, v40, v41, v42, v43, v44, v45, v46, v47, v48, v49, v50, v51, v52, v53, v54, v55, v56, v57, v58, v59, v60, v61, v62, v63, v64, v65, v66, v67, v68, v69, v70, v71, v72, v73, v74, v75, v76, v77, v78, v79, v80, v81, v82, v83, v84, v85, v86, v87, v88, v89, v90, v91, v92, v93, v94, v95, v96, v97, v98, v99, v100, v101, v102, v103, v104, v105, v106, v107, v108, v109, v110, v111, v112, v113, v114, v115, v116, v117, v118, v119, v120, v121, v122, v123, v124, v125, v126, v127, v128, v129, v130, v131, v132, v133, v134, v135, v136, v137, v138, v139, v140, v141, v142, v143, v144, v145, v146, v147, v148, v149, v150, v151, v152, v153, v154, v155, v156, v157, v158, v159, v160, v161, v162, v163, v164, v165, v166, v167, v168, v169, v170, v171, v172, v173, v174, v175, v176, v177, v178, v179, v180, v181, v182, v183, v184, v185, v186, v187, v188, v189, v190, v191, v192, v193, v194, v195, v196, v197, v198, v199, v200, v201, v202, v203, v204, v205, v206, v207, v208, v209, v210, v211, v212, v213, v214, v215, v216, v217, v218, v219], []⟩ ((putRow encI w0 blk off d1).drewN n1)) :
    (symC 39).wp Try.prog (bodyPost Try.prog Try.f59 RR) ⟨#[.slice (some ⟨blk, off, none⟩) d0.size cap, .int .i64 (a : Int), .int .i64 (m : Int), .int .i64 (b : Int), .func (.func 51) #[] #[.pointer (some ⟨xb, 0, none⟩)], v5, v6, v7, v8, v9, v10, v11, v12, v13, v14, v15, v16, v17, .int .i64 (M : Int), v19, .int .i64 (i : Int), v21, v22, v23, .int .i64 (E : Int), v25, v26, v27, v28, v29, v30, v31, v32, v33, v34, v35, v36, v37, v38, v39, v40, v41, v42, v43, v44, v45, v46, v47, v48, v49, v50, v51, v52, v53, v54, v55, v56, v57, v58, v59, v60, v61, v62, v63, v64, v65, v66, v67, v68, v69, v70, v71, v72, v73, v74, v75, v76, v77, v78, v79, v80, v81, v82, v83, v84, v85, v86, v87, v88, v89, v90, v91, v92, v93, v94, v95, v96, v97, v98, v99, v100, v101, v102, v103, v104, v105, v106, v107, v108, v109, v110, v111, v112, v113, v114, v115, v116, v117, v118, v119, v120, v121, v122, v123, v124, v125, v126, v127, v128, v129, v130, v131, v132, v133, v134, v135, v136, v137, v138, v139, v140, v141, v142, v143, v144, v145, v146, v147, v148, v149, v150, v151, v152, v153, v154, v155, v156, v157, v158, v159, v160, v161, v162, v163, v164, v165, v166, v167, v168, v169, v170, v171, v172, v173, v174, v175, v176, v177, v178, v179, v180, v181, v182, v183, v184, v185, v186, v187, v188, v189, v190, v191, v192, v193, v194, v195, v196, v197, v198, v199, v200, v201, v202, v203, v204, v205, v206, v207, v208, v209, v210, v211, v212, v213, v214, v215, v216, v217, v218, v219], []⟩ ((putRow encI w0 blk off d).drewN n) := by
  dsimp only
  conv => arg 2; whnf
  have HC := Lib.hid hrot
  have HN := Lib.hid hnext
  have H0 := Lib.hid h0
  clear hrot hnext h0
  refine wp_seq_k ?_
  intro K9 hK9
  go_upto_region 39 with (fail)
  go_cut [185] (fun v wx => v = .bool (decide (i < m ∧ m < E)) ∧ wx = (putRow encI w0 blk off d).drewN n)
  case first =>
    by_cases h1 : i < m
    · by_cases h2 : m < E
      · have k1 : decide ((i : Int) < (m : Int)) = true := decide_eq_true (by omega)
        have j1 : (i : Int) < (m : Int) := by omega
        have k2 : decide ((m : Int) < (E : Int)) = true := decide_eq_true (by omega)
        have j2 : (m : Int) < (E : Int) := by omega
        have hd : decide (i < m ∧ m < E) = true := decide_eq_true (by omega)
        go_wp2_with fail
        go_meet
        exact ⟨by rw [hd], rfl⟩
      · have k1 : decide ((i : Int) < (m : Int)) = true := decide_eq_true (by omega)
        have j1 : (i : Int) < (m : Int) := by omega
        have k2 : decide ((m : Int) < (E : Int)) = false := decide_eq_false (by omega)
        have j2 : ¬ (m : Int) < (E : Int) := by omega
        have hd : decide (i < m ∧ m < E) = false := decide_eq_false (by omega)
        go_wp2_with fail
        go_meet
        exact ⟨by rw [hd], rfl⟩
    · have k1 : decide ((i : Int) < (m : Int)) = false := decide_eq_false (by omega)
      have j1 : ¬ (i : Int) < (m : Int) := by omega
      have hd : decide (i < m ∧ m < E) = false := decide_eq_false (by omega)
      go_wp2_with fail
      go_meet
      exact ⟨by rw [hd], rfl⟩
  case rest =>
  obtain ⟨rfl, rfl⟩ := hcut
  go_upto_if 185 with (fail)
  go_cut [] (fun wx => ∃ (n1 : Nat) (d1 : Array (Fin (K + 1))), d1.size = d0.size ∧ RotO (zOf d) (zOf d1) i m E ∧ wx = (putRow encI w0 blk off d1).drewN n1)
  case first =>
    by_cases hg : i < m ∧ m < E
    · rw [decide_eq_true hg]
      go_wp2_with fail
      refine (HC.out hg.1 hg.2 _).mono ?_
      rintro e w2 ⟨rfl, n1, d1, hs1, hr1, rfl⟩
      have HR1 := Lib.hid hr1
      clear hr1
      go_wp2_with fail
      go_meet
      exact ⟨n1, d1, hs1, HR1.out, rfl⟩
    · rw [decide_eq_false hg]
      go_wp2_with fail
      go_meet
      exact ⟨n, d, hN, RotO.none (H0.out hg), rfl⟩
  case rest =>
  obtain ⟨n1, d1, hN1, hr1, rfl⟩ := hcut
  refine hK9 _ _ ?_
  exact HN.out _ _ _ _ _ _ _ _ _ _ _ _ _ _ _ _ _ _ _ _ _ _ _ _ _ _ _ _ _ _ _ _ _ _ _ _ _ _ _ _ _ _ _ _ _ _ _ _ _ _ _ _ _ _ _ _ _ _ _ _ _ _ _ _ _ _ _ _ _ _ _ _ _ _ _ _ _ _ _ _ _ _ _ _ _ _ _ _ _ _ _ _ _ _ _ _ _ _ _ _ _ _ _ _ _ _ _ _ _ _ _ _ _ _ _ _ _ _ _ _ _ _ _ _ _ _ _ _ _ _ _ _ _ _ _ _ _ _ _ _ _ _ _ _ _ _ _ _ _ _ _ _ _ _ _ _ _ _ _ _ _ _ _ _ _ _ _ _ _ _ _ _ _ _ _ _ _ _ _ _ _ _ _ _ _ _ _ _ _ _ _ _ _ _ _ _ _ _ _ _ _ _ _ _ _ _ _ _ _ _ _ _ n1 d1 hN1 hr1
end Go.Proofs.Ytkodnagneblgaaa
/- Walks: the library's merge, whole. -/
namespace Go.Proofs.Ytkodnagneblgaaa
open Go.RowKit Go.Sort
attribute [local go_sem ↓] Go.wp_at_zero Go.wp_at_succ
/-- where the merge's search begins -/
structure Srch (a m b M N S r0 : Nat) : Prop where
  aS : a ≤ S
  Sr : S ≤ r0
  rm : r0 ≤ m
  rM : r0 ≤ M
  nb : N ≤ S + b
  mn : m + r0 ≤ N
  lo : S = a ∨ N = S + b
  hi : r0 = m ∨ N = m + r0
set_option maxRecDepth 100000 in
set_option maxHeartbeats 16000000 in
theorem sym_step (K : Nat) (xb : Nat) (cf : Fin (K + 1) → Fin (K + 1) → Int) (R : Int → Int → Prop) (D : Int → Prop) (ho : Ord R D) (w0 : World) (blk off cap : Nat) (d0 : Array (Fin (K + 1)))
    (hcf : ∀ x y : Fin (K + 1), x.val < y.val → (cf y x < 0 ↔ R (y.val : Int) (x.val : Int))) (hcmp : CmpAt Try.prog 51 #[.pointer (some ⟨xb, 0, none⟩)] cf w0 blk off d0.size) (hH : Holds encI w0 blk off d0) (hsz : d0.size < 4611686018427387904) (k : Nat) (hih : ∀ (a m b q : Nat) (d : Array (Fin (K + 1))), b - a ≤ k → d.size = d0.size → a < m → m < b → b ≤ d0.size → SortO R (zOf d) a m → SortO R (zOf d) m b → CrossO (zOf d) a m b → DomO D (zOf d) a b →
        Calls Try.prog 59 #[.slice (some ⟨blk, off, none⟩) d0.size cap, .int .i64 a, .int .i64 m, .int .i64 b, .func (.func 51) #[] #[.pointer (some ⟨xb, 0, none⟩)]] ((putRow encI w0 blk off d).drewN q) fun e w' => e = .returned (.tuple #[]) ∧
      ∃ (q' : Nat) (d' : Array (Fin (K + 1))), d'.size = d0.size ∧ SortO R (zOf d') a b ∧ MemO (zOf d) (zOf d') a b ∧ SameO (zOf d) (zOf d') a b ∧ w' = (putRow encI w0 blk off d').drewN q') (a m b q : Nat) (d : Array (Fin (K + 1))) (hk : b - a ≤ k + 1) (hN : d.size = d0.size) (ham : a < m) (hmb : m < b) (hb : b ≤ d0.size) (hone : ¬ a + 1 = m) (hlast : ¬ m + 1 = b)
    (s1 : SortO R (zOf d) a m) (s2 : SortO R (zOf d) m b) (hc : CrossO (zOf d) a m b) (hd : DomO D (zOf d) a b) :
    Calls Try.prog 59 #[.slice (some ⟨blk, off, none⟩) d0.size cap, .int .i64 a, .int .i64 m, .int .i64 b, .func (.func 51) #[] #[.pointer (some ⟨xb, 0, none⟩)]] ((putRow encI w0 blk off d).drewN q) fun e w' => e = .returned (.tuple #[]) ∧
      ∃ (q' : Nat) (d' : Array (Fin (K + 1))), d'.size = d0.size ∧ SortO R (zOf d') a b ∧ MemO (zOf d) (zOf d') a b ∧ SameO (zOf d) (zOf d') a b ∧ w' = (putRow encI w0 blk off d').drewN q' := by
    have HIH := Lib.hid hih
    have HROT : Hid (∀ (a m b : Nat) (fv : Value) (d : Array (Fin (K + 1))) (n : Nat), d.size = d0.size → a < m → m < b → b ≤ d0.size → Calls Try.prog 60 #[.slice (some ⟨blk, off, none⟩) d0.size cap, .int .i64 (a : Int), .int .i64 (m : Int), .int .i64 (b : Int), fv] ((putRow encI w0 blk off d).drewN n) fun e w' => e = .returned (.tuple #[]) ∧
        ∃ (q' : Nat) (d' : Array (Fin (K + 1))), d'.size = d0.size ∧ RotO (zOf d) (zOf d') a m b ∧ w' = (putRow encI w0 blk off d').drewN q') := fun a m b fv d n h5 h2 h3 h4 => by
      have := rotate_any blk off cap a m b fv d ((putRow encI w0 blk off d).drewN n) (holds_putRow encI w0 blk off d0 d hH h5) h2 h3 (by omega) (by omega)
      rw [h5] at this
      refine this.mono ?_
      rintro e w2 ⟨rfl, q', d', hs, hr, rfl⟩
      exact ⟨rfl, n + q', d', hs, hr, row_two (hs.trans h5.symm)⟩
    clear hih
    have HH : Hid (Holds encI w0 blk off d0) := hH
    have HC : Hid (∀ (d : Array (Fin (K + 1))) (q : Nat), d.size = d0.size → ∀ x y n, _) := fun d q hd x y n => hcmp.quiet d q hd x y n
    have HCF := Lib.hid hcf
    have HO := Lib.hid ho
    have HS1 := Lib.hid s1
    have HS2 := Lib.hid s2
    have HCR := Lib.hid hc
    have HD := Lib.hid hd
    clear hH hcmp s1 s2 hc hd hcf ho
    have e1 : ((m : Int) - (a : Int) == 1) = false := by rw [beq_eq_false_iff_ne]; omega
    have e2 : ((b : Int) - (m : Int) == 1) = false := by rw [beq_eq_false_iff_ne]; omega
    obtain ⟨M, hM⟩ : ∃ M, (a + b) / 2 = M := ⟨_, rfl⟩
    have eM := half_int a b M hM
    have hM1 : 2 * M ≤ a + b := by omega
    have hM2 : a + b ≤ 2 * M + 1 := by omega
    obtain ⟨p, hp⟩ : ∃ p, M + m = p + 1 := ⟨M + m - 1, by omega⟩
    obtain ⟨N, hNN⟩ : ∃ N, p + 1 = N := ⟨_, rfl⟩
    have eN : (M : Int) + (m : Int) = (N : Int) := by omega
    have eP : (N : Int) - 1 = (p : Int) := by omega
    have hMN : M + m = N := by omega
    clear hM hp
    go_enter Try.func59, Try.ntmps59
    go_upto_if 140 with (fail)
    go_cut [20, 21] (fun u v wx => ∃ S r0 : Nat, u = .int .i64 (S : Int) ∧ v = .int .i64 (r0 : Int) ∧ Srch a m b M N S r0 ∧ wx = (putRow encI w0 blk off d).drewN q)
    case first =>
      by_cases hmM : M < m
      · obtain ⟨S, hS⟩ : ∃ S, S + b = N := ⟨N - b, by omega⟩
        have eS : (N : Int) - (b : Int) = (S : Int) := by omega
        go_wp2_with fail
        go_meet
        exact ⟨S, M, rfl, rfl, ⟨by omega, by omega, by omega, Nat.le_refl _, by omega, by omega, .inr hS.symm, .inr (by omega)⟩, rfl⟩
      · have hmM' : ¬ (M : Int) < (m : Int) := by omega
        go_wp2_with fail
        go_meet
        exact ⟨a, m, rfl, rfl, ⟨Nat.le_refl _, by omega, Nat.le_refl _, by omega, by omega, by omega, .inl rfl, .inl rfl⟩, rfl⟩
    case rest =>
    obtain ⟨S, r0, rfl, rfl, hsr, rfl⟩ := hcut
    have HSR := Lib.hid hsr
    have b1 := hsr.aS
    have b2 := hsr.Sr
    have b3 := hsr.rm
    have b4 := hsr.nb
    have b5 := hsr.mn
    have b6 := hsr.rM
    clear hsr
    go_wp2_with fail
    go_loopw [20, 21] (fun u v wr => ∃ (i j n : Nat), u = .int .i64 (i : Int) ∧ v = .int .i64 (j : Int) ∧ S ≤ i ∧ i ≤ j ∧ j ≤ r0 ∧ (i = S ∨ ¬ R (zOf d (N - i)) (zOf d (i - 1))) ∧ (j = r0 ∨ R (zOf d (N - 1 - j)) (zOf d j)) ∧ wr = (putRow encI w0 blk off d).drewN n) (fun u v _ => (intOf v).toNat - (intOf u).toNat)
    case atStart => exact ⟨S, r0, q, rfl, rfl, Nat.le_refl _, b2, Nat.le_refl _, .inl rfl, .inl rfl, rfl⟩
    case round =>
      obtain ⟨i, j, n, rfl, rfl, hai, hij, hjm, hlo, hhi, rfl⟩ := hrel
      have HLO := Lib.hid hlo
      have HHI := Lib.hid hhi
      clear hlo hhi
      by_cases hlt : i < j
      · obtain ⟨h, hh⟩ : ∃ h, (i + j) / 2 = h := ⟨_, rfl⟩
        have eh := half_int i j h hh
        have hb1 := mid_lt hlt
        rw [hh] at hb1
        obtain ⟨hb1, hb2⟩ := hb1
        obtain ⟨pc, hpc⟩ : ∃ pc, pc + h = p := ⟨p - h, by omega⟩
        have epc : (p : Int) - (h : Int) = (pc : Int) := by omega
        have HHK := holds_putRow encI w0 blk off d0 d HH.out hN
        have lpc : (pc : Int) < (d0.size : Int) := by omega
        have lh : (h : Int) < (d0.size : Int) := by omega
        obtain ⟨ca, fa⟩ := HHK (pc) (by omega)
        have ca' : ((putRow encI w0 blk off d).drewN n).cell? ⟨blk, off + (pc), none⟩ = some (encI d[pc]!) := ca
        clear ca fa
        obtain ⟨ch, fh⟩ := HHK (h) (by omega)
        have ch' : ((putRow encI w0 blk off d).drewN n).cell? ⟨blk, off + (h), none⟩ = some (encI d[h]!) := ch
        clear ch fh
        have hcl := HC.out d n hN d[pc]! d[h]!
        have HIF : Hid (cf d[pc]! d[h]! < 0 ↔ R (zOf d pc) (zOf d h)) := HCF.out d[h]! d[pc]! (val_lt (HCR.out h pc (by omega) (by omega) (by omega) (by omega)))
        have HW : Hid (∀ q', ((putRow encI w0 blk off d).drewN n).drewN q' = (putRow encI w0 blk off d).drewN (n + q')) := fun q' => World.drewN_drewN _ _ _
        have HE1 : Hid (N - 1 - h = pc) := by unfold Hid; omega
        have HE2 : Hid (N - (h + 1) = pc) := by unfold Hid; omega
        clear HHK hh
        generalize cf d[pc]! d[h]! = cv at *
        generalize (putRow encI w0 blk off d).drewN n = wq at *
        by_cases hcv : cv < 0
        · have HR1 := Lib.hid (HIF.out.1 hcv)
          have hdc : decide (cv < 0) = true := decide_eq_true hcv
          clear HIF
          go_wp2_with fail
          go_quiet (first | (go_at_call 51; refine Calls.quiet_of (hcl _)))
          go_wp2_with fail
          go_roundw
          case rel => exact ⟨i, h, n + nq, rfl, by go_num, hai, by omega, by omega, HLO.out, .inr (by rw [HE1.out]; exact HR1.out), HW.out nq⟩
          case measure => simp [intOf]; omega
        · have HR1 := Lib.hid (fun h' => hcv (HIF.out.2 h'))
          have hdc : decide (cv < 0) = false := decide_eq_false hcv
          clear HIF
          go_wp2_with fail
          go_quiet (first | (go_at_call 51; refine Calls.quiet_of (hcl _)))
          go_wp2_with fail
          go_roundw
          case rel => exact ⟨h + 1, j, n + nq, by go_num, rfl, by omega, by omega, hjm, .inr (by rw [HE2.out, Nat.add_sub_cancel]; exact HR1.out), HHI.out, HW.out nq⟩
          case measure => simp [intOf]; omega
      · obtain rfl : i = j := by omega
        obtain ⟨E, hE⟩ : ∃ E, E + i = N := ⟨N - i, by omega⟩
        have eE : (N : Int) - (i : Int) = (E : Int) := by omega
        have HA : Hid (∀ x y, a ≤ x → x < i → E ≤ y → y < b → R (zOf d x) (zOf d y)) := sym_A HO.out.tr HS1.out HS2.out (by omega) (by omega) (fun h1 h2 => by
          rcases HLO.out with h | h
          · rcases HSR.out.lo with h' | h' <;> omega
          · rw [show N - i = E by omega] at h
            rcases HO.out.tot (zOf d (i - 1)) (zOf d E) (HD.out _ (by omega) (by omega)) (HD.out _ (by omega) (by omega)) (HCR.out (i - 1) E (by omega) (by omega) (by omega) h2) with t | t
            · exact t
            · exact absurd t h)
        have HB : Hid (∀ x y, i ≤ x → x < m → m ≤ y → y < E → R (zOf d y) (zOf d x)) := sym_B HO.out.tr HS1.out HS2.out (by omega) (by omega) (fun h1 h2 => by
          rcases HHI.out with h | h
          · rcases HSR.out.hi with h' | h' <;> omega
          · rw [show N - 1 - i = E - 1 by omega] at h
            exact h)
        clear HLO HHI HC HCF
        have c1 : i ≤ m := by omega
        have c2 : m ≤ E := by omega
        have c3 : E ≤ b := by omega
        have c4 : a ≤ i := by omega
        have c5 : i ≤ M := by omega
        have c6 : M ≤ E := by omega
        have c7 : a < M := by omega
        have c8 : M < b := by omega
        have c9 : E - m + i = M := by omega
        have cA : M - a ≤ k := by omega
        have cB : b - M ≤ k := by omega
        go_upto_region 38 with (fail)
        go_cut [24] (fun v wx => v = .int .i64 (E : Int) ∧ wx = (putRow encI w0 blk off d).drewN n)
        case first =>
          go_wp2_with fail
          go_meet
          exact ⟨rfl, rfl⟩
        case rest =>
        obtain ⟨rfl, rfl⟩ := hcut
        rename_i K9 hK9
        refine hK9 _ _ ?_
        clear hK9
        refine sym_39 (_R := R) xb w0 blk off cap d0 a m b M E i _ _ _ _ _ _ _ _ _ _ _ _ _ _ _ _ _ _ _ _ _ _ _ _ _ _ _ _ _ _ _ _ _ _ _ _ _ _ _ _ _ _ _ _ _ _ _ _ _ _ _ _ _ _ _ _ _ _ _ _ _ _ _ _ _ _ _ _ _ _ _ _ _ _ _ _ _ _ _ _ _ _ _ _ _ _ _ _ _ _ _ _ _ _ _ _ _ _ _ _ _ _ _ _ _ _ _ _ _ _ _ _ _ _ _ _ _ _ _ _ _ _ _ _ _ _ _ _ _ _ _ _ _ _ _ _ _ _ _ _ _ _ _ _ _ _ _ _ _ _ _ _ _ _ _ _ _ _ _ _ _ _ _ _ _ _ _ _ _ _ _ _ _ _ _ _ _ _ _ _ _ _ _ _ _ _ _ _ _ _ _ _ _ _ _ _ _ _ _ _ _ _ _ _ _ _ _ _ _ _ _ _ _ n d hN hb c1 c2 c3 (fun h => by omega) (fun h1 h2 fv => HROT.out i m E fv d n hN h1 h2 (by omega)) ?_
        intro v5 v6 v7 v8 v9 v10 v11 v12 v13 v14 v15 v16 v17 v19 v21 v22 v23 v25 v26 v27 v28 v29 v30 v31 v32 v33 v34 v35 v36 v37 v38 v39 v40 v41 v42 v43 v44 v45 v46 v47 v48 v49 v50 v51 v52 v53 v54 v55 v56 v57 v58 v59 v60 v61 v62 v63 v64 v65 v66 v67 v68 v69 v70 v71 v72 v73 v74 v75 v76 v77 v78 v79 v80 v81 v82 v83 v84 v85 v86 v87 v88 v89 v90 v91 v92 v93 v94 v95 v96 v97 v98 v99 v100 v101 v102 v103 v104 v105 v106 v107 v108 v109 v110 v111 v112 v113 v114 v115 v116 v117 v118 v119 v120 v121 v122 v123 v124 v125 v126 v127 v128 v129 v130 v131 v132 v133 v134 v135 v136 v137 v138 v139 v140 v141 v142 v143 v144 v145 v146 v147 v148 v149 v150 v151 v152 v153 v154 v155 v156 v157 v158 v159 v160 v161 v162 v163 v164 v165 v166 v167 v168 v169 v170 v171 v172 v173 v174 v175 v176 v177 v178 v179 v180 v181 v182 v183 v184 v185 v186 v187 v188 v189 v190 v191 v192 v193 v194 v195 v196 v197 v198 v199 v200 v201 v202 v203 v204 v205 v206 v207 v208 v209 v210 v211 v212 v213 v214 v215 v216 v217 v218 v219 n1 d1 hN1 hr1
        have HPT := Lib.hid (sym_parts c4 c1 c2 c3 c9 HS1.out HS2.out HCR.out hr1)
        have HD1 := Lib.hid (HD.out.mem ((hr1.mem c1 c2).widen hr1.2.2 c4 c3))
        refine sym_41 (R := R) xb w0 blk off cap d0 a m b M E i _ _ _ _ _ _ _ _ _ _ _ _ _ _ _ _ _ _ _ _ _ _ _ _ _ _ _ _ _ _ _ _ _ _ _ _ _ _ _ _ _ _ _ _ _ _ _ _ _ _ _ _ _ _ _ _ _ _ _ _ _ _ _ _ _ _ _ _ _ _ _ _ _ _ _ _ _ _ _ _ _ _ _ _ _ _ _ _ _ _ _ _ _ _ _ _ _ _ _ _ _ _ _ _ _ _ _ _ _ _ _ _ _ _ _ _ _ _ _ _ _ _ _ _ _ _ _ _ _ _ _ _ _ _ _ _ _ _ _ _ _ _ _ _ _ _ _ _ _ _ _ _ _ _ _ _ _ _ _ _ _ _ _ _ _ _ _ _ _ _ _ _ _ _ _ _ _ _ _ _ _ _ _ _ _ _ _ _ _ _ _ _ _ _ _ _ _ _ _ _ _ _ _ _ _ _ _ _ _ _ _ _ _ n1 d1 hN1 (fun h1 h2 => (HIH.out a i M n1 d1 cA hN1 h1 h2 (by omega) HPT.out.1 HPT.out.2.1 HPT.out.2.2.1 (fun x x1 x2 => HD1.out x x1 (by omega))).mono ?_) (fun h => ?_) ?_
        · rintro e w2 ⟨he, q', d', hs, ht, hm, hx, hw⟩
          exact ⟨he, q', d', hs, ht, hm, hx, hw⟩
        · rcases (by omega : i = a ∨ i = M) with h' | h'
          · rw [← h']; exact HPT.out.2.1
          · rw [← h']; exact HPT.out.1
        intro v5 v6 v7 v8 v9 v10 v11 v12 v13 v14 v15 v16 v17 v19 v21 v22 v23 v25 v26 v27 v28 v29 v30 v31 v32 v33 v34 v35 v36 v37 v38 v39 v40 v41 v42 v43 v44 v45 v46 v47 v48 v49 v50 v51 v52 v53 v54 v55 v56 v57 v58 v59 v60 v61 v62 v63 v64 v65 v66 v67 v68 v69 v70 v71 v72 v73 v74 v75 v76 v77 v78 v79 v80 v81 v82 v83 v84 v85 v86 v87 v88 v89 v90 v91 v92 v93 v94 v95 v96 v97 v98 v99 v100 v101 v102 v103 v104 v105 v106 v107 v108 v109 v110 v111 v112 v113 v114 v115 v116 v117 v118 v119 v120 v121 v122 v123 v124 v125 v126 v127 v128 v129 v130 v131 v132 v133 v134 v135 v136 v137 v138 v139 v140 v141 v142 v143 v144 v145 v146 v147 v148 v149 v150 v151 v152 v153 v154 v155 v156 v157 v158 v159 v160 v161 v162 v163 v164 v165 v166 v167 v168 v169 v170 v171 v172 v173 v174 v175 v176 v177 v178 v179 v180 v181 v182 v183 v184 v185 v186 v187 v188 v189 v190 v191 v192 v193 v194 v195 v196 v197 v198 v199 v200 v201 v202 v203 v204 v205 v206 v207 v208 v209 v210 v211 v212 v213 v214 v215 v216 v217 v218 v219 n2 d2 hN2 hm2 he2 ht2
        have HEQ : Hid (∀ x, M ≤ x → x < b → zOf d2 x = zOf d1 x) := fun x x1 _ => he2 x (.inr x1)
        have g1 := HPT.out.2.2.2.1.congr (fun x x1 x2 => HEQ.out x x1 (by omega))
        have g2 := HPT.out.2.2.2.2.1.congr (fun x x1 x2 => HEQ.out x (by omega) x2)
        refine sym_43 (R := R) xb w0 blk off cap d0 a m b M E i _ _ _ _ _ _ _ _ _ _ _ _ _ _ _ _ _ _ _ _ _ _ _ _ _ _ _ _ _ _ _ _ _ _ _ _ _ _ _ _ _ _ _ _ _ _ _ _ _ _ _ _ _ _ _ _ _ _ _ _ _ _ _ _ _ _ _ _ _ _ _ _ _ _ _ _ _ _ _ _ _ _ _ _ _ _ _ _ _ _ _ _ _ _ _ _ _ _ _ _ _ _ _ _ _ _ _ _ _ _ _ _ _ _ _ _ _ _ _ _ _ _ _ _ _ _ _ _ _ _ _ _ _ _ _ _ _ _ _ _ _ _ _ _ _ _ _ _ _ _ _ _ _ _ _ _ _ _ _ _ _ _ _ _ _ _ _ _ _ _ _ _ _ _ _ _ _ _ _ _ _ _ _ _ _ _ _ _ _ _ _ _ _ _ _ _ _ _ _ _ _ _ _ _ _ _ _ _ _ _ _ _ _ n2 d2 (fun h1 h2 => (HIH.out M E b n2 d2 cB hN2 h1 h2 hb g1 g2 (HPT.out.2.2.2.2.2.congr (fun x x1 x2 => HEQ.out x x1 x2) (by omega) (by omega)) (fun x x1 x2 => by rw [HEQ.out x x1 x2]; exact HD1.out x (by omega) x2)).mono ?_) (fun q3 d3 hs3 ht hm he => ?_) (fun h => ?_)
        · rintro e w2 ⟨he, q', d', hs, ht, hm, hx, hw⟩
          exact ⟨he, q', d', hs, ht, hm, hx, hw⟩
        · have HFIN := sym_done c4 c1 c2 c3 c9 HS1.out HS2.out HA.out HB.out hr1 hm2 he2 ht2 hm he ht
          exact ⟨rfl, q3, d3, hs3, HFIN.1, HFIN.2.1, HFIN.2.2, rfl⟩
        · have HT3 : SortO R (zOf d2) M b := by
            rcases (by omega : E = M ∨ E = b) with h' | h'
            · rw [← h']; exact g2
            · rw [← h']; exact g1
          have HFIN := sym_done c4 c1 c2 c3 c9 HS1.out HS2.out HA.out HB.out hr1 hm2 he2 ht2 (MemO.refl _ _ _) (SameO.refl _ _ _) HT3
          exact ⟨rfl, n2, d2, hN2, HFIN.1, HFIN.2.1, HFIN.2.2, rfl⟩
theorem sym_any (K : Nat) (xb : Nat) (cf : Fin (K + 1) → Fin (K + 1) → Int) (R : Int → Int → Prop) (D : Int → Prop) (ho : Ord R D) (w0 : World) (blk off cap : Nat) (d0 : Array (Fin (K + 1)))
    (hcf : ∀ x y : Fin (K + 1), x.val < y.val → (cf y x < 0 ↔ R (y.val : Int) (x.val : Int))) (hcmp : CmpAt Try.prog 51 #[.pointer (some ⟨xb, 0, none⟩)] cf w0 blk off d0.size) (hH : Holds encI w0 blk off d0) (hsz : d0.size < 4611686018427387904) : ∀ (k a m b q : Nat) (d : Array (Fin (K + 1))), b - a ≤ k → d.size = d0.size → a < m → m < b → b ≤ d0.size →
    SortO R (zOf d) a m → SortO R (zOf d) m b → CrossO (zOf d) a m b → DomO D (zOf d) a b →
    Calls Try.prog 59 #[.slice (some ⟨blk, off, none⟩) d0.size cap, .int .i64 a, .int .i64 m, .int .i64 b, .func (.func 51) #[] #[.pointer (some ⟨xb, 0, none⟩)]] ((putRow encI w0 blk off d).drewN q) fun e w' => e = .returned (.tuple #[]) ∧
      ∃ (q' : Nat) (d' : Array (Fin (K + 1))), d'.size = d0.size ∧ SortO R (zOf d') a b ∧ MemO (zOf d) (zOf d') a b ∧ SameO (zOf d) (zOf d') a b ∧ w' = (putRow encI w0 blk off d').drewN q' := by
  intro k
  induction k with
  | zero => intro a m b q d hk _ ham hmb; omega
  | succ k ih =>
    intro a m b q d hk hN ham hmb hb s1 s2 hc hd
    by_cases hone : a + 1 = m
    · exact sym_one K xb cf R D ho w0 blk off cap d0 hcf hcmp hH hsz a m b q d hN hone hmb hb s2 hc hd
    by_cases hlast : m + 1 = b
    · exact sym_last K xb cf R D ho w0 blk off cap d0 hcf hcmp hH hsz a m b q d hN (by omega) hlast hb s1 hc hd
    exact sym_step K xb cf R D ho w0 blk off cap d0 hcf hcmp hH hsz k ih a m b q d hk hN ham hmb hb hone hlast s1 s2 hc hd
end Go.Proofs.Ytkodnagneblgaaa
