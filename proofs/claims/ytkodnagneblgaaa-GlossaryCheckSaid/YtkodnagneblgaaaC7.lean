/- Walks: the library's merge: its last parts. -/
import Derived.Test.YtkodnagneblgaaaC6
import Derived.Deep.DeepCutAuto
namespace Go.Proofs.Ytkodnagneblgaaa
open Go.RowKit Go.Sort
attribute [local go_sem ↓] Go.wp_at_zero Go.wp_at_succ
/-- the text of a function from a region on -/
def fromReg (n : Nat) : Code → Code
  | .seq a b => match a with
    | .region k _ _ => if k = n then .seq a b else fromReg n b
    | .seq (.region k _ _) _ => if k = n then .seq a b else fromReg n b
    | _ => fromReg n b
  | .scope c => fromReg n c
  | c => c
/-- the last statement -/
def lastOf : Code → Code
  | .seq _ b => lastOf b
  | c => c
noncomputable def symC (n : Nat) : Code := fromReg n ((Try.f59.body).getD .skip)
set_option maxRecDepth 100000 in
set_option maxHeartbeats 4000000 in
theorem sym_43 {K : Nat} {R : Int → Int → Prop} (xb : Nat) (w0 : World) (blk off cap : Nat) (d0 : Array (Fin (K + 1))) (a m b M E i : Nat) (RR : Ending → World → Prop) (v5 v6 v7 v8 v9 v10 v11 v12 v13 v14 v15 v16 v17 v19 v21 v22 v23 v25 v26 v27 v28 v29 v30 v31 v32 v33 v34 v35 v36 v37 v38 v39 v40 v41 v42 v43 v44 v45 v46 v47 v48 v49 v50 v51 v52 v53 v54 v55 v56 v57 v58 v59 v60 v61 v62 v63 v64 v65 v66 v67 v68 v69 v70 v71 v72 v73 v74 v75 v76 v77 v78 v79 v80 v81 v82 v83 v84 v85 v86 v87 v88 v89 v90 v91 v92 v93 v94 v95 v96 v97 v98 v99 v100 v101 v102 v103 v104 v105 v106 v107 v108 v109 v110 v111 v112 v113 v114 v115 v116 v117 v118 v119 v120 v121 v122 v123 v124 v125 v126 v127 v128 v129 v130 v131 v132 v133 v134 v135 v136 v137 v138 v139 v140 v141 v142 v143 v144 v145 v146 v147 v148 v149 v150 v151 v152 v153 v154 v155 v156 v157 v158 v159 v160 v161 v162 v163 v164 v165 v166 v167 v168 v169 v170 v171 v172 v173 v174 v175 v176 v177 v178 v179 v180 v181 v182 v183 v184 v185 v186 v187 v188 v189 v190 v191 v192 v193 v194 v195 v196 v197 v198 v199 v200 v201 v202 v203 v204 v205 v206 v207 v208 v209 v210 v211 v212 v213 v214 v215 v216 v217 v218 v219 : Value) (n : Nat) (d2 : Array (Fin (K + 1)))
    (hcall : M < E → E < b → Calls Try.prog 59 #[.slice (some ⟨blk, off, none⟩) d0.size cap, .int .i64 (M : Int), .int .i64 (E : Int), .int .i64 (b : Int), .func (.func 51) #[] #[.pointer (some ⟨xb, 0, none⟩)]] ((putRow encI w0 blk off d2).drewN n) fun e w' => e = .returned (.tuple #[]) ∧ ∃ (q' : Nat) (d' : Array (Fin (K + 1))), d'.size = d0.size ∧ SortO R (zOf d') M b ∧ MemO (zOf d2) (zOf d') M b ∧ SameO (zOf d2) (zOf d') M b ∧ w' = (putRow encI w0 blk off d').drewN q')
    (hf1 : ∀ (q : Nat) (d3 : Array (Fin (K + 1))), d3.size = d0.size → SortO R (zOf d3) M b → MemO (zOf d2) (zOf d3) M b → SameO (zOf d2) (zOf d3) M b → RR (.returned (.tuple #[])) ((putRow encI w0 blk off d3).drewN q))
    (hf0 : ¬ (M < E ∧ E < b) → RR (.returned (.tuple #[])) ((putRow encI w0 blk off d2).drewN n)) :
    (symC 43).wp Try.prog (bodyPost Try.prog Try.f59 RR) ⟨#[.slice (some ⟨blk, off, none⟩) d0.size cap, .int .i64 (a : Int), .int .i64 (m : Int), .int .i64 (b : Int), .func (.func 51) #[] #[.pointer (some ⟨xb, 0, none⟩)], v5, v6, v7, v8, v9, v10, v11, v12, v13, v14, v15, v16, v17, .int .i64 (M : Int), v19, .int .i64 (i : Int), v21, v22, v23, .int .i64 (E : Int), v25, v26, v27, v28, v29, v30, v31, v32, v33, v34, v35, v36, v37, v38, v39, v40, v41, v42, v43, v44, v45, v46, v47, v48, v49, v50, v51, v52, v53, v54, v55, v56, v57, v58, v59, v60, v61, v62, v63, v64, v65, v66, v67, v68, v69, v70, v71, v72, v73, v74, v75, v76, v77, v78, v79, v80, v81, v82, v83, v84, v85, v86, v87, v88, v89, v90, v91, v92, v93, v94, v95, v96, v97, v98, v99, v100, v101, v102, v103, v104, v105, v106, v107, v108, v109, v110, v111, v112, v113, v114, v115, v116, v117, v118, v119, v120, v121, v122, v123, v124, v125, v126, v127, v128, v129, v130, v131, v132, v133, v134, v135, v136, v137, v138, v139, v140, v141, v142, v143, v144, v145, v146, v147, v148, v149, v150, v151, v152, v153, v154, v155, v156, v157, v158, v159, v160, v161, v162, v163, v164, v165, v166, v167, v168, v169, v170, v171, v172, v173, v174, v175, v176, v177, v178, v179, v180, v181, v182, v183, v184, v185, v186, v187, v188, v189, v190, v191, v192, v193, v194, v195, v196, v197, v198, v199, v200, v201, v202, v203, v204, v205, v206, v207, v208, v209, v210, v211, v212, v213, v214, v215, v216, v217, v218, v219], []⟩ ((putRow encI w0 blk off d2).drewN n) := by
  dsimp only
  conv => arg 2; whnf
  have HC := Lib.hid hcall
  have HF1 := Lib.hid hf1
  have HF0 := Lib.hid hf0
  clear hcall hf1 hf0
  go_upto_region 43 with (fail)
  go_cut [213] (fun v wx => v = .bool (decide (M < E ∧ E < b)) ∧ wx = (putRow encI w0 blk off d2).drewN n)
  case first =>
    by_cases h1 : M < E
    · by_cases h2 : E < b
      · have k1 : decide ((M : Int) < (E : Int)) = true := decide_eq_true (by omega)
        have j1 : (M : Int) < (E : Int) := by omega
        have k2 : decide ((E : Int) < (b : Int)) = true := decide_eq_true (by omega)
        have j2 : (E : Int) < (b : Int) := by omega
        have hd : decide (M < E ∧ E < b) = true := decide_eq_true (by omega)
        go_wp2_with fail
        go_meet
        exact ⟨by rw [hd], rfl⟩
      · have k1 : decide ((M : Int) < (E : Int)) = true := decide_eq_true (by omega)
        have j1 : (M : Int) < (E : Int) := by omega
        have k2 : decide ((E : Int) < (b : Int)) = false := decide_eq_false (by omega)
        have j2 : ¬ (E : Int) < (b : Int) := by omega
        have hd : decide (M < E ∧ E < b) = false := decide_eq_false (by omega)
        go_wp2_with fail
        go_meet
        exact ⟨by rw [hd], rfl⟩
    · have k1 : decide ((M : Int) < (E : Int)) = false := decide_eq_false (by omega)
      have j1 : ¬ (M : Int) < (E : Int) := by omega
      have hd : decide (M < E ∧ E < b) = false := decide_eq_false (by omega)
      go_wp2_with fail
      go_meet
      exact ⟨by rw [hd], rfl⟩
  case rest =>
  obtain ⟨rfl, rfl⟩ := hcut
  go_upto_if 213 with (fail)
  by_cases hg : M < E ∧ E < b
  · rw [decide_eq_true hg]
    go_wp2_with fail
    refine (HC.out hg.1 hg.2).mono ?_
    rintro e w3 ⟨rfl, n3, d3, hs3, ht, hm, he, rfl⟩
    have HFIN := Lib.hid (HF1.out n3 d3 hs3 ht hm he)
    clear ht hm he
    go_wp2_with fail
    go_end0
    exact HFIN.out
  · rw [decide_eq_false hg]
    go_wp2_with fail
    go_end0
    exact HF0.out hg
set_option maxRecDepth 100000 in
set_option maxHeartbeats 4000000 in
theorem sym_41 {K : Nat} {R : Int → Int → Prop} (xb : Nat) (w0 : World) (blk off cap : Nat) (d0 : Array (Fin (K + 1))) (a m b M E i : Nat) (RR : Ending → World → Prop) (v5 v6 v7 v8 v9 v10 v11 v12 v13 v14 v15 v16 v17 v19 v21 v22 v23 v25 v26 v27 v28 v29 v30 v31 v32 v33 v34 v35 v36 v37 v38 v39 v40 v41 v42 v43 v44 v45 v46 v47 v48 v49 v50 v51 v52 v53 v54 v55 v56 v57 v58 v59 v60 v61 v62 v63 v64 v65 v66 v67 v68 v69 v70 v71 v72 v73 v74 v75 v76 v77 v78 v79 v80 v81 v82 v83 v84 v85 v86 v87 v88 v89 v90 v91 v92 v93 v94 v95 v96 v97 v98 v99 v100 v101 v102 v103 v104 v105 v106 v107 v108 v109 v110 v111 v112 v113 v114 v115 v116 v117 v118 v119 v120 v121 v122 v123 v124 v125 v126 v127 v128 v129 v130 v131 v132 v133 v134 v135 v136 v137 v138 v139 v140 v141 v142 v143 v144 v145 v146 v147 v148 v149 v150 v151 v152 v153 v154 v155 v156 v157 v158 v159 v160 v161 v162 v163 v164 v165 v166 v167 v168 v169 v170 v171 v172 v173 v174 v175 v176 v177 v178 v179 v180 v181 v182 v183 v184 v185 v186 v187 v188 v189 v190 v191 v192 v193 v194 v195 v196 v197 v198 v199 v200 v201 v202 v203 v204 v205 v206 v207 v208 v209 v210 v211 v212 v213 v214 v215 v216 v217 v218 v219 : Value) (n : Nat) (d1 : Array (Fin (K + 1))) (hN1 : d1.size = d0.size)
    (hcall : a < i → i < M → Calls Try.prog 59 #[.slice (some ⟨blk, off, none⟩) d0.size cap, .int .i64 (a : Int), .int .i64 (i : Int), .int .i64 (M : Int), .func (.func 51) #[] #[.pointer (some ⟨xb, 0, none⟩)]] ((putRow encI w0 blk off d1).drewN n) fun e w' => e = .returned (.tuple #[]) ∧ ∃ (q' : Nat) (d' : Array (Fin (K + 1))), d'.size = d0.size ∧ SortO R (zOf d') a M ∧ MemO (zOf d1) (zOf d') a M ∧ SameO (zOf d1) (zOf d') a M ∧ w' = (putRow encI w0 blk off d').drewN q')
    (h0 : ¬ (a < i ∧ i < M) → SortO R (zOf d1) a M)
    (hnext : ∀ (v5 v6 v7 v8 v9 v10 v11 v12 v13 v14 v15 v16 v17 v19 v21 v22 v23 v25 v26 v27 v28 v29 v30 v31 v32 v33 v34 v35 v36 v37 v38 v39 v40 v41 v42 v43 v44 v45 v46 v47 v48 v49 v50 v51 v52 v53 v54 v55 v56 v57 v58 v59 v60 v61 v62 v63 v64 v65 v66 v67 v68 v69 v70 v71 v72 v73 v74 v75 v76 v77 v78 v79 v80 v81 v82 v83 v84 v85 v86 v87 v88 v89 v90 v91 v92 v93 v94 v95 v96 v97 v98 v99 v100 v101 v102 v103 v104 v105 v106 v107 v108 v109 v110 v111 v112 v113 v114 v115 v116 v117 v118 v119 v120 v121 v122 v123 v124 v125 v126 v127 v128 v129 v130 v131 v132 v133 v134 v135 v136 v137 v138 v139 v140 v141 v142 v143 v144 v145 v146 v147 v148 v149 v150 v151 v152 v153 v154 v155 v156 v157 v158 v159 v160 v161 v162 v163 v164 v165 v166 v167 v168 v169 v170 v171 v172 v173 v174 v175 v176 v177 v178 v179 v180 v181 v182 v183 v184 v185 v186 v187 v188 v189 v190 v191 v192 v193 v194 v195 v196 v197 v198 v199 v200 v201 v202 v203 v204 v205 v206 v207 v208 v209 v210 v211 v212 v213 v214 v215 v216 v217 v218 v219 : Value) (n2 : Nat) (d2 : Array (Fin (K + 1))), d2.size = d0.size → MemO (zOf d1) (zOf d2) a M → SameO (zOf d1) (zOf d2) a M → SortO R (zOf d2) a M → (symC 43).wp Try.prog (bodyPost Try.prog Try.f59 RR) ⟨#[.slice (some ⟨blk, off, none⟩) d0.size cap, .int .i64 (a : Int), .int .i64 (m : Int), .int .i64 (b : Int), .func (.func 51) #[] #[.pointer (some ⟨xb, 0, none⟩)], v5, v6, v7, v8, v9, v10, v11, v12, v13, v14, v15, v16, v17, .int .i64 (M : Int), v19, .int .i64 (i : Int), v21, v22, v23, .int .i64 (E : Int), v25, v26, v27, v28, v29, v30, v31, v32, v33, v34, v35, v36, v37, v38, v39, v40, v41, v42, v43, v44, v45, v46, v47, v48, v49, v50, v51, v52, v53, v54, v55, v56, v57, v58, v59, v60, v61, v62, v63, v64, v65, v66, v67, v68, v69, v70, v71, v72, v73, v74, v75, v76, v77, v78, v79, v80, v81, v82, v83, v84, v85, v86, v87, v88, v89, v90, v91, v92, v93, v94, v95, v96, v97, v98, v99, v100, v101, v102, v103, v104, v105, v106, v107, v108, v109, v110, v111, v112, v113, v114, v115, v116, v117, v118, v119, v120, v121, v122, v123, v124, v125, v126, v127, v128, v129, v130, v131, v132, v133, v134, v135, v136, v137, v138, v139, v140, v141, v142, v143, v144, v145, v146, v147, v148, v149, v150, v151, v152, v153, v154, v155, v156, v157, v158, v159, v160, v161, v162, v163, v164, v165, v166, v167, v168, v169, v170, v171, v172, v173, v174, v175, v176, v177, v178, v179, v180, v181, v182, v183, v184, v185, v186, v187, v188, v189, v190, v191, v192, v193, v194, v195, v196, v197, v198, v199, v200, v201, v202, v203, v204, v205, v206, v207, v208, v209, v210, v211, v212, v213, v214, v215, v216, v217, v218, v219], []⟩ ((putRow encI w0 blk off d2).drewN n2)) :
    (symC 41).wp Try.prog (bodyPost Try.prog Try.f59 RR) ⟨#[.slice (some ⟨blk, off, none⟩) d0.size cap, .int .i64 (a : Int), .int .i64 (m : Int), .int .i64 (b : Int), .func (.func 51) #[] #[.pointer (some ⟨xb, 0, none⟩)], v5, v6, v7, v8, v9, v10, v11, v12, v13, v14, v15, v16, v17, .int .i64 (M : Int), v19, .int .i64 (i : Int), v21, v22, v23, .int .i64 (E : Int), v25, v26, v27, v28, v29, v30, v31, v32, v33, v34, v35, v36, v37, v38, v39, v40, v41, v42, v43, v44, v45, v46, v47, v48, v49, v50, v51, v52, v53, v54, v55, v56, v57, v58, v59, v60, v61, v62, v63, v64, v65, v66, v67, v68, v69, v70, v71, v72, v73, v74, v75, v76, v77, v78, v79, v80, v81, v82, v83, v84, v85, v86, v87, v88, v89, v90, v91, v92, v93, v94, v95, v96, v97, v98, v99, v100, v101, v102, v103, v104, v105, v106, v107, v108, v109, v110, v111, v112, v113, v114, v115, v116, v117, v118, v119, v120, v121, v122, v123, v124, v125, v126, v127, v128, v129, v130, v131, v132, v133, v134, v135, v136, v137, v138, v139, v140, v141, v142, v143, v144, v145, v146, v147, v148, v149, v150, v151, v152, v153, v154, v155, v156, v157, v158, v159, v160, v161, v162, v163, v164, v165, v166, v167, v168, v169, v170, v171, v172, v173, v174, v175, v176, v177, v178, v179, v180, v181, v182, v183, v184, v185, v186, v187, v188, v189, v190, v191, v192, v193, v194, v195, v196, v197, v198, v199, v200, v201, v202, v203, v204, v205, v206, v207, v208, v209, v210, v211, v212, v213, v214, v215, v216, v217, v218, v219], []⟩ ((putRow encI w0 blk off d1).drewN n) := by
  dsimp only
  conv => arg 2; whnf
  have HC := Lib.hid hcall
  have HN := Lib.hid hnext
  have H0 := Lib.hid h0
  clear hcall hnext h0
  refine wp_seq_k ?_
  intro K9 hK9
  go_upto_region 41 with (fail)
  go_cut [199] (fun v wx => v = .bool (decide (a < i ∧ i < M)) ∧ wx = (putRow encI w0 blk off d1).drewN n)
  case first =>
    by_cases h1 : a < i
    · by_cases h2 : i < M
      · have k1 : decide ((a : Int) < (i : Int)) = true := decide_eq_true (by omega)
        have j1 : (a : Int) < (i : Int) := by omega
        have k2 : decide ((i : Int) < (M : Int)) = true := decide_eq_true (by omega)
        have j2 : (i : Int) < (M : Int) := by omega
        have hd : decide (a < i ∧ i < M) = true := decide_eq_true (by omega)
        go_wp2_with fail
        go_meet
        exact ⟨by rw [hd], rfl⟩
      · have k1 : decide ((a : Int) < (i : Int)) = true := decide_eq_true (by omega)
        have j1 : (a : Int) < (i : Int) := by omega
        have k2 : decide ((i : Int) < (M : Int)) = false := decide_eq_false (by omega)
        have j2 : ¬ (i : Int) < (M : Int) := by omega
        have hd : decide (a < i ∧ i < M) = false := decide_eq_false (by omega)
        go_wp2_with fail
        go_meet
        exact ⟨by rw [hd], rfl⟩
    · have k1 : decide ((a : Int) < (i : Int)) = false := decide_eq_false (by omega)
      have j1 : ¬ (a : Int) < (i : Int) := by omega
      have hd : decide (a < i ∧ i < M) = false := decide_eq_false (by omega)
      go_wp2_with fail
      go_meet
      exact ⟨by rw [hd], rfl⟩
  case rest =>
  obtain ⟨rfl, rfl⟩ := hcut
  go_upto_if 199 with (fail)
  go_cut [] (fun wx => ∃ (n2 : Nat) (d2 : Array (Fin (K + 1))), d2.size = d0.size ∧ MemO (zOf d1) (zOf d2) a M ∧ SameO (zOf d1) (zOf d2) a M ∧ SortO R (zOf d2) a M ∧ wx = (putRow encI w0 blk off d2).drewN n2)
  case first =>
    by_cases hg : a < i ∧ i < M
    · rw [decide_eq_true hg]
      go_wp2_with fail
      refine (HC.out hg.1 hg.2).mono ?_
      rintro e w2 ⟨rfl, n2, d2, hs2, ht, hm, he, rfl⟩
      have HT := Lib.hid ht
      have HM := Lib.hid hm
      have HE := Lib.hid he
      clear ht hm he
      go_wp2_with fail
      go_meet
      exact ⟨n2, d2, hs2, HM.out, HE.out, HT.out, rfl⟩
    · rw [decide_eq_false hg]
      go_wp2_with fail
      go_meet
      exact ⟨n, d1, hN1, MemO.refl _ _ _, SameO.refl _ _ _, H0.out hg, rfl⟩
  case rest =>
  obtain ⟨n2, d2, hN2, hm2, he2, ht2, rfl⟩ := hcut
  refine hK9 _ _ ?_
  exact HN.out _ _ _ _ _ _ _ _ _ _ _ _ _ _ _ _ _ _ _ _ _ _ _ _ _ _ _ _ _ _ _ _ _ _ _ _ _ _ _ _ _ _ _ _ _ _ _ _ _ _ _ _ _ _ _ _ _ _ _ _ _ _ _ _ _ _ _ _ _ _ _ _ _ _ _ _ _ _ _ _ _ _ _ _ _ _ _ _ _ _ _ _ _ _ _ _ _ _ _ _ _ _ _ _ _ _ _ _ _ _ _ _ _ _ _ _ _ _ _ _ _ _ _ _ _ _ _ _ _ _ _ _ _ _ _ _ _ _ _ _ _ _ _ _ _ _ _ _ _ _ _ _ _ _ _ _ _ _ _ _ _ _ _ _ _ _ _ _ _ _ _ _ _ _ _ _ _ _ _ _ _ _ _ _ _ _ _ _ _ _ _ _ _ _ _ _ _ _ _ _ _ _ _ _ _ _ _ _ _ _ _ _ n2 d2 hN2 hm2 he2 ht2
set_option maxRecDepth 100000 in
set_option maxHeartbeats 4000000 in
theorem sym_39 {K : Nat} {_R : Int → Int → Prop} (xb : Nat) (w0 : World) (blk off cap : Nat) (d0 : Array (Fin (K + 1))) (a m b M E i : Nat) (RR : Ending → World → Prop) (v5 v6 v7 v8 v9 v10 v11 v12 v13 v14 v15 v16 v17 v19 v21 v22 v23 v25 v26 v27 v28 v29 v30 v31 v32 v33 v34 v35 v36 v37 v38 v39 v40 v41 v42 v43 v44 v45 v46 v47 v48 v49 v50 v51 v52 v53 v54 v55 v56 v57 v58 v59 v60 v61 v62 v63 v64 v65 v66 v67 v68 v69 v70 v71 v72 v73 v74 v75 v76 v77 v78 v79 v80 v81 v82 v83 v84 v85 v86 v87 v88 v89 v90 v91 v92 v93 v94 v95 v96 v97 v98 v99 v100 v101 v102 v103 v104 v105 v106 v107 v108 v109 v110 v111 v112 v113 v114 v115 v116 v117 v118 v119 v120 v121 v122 v123 v124 v125 v126 v127 v128 v129 v130 v131 v132 v133 v134 v135 v136 v137 v138 v139 v140 v141 v142 v143 v144 v145 v146 v147 v148 v149 v150 v151 v152 v153 v154 v155 v156 v157 v158 v159 v160 v161 v162 v163 v164 v165 v166 v167 v168 v169 v170 v171 v172 v173 v174 v175 v176 v177 v178 v179 v180 v181 v182 v183 v184 v185 v186 v187 v188 v189 v190 v191 v192 v193 v194 v195 v196 v197 v198 v199 v200 v201 v202 v203 v204 v205 v206 v207 v208 v209 v210 v211 v212 v213 v214 v215 v216 v217 v218 v219 : Value) (n : Nat) (d : Array (Fin (K + 1))) (hN : d.size = d0.size) (_hb : b ≤ d0.size) (c1 : i ≤ m) (c2 : m ≤ E) (_c3 : E ≤ b)
    (h0 : ¬ (i < m ∧ m < E) → i = m ∨ m = E)
    (hrot : i < m → m < E → ∀ fv : Value, Calls Try.prog 60 #[.slice (some ⟨blk, off, none⟩) d0.size cap, .int .i64 (i : Int), .int .i64 (m : Int), .int .i64 (E : Int), fv] ((putRow encI w0 blk off d).drewN n) fun e w' => e = .returned (.tuple #[]) ∧ ∃ (q' : Nat) (d' : Array (Fin (K + 1))), d'.size = d0.size ∧ RotO (zOf d) (zOf d') i m E ∧ w' = (putRow encI w0 blk off d').drewN q')
    (hnext : ∀ (v5 v6 v7 v8 v9 v10 v11 v12 v13 v14 v15 v16 v17 v19 v21 v22 v23 v25 v26 v27 v28 v29 v30 v31 v32 v33 v34 v35 v36 v37 v38 v39 v40 v41 v42 v43 v44 v45 v46 v47 v48 v49 v50 v51 v52 v53 v54 v55 v56 v57 v58 v59 v60 v61 v62 v63 v64 v65 v66 v67 v68 v69 v70 v71 v72 v73 v74 v75 v76 v77 v78 v79 v80 v81 v82 v83 v84 v85 v86 v87 v88 v89 v90 v91 v92 v93 v94 v95 v96 v97 v98 v99 v100 v101 v102 v103 v104 v105 v106 v107 v108 v109 v110 v111 v112 v113 v114 v115 v116 v117 v118 v119 v120 v121 v122 v123 v124 v125 v126 v127 v128 v129 v130 v131 v132 v133 v134 v135 v136 v137 v138 v139 v140 v141 v142 v143 v144 v145 v146 v147 v148 v149 v150 v151 v152 v153 v154 v155 v156 v157 v158 v159 v160 v161 v162 v163 v164 v165 v166 v167 v168 v169 v170 v171 v172 v173 v174 v175 v176 v177 v178 v179 v180 v181 v182 v183 v184 v185 v186 v187 v188 v189 v190 v191 v192 v193 v194 v195 v196 v197 v198 v199 v200 v201 v202 v203 v204 v205 v206 v207 v208 v209 v210 v211 v212 v213 v214 v215 v216 v217 v218 v219 : Value) (n1 : Nat) (d1 : Array (Fin (K + 1))), d1.size = d0.size → RotO (zOf d) (zOf d1) i m E → (symC 41).wp Try.prog (bodyPost Try.prog Try.f59 RR) ⟨#[.slice (some ⟨blk, off, none⟩) d0.size cap, .int .i64 (a : Int), .int .i64 (m : Int), .int .i64 (b : Int), .func (.func 51) #[] #[.pointer (some ⟨xb, 0, none⟩)], v5, v6, v7, v8, v9, v10, v11, v12, v13, v14, v15, v16, v17, .int .i64 (M : Int), v19, .int .i64 (i : Int), v21, v22, v23, .int .i64 (E : Int), v25, v26, v27, v28, v29, v30, v31, v32, v33, v34, v35, v36, v37, v38, v39, v40, v41, v42, v43, v44, v45, v46, v47, v48, v49, v50, v51, v52, v53, v54, v55, v56, v57, v58, v59, v60, v61, v62, v63, v64, v65, v66, v67, v68, v69, v70, v71, v72, v73, v74, v75, v76, v77, v78, v79, v80, v81, v82, v83, v84, v85, v86, v87, v88, v89, v90, v91, v92, v93, v94, v95, v96, v97, v98, v99, v100, v101, v102, v103, v104, v105, v106, v107, v108, v109, v110, v111, v112, v113, v114, v115, v116, v117, v118, v119, v120, v121, v122, v123, v124, v125, v126, v127, v128, v129, v130, v131, v132, v133, v134, v135, v136, v137, v138, v139, v140, v141, v142, v143, v144, v145, v146, v147, v148, v149, v150, v151, v152, v153, v154, v155, v156, v157, v158, v159, v160, v161, v162, v163, v164, v165, v166, v167, v168, v169, v170, v171, v172, v173, v174, v175, v176, v177, v178, v179, v180, v181, v182, v183, v184, v185, v186, v187, v188, v189, v190, v191, v192, v193, v194, v195, v196, v197, v198, v199, v200, v201, v202, v203, v204, v205, v206, v207, v208, v209, v210, v211, v212, v213, v214, v215, v216, v217, v218, v219], []⟩ ((putRow encI w0 blk off d1).drewN n1)) :
    (symC 39).wp Try.prog (bodyPost Try.prog Try.f59 RR) ⟨#[.slice (some ⟨blk, off, none⟩) d0.size cap, .int .i64 (a : Int), .int .i64 (m : Int), .int .i64 (b : Int), .func (.func 51) #[] #[.pointer (some ⟨xb, 0, none⟩)], v5, v6, v7, v8, v9, v10, v11, v12, v13, v14, v15, v16, v17, .int .i64 (M : Int), v19, .int .i64 (i : Int), v21, v22, v23, .int .i64 (E : Int), v25, v26, v27, v28, v29, v30, v31, v32, v33, v34, v35, v36, v37, v38, v39, v40, v41, v42, v43, v44, v45, v46, v47, v48, v49, v50, v51, v52, v53, v54, v55, v56, v57, v58, v59, v60, v61, v62, v63, v64, v65, v66, v67, v68, v69, v70, v71, v72, v73, v74, v75, v76, v77, v78, v79, v80, v81, v82, v83, v84, v85, v86, v87, v88, v89, v90, v91, v92, v93, v94, v95, v96, v97, v98, v99, v100, v101, v102, v103, v104, v105, v106, v107, v108, v109, v110, v111, v112, v113, v114, v115, v116, v117, v118, v119, v120, v121, v122, v123, v124, v125, v126, v127, v128, v129, v130, v131, v132, v133, v134, v135, v136, v137, v138, v139, v140, v141, v142, v143, v144, v145, v146, v147, v148, v149, v150, v151, v152, v153, v154, v155, v156, v157, v158, v159, v160, v161, v162, v163, v164, v165, v166, v167, v168, v169, v170, v171, v172, v173, v174, v175, v176, v177, v178, v179, v180, v181, v182, v183, v184, v185, v186, v187, v188, v189, v190, v191, v192, v193, v194, v195, v196, v197, v198, v199, v200, v201, v202, v203, v204, v205, v206, v207, v208, v209, v210, v211, v212, v213, v214, v215, v216, v217, v218, v219], []⟩ ((putRow encI w0 blk off d).drewN n) := by
  dsimp only
  conv => arg 2; whnf
  have HC := Lib.hid hrot
  have HN := Lib.hid hnext
  have H0 := Lib.hid h0
  clear hrot hnext h0
  refine wp_seq_k ?_
  intro K9 hK9
  go_upto_region 39 with (fail)
  go_cut [185] (fun v wx => v = .bool (decide (i < m ∧ m < E)) ∧ wx = (putRow encI w0 blk off d).drewN n)
  case first =>
    by_cases h1 : i < m
    · by_cases h2 : m < E
      · have k1 : decide ((i : Int) < (m : Int)) = true := decide_eq_true (by omega)
        have j1 : (i : Int) < (m : Int) := by omega
        have k2 : decide ((m : Int) < (E : Int)) = true := decide_eq_true (by omega)
        have j2 : (m : Int) < (E : Int) := by omega
        have hd : decide (i < m ∧ m < E) = true := decide_eq_true (by omega)
        go_wp2_with fail
        go_meet
        exact ⟨by rw [hd], rfl⟩
      · have k1 : decide ((i : Int) < (m : Int)) = true := decide_eq_true (by omega)
        have j1 : (i : Int) < (m : Int) := by omega
        have k2 : decide ((m : Int) < (E : Int)) = false := decide_eq_false (by omega)
        have j2 : ¬ (m : Int) < (E : Int) := by omega
        have hd : decide (i < m ∧ m < E) = false := decide_eq_false (by omega)
        go_wp2_with fail
        go_meet
        exact ⟨by rw [hd], rfl⟩
    · have k1 : decide ((i : Int) < (m : Int)) = false := decide_eq_false (by omega)
      have j1 : ¬ (i : Int) < (m : Int) := by omega
      have hd : decide (i < m ∧ m < E) = false := decide_eq_false (by omega)
      go_wp2_with fail
      go_meet
      exact ⟨by rw [hd], rfl⟩
  case rest =>
  obtain ⟨rfl, rfl⟩ := hcut
  go_upto_if 185 with (fail)
  go_cut [] (fun wx => ∃ (n1 : Nat) (d1 : Array (Fin (K + 1))), d1.size = d0.size ∧ RotO (zOf d) (zOf d1) i m E ∧ wx = (putRow encI w0 blk off d1).drewN n1)
  case first =>
    by_cases hg : i < m ∧ m < E
    · rw [decide_eq_true hg]
      go_wp2_with fail
      refine (HC.out hg.1 hg.2 _).mono ?_
      rintro e w2 ⟨rfl, n1, d1, hs1, hr1, rfl⟩
      have HR1 := Lib.hid hr1
      clear hr1
      go_wp2_with fail
      go_meet
      exact ⟨n1, d1, hs1, HR1.out, rfl⟩
    · rw [decide_eq_false hg]
      go_wp2_with fail
      go_meet
      exact ⟨n, d, hN, RotO.none (H0.out hg), rfl⟩
  case rest =>
  obtain ⟨n1, d1, hN1, hr1, rfl⟩ := hcut
  refine hK9 _ _ ?_
  exact HN.out _ _ _ _ _ _ _ _ _ _ _ _ _ _ _ _ _ _ _ _ _ _ _ _ _ _ _ _ _ _ _ _ _ _ _ _ _ _ _ _ _ _ _ _ _ _ _ _ _ _ _ _ _ _ _ _ _ _ _ _ _ _ _ _ _ _ _ _ _ _ _ _ _ _ _ _ _ _ _ _ _ _ _ _ _ _ _ _ _ _ _ _ _ _ _ _ _ _ _ _ _ _ _ _ _ _ _ _ _ _ _ _ _ _ _ _ _ _ _ _ _ _ _ _ _ _ _ _ _ _ _ _ _ _ _ _ _ _ _ _ _ _ _ _ _ _ _ _ _ _ _ _ _ _ _ _ _ _ _ _ _ _ _ _ _ _ _ _ _ _ _ _ _ _ _ _ _ _ _ _ _ _ _ _ _ _ _ _ _ _ _ _ _ _ _ _ _ _ _ _ _ _ _ _ _ _ _ _ _ _ _ _ n1 d1 hN1 hr1
end Go.Proofs.Ytkodnagneblgaaa
