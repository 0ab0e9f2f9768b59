/- The assignments of a module are added to a flat one, in the program (printed by mkad2.py). -/
import Derived.Deep.CutBlock
import Derived.Test.YtlinbdkbbhpdpaaGreatHeldT
import Derived.Test.YtlinbdkbbhpdpaaGreatSrO
import Derived.Test.YtlinbdkbbhpdpaaGreatSrZ
namespace Go.Proofs.YtlinbdkbbhpdpaaGreat
set_option maxRecDepth 100000
open Go.RowKit

set_option maxRecDepth 100000 in
set_option maxHeartbeats 8000000 in
theorem add_lp2 (W:World) (m:MdT) (SA AA JA MA:Option Addr) (sn sc an ac jn jc mn mc:Nat) (gF gM:Nat) (p:Int) (pl:List Int) (PLA FA0:Option Addr) (plc fc0:Nat) (as0:List AsT) (DV SV MV:Value) (rs:List Pc) {v1 v3 v4 v5 v6 v7 v8 v9 v10 v13 v14 v15 v16 v17 v18 v19 v20 v21 v22 v23 v24 v25 v26 v27 v28 v29 v30 v31 v32 v33 v34 v35 v36 v37 v38 v39 v40 v41 v42 v43 v44 v45 v46 v47 v48 v49 v50 v51 v52 v53 v54 v55 v56 v57 v58 v59 v60 v61 v62 v63 v64 v65 v66 v67 v68 v69 v70 v71 v72 v73 v74 v75 v76 v77 v78 v79 v80 v81 v82 v83 v84 v85 v86 v87 v88 v89 v90 v91 v92 v93 v94 v95 v96 v97 v98 v99 v100 v101 v102 v103 v104 v105 v106 v107 v108 v109 v110 v111 v112 v113 v114 v115 v116 v117 v118 v119 v120 v121 v122 v123 v124 v128 v129 v130 v131 v132 v133 v134 v135 v136 v137 v138 v139 v140 v141 v142 v143 v144 v145 v146 v147 v148 v149 v150 v151 v152 v153 v154 v155 v156 v157 v158 v159 v160 v161 v162 v163 v164 v165 v166 v167 v168 v169 v170 v171 v172 v173 v174 v175 v176 v177 v178 v179 v180 v181 v182 v183 v184 v185 v186 v187 v188 v189 v190 v191 v192 v193 v194 v195 v196 v197 v198 v199 v200 v201 v202 v203 v204 v205 v206 v207 v208 v209 v210 v211 v212 v213 v214 v215 v216 v217 v218 v219 v220 v221 v222 v223 v224 v225 v226 v227 v228 v229 v230 v231 v232 v233 v234 v235 v236 v237 v238 v239 v240 v241 v242 v243 v244 v245 v246 v247 v248 v249 v250 v251 v252 v253 v254 v255 v256 v257 v258 v259 v260 v261 v262 v263 v264 v265 v266 v267 v268 v269 v270 v271 v272 v273 v274 v275 v276 v277 v278:Value} {Q0:Exit→Act→World→Prop} (w:World) (hM:MdRd W m SA AA JA MA sn sc an ac jn jc mn mc) (ha30:an≤30) (haf:∀i,i<m.asgs.length→(0≤(m.asgs[i]?.getD AsT.zero).target∧(m.asgs[i]?.getD AsT.zero).target<sn)∧(m.asgs[i]?.getD AsT.zero).ops.length≤15∧∀j,j<(m.asgs[i]?.getD AsT.zero).ops.length→(((m.asgs[i]?.getD AsT.zero).ops[j]?.getD OpT.zero).kind=2∨((m.asgs[i]?.getD AsT.zero).ops[j]?.getD OpT.zero).kind=3)→0≤((m.asgs[i]?.getD AsT.zero).ops[j]?.getD OpT.zero).a∧((m.asgs[i]?.getD AsT.zero).ops[j]?.getD OpT.zero).a<sn) (has0:as0.length≤30) (S:Sepa W w (.blk gM #[.slice SA sn sc,.slice AA an ac,.slice JA jn jc,.slice MA mn mc] 108 :: .cel (celI pl) (.slice PLA sn plc) :: .blk gF #[DV,SV,.slice FA0 as0.length fc0,.slice none 0 0,MV] 165 :: asP as0 FA0 fc0 :: rs))
  (hexit:∀(FA:Option Addr) (fc:Nat) (y19 y20 y22 y127 y128 y129 y130 y131 y132 y133 y134 y135 y136 y137 y138 y139 y140 y141 y142 y143 y144 y145 y146 y147 y148 y149 y150 y151 y152 y153 y154 y155 y156 y157 y158 y159 y160 y161 y162 y163 y164 y165 y166 y167 y168 y169 y170 y171 y172 y173 y174 y175 y176 y177 y178:Value) (w':World),Sepa W w' (.blk gM #[.slice SA sn sc,.slice AA an ac,.slice JA jn jc,.slice MA mn mc] 108 :: .cel (celI pl) (.slice PLA sn plc) :: .blk gF #[DV,SV,.slice FA (as0++m.asgs.map (mapAs p pl)).length fc,.slice none 0 0,MV] 165 :: asP (as0++m.asgs.map (mapAs p pl)) FA fc :: rs)→Q0 (.exit 2) ⟨List.toArray (.pointer (some ⟨gF,0,none⟩) :: v1 :: .int .i64 p :: v3 :: v4 :: v5 :: v6 :: v7 :: v8 :: v9 :: v10 :: .pointer (some ⟨gM,0,none⟩) :: .slice PLA sn plc :: v13 :: v14 :: v15 :: v16 :: v17 :: v18 :: y19 :: y20 :: v21 :: y22 :: v23 :: v24 :: v25 :: v26 :: v27 :: v28 :: v29 :: v30 :: v31 :: v32 :: v33 :: v34 :: v35 :: v36 :: v37 :: v38 :: v39 :: v40 :: v41 :: v42 :: v43 :: v44 :: v45 :: v46 :: v47 :: v48 :: v49 :: v50 :: v51 :: v52 :: v53 :: v54 :: v55 :: v56 :: v57 :: v58 :: v59 :: v60 :: v61 :: v62 :: v63 :: v64 :: v65 :: v66 :: v67 :: v68 :: v69 :: v70 :: v71 :: v72 :: v73 :: v74 :: v75 :: v76 :: v77 :: v78 :: v79 :: v80 :: v81 :: v82 :: v83 :: v84 :: v85 :: v86 :: v87 :: v88 :: v89 :: v90 :: v91 :: v92 :: v93 :: v94 :: v95 :: v96 :: v97 :: v98 :: v99 :: v100 :: v101 :: v102 :: v103 :: v104 :: v105 :: v106 :: v107 :: v108 :: v109 :: v110 :: v111 :: v112 :: v113 :: v114 :: v115 :: v116 :: v117 :: v118 :: v119 :: v120 :: v121 :: v122 :: v123 :: v124 :: .slice AA an ac :: .int .i64 (an:Int) :: y127 :: y128 :: y129 :: y130 :: y131 :: y132 :: y133 :: y134 :: y135 :: y136 :: y137 :: y138 :: y139 :: y140 :: y141 :: y142 :: y143 :: y144 :: y145 :: y146 :: y147 :: y148 :: y149 :: y150 :: y151 :: y152 :: y153 :: y154 :: y155 :: y156 :: y157 :: y158 :: y159 :: y160 :: y161 :: y162 :: y163 :: y164 :: y165 :: y166 :: y167 :: y168 :: y169 :: y170 :: y171 :: y172 :: y173 :: y174 :: y175 :: y176 :: y177 :: y178 :: v179 :: v180 :: v181 :: v182 :: v183 :: v184 :: v185 :: v186 :: v187 :: v188 :: v189 :: v190 :: v191 :: v192 :: v193 :: v194 :: v195 :: v196 :: v197 :: v198 :: v199 :: v200 :: v201 :: v202 :: v203 :: v204 :: v205 :: v206 :: v207 :: v208 :: v209 :: v210 :: v211 :: v212 :: v213 :: v214 :: v215 :: v216 :: v217 :: v218 :: v219 :: v220 :: v221 :: v222 :: v223 :: v224 :: v225 :: v226 :: v227 :: v228 :: v229 :: v230 :: v231 :: v232 :: v233 :: v234 :: v235 :: v236 :: v237 :: v238 :: v239 :: v240 :: v241 :: v242 :: v243 :: v244 :: v245 :: v246 :: v247 :: v248 :: v249 :: v250 :: v251 :: v252 :: v253 :: v254 :: v255 :: v256 :: v257 :: v258 :: v259 :: v260 :: v261 :: v262 :: v263 :: v264 :: v265 :: v266 :: v267 :: v268 :: v269 :: v270 :: v271 :: v272 :: v273 :: v274 :: v275 :: v276 :: v277 :: v278 :: []),[]⟩ w')
  : Code.wp Tryz.prog (loopAt Tryz.f107 1) Q0 ⟨List.toArray (.pointer (some ⟨gF,0,none⟩) :: v1 :: .int .i64 p :: v3 :: v4 :: v5 :: v6 :: v7 :: v8 :: v9 :: v10 :: .pointer (some ⟨gM,0,none⟩) :: .slice PLA sn plc :: v13 :: v14 :: v15 :: v16 :: v17 :: v18 :: v19 :: v20 :: v21 :: v22 :: v23 :: v24 :: v25 :: v26 :: v27 :: v28 :: v29 :: v30 :: v31 :: v32 :: v33 :: v34 :: v35 :: v36 :: v37 :: v38 :: v39 :: v40 :: v41 :: v42 :: v43 :: v44 :: v45 :: v46 :: v47 :: v48 :: v49 :: v50 :: v51 :: v52 :: v53 :: v54 :: v55 :: v56 :: v57 :: v58 :: v59 :: v60 :: v61 :: v62 :: v63 :: v64 :: v65 :: v66 :: v67 :: v68 :: v69 :: v70 :: v71 :: v72 :: v73 :: v74 :: v75 :: v76 :: v77 :: v78 :: v79 :: v80 :: v81 :: v82 :: v83 :: v84 :: v85 :: v86 :: v87 :: v88 :: v89 :: v90 :: v91 :: v92 :: v93 :: v94 :: v95 :: v96 :: v97 :: v98 :: v99 :: v100 :: v101 :: v102 :: v103 :: v104 :: v105 :: v106 :: v107 :: v108 :: v109 :: v110 :: v111 :: v112 :: v113 :: v114 :: v115 :: v116 :: v117 :: v118 :: v119 :: v120 :: v121 :: v122 :: v123 :: v124 :: .slice AA an ac :: .int .i64 (an:Int) :: .int .i64 0 :: v128 :: v129 :: v130 :: v131 :: v132 :: v133 :: v134 :: v135 :: v136 :: v137 :: v138 :: v139 :: v140 :: v141 :: v142 :: v143 :: v144 :: v145 :: v146 :: v147 :: v148 :: v149 :: v150 :: v151 :: v152 :: v153 :: v154 :: v155 :: v156 :: v157 :: v158 :: v159 :: v160 :: v161 :: v162 :: v163 :: v164 :: v165 :: v166 :: v167 :: v168 :: v169 :: v170 :: v171 :: v172 :: v173 :: v174 :: v175 :: v176 :: v177 :: v178 :: v179 :: v180 :: v181 :: v182 :: v183 :: v184 :: v185 :: v186 :: v187 :: v188 :: v189 :: v190 :: v191 :: v192 :: v193 :: v194 :: v195 :: v196 :: v197 :: v198 :: v199 :: v200 :: v201 :: v202 :: v203 :: v204 :: v205 :: v206 :: v207 :: v208 :: v209 :: v210 :: v211 :: v212 :: v213 :: v214 :: v215 :: v216 :: v217 :: v218 :: v219 :: v220 :: v221 :: v222 :: v223 :: v224 :: v225 :: v226 :: v227 :: v228 :: v229 :: v230 :: v231 :: v232 :: v233 :: v234 :: v235 :: v236 :: v237 :: v238 :: v239 :: v240 :: v241 :: v242 :: v243 :: v244 :: v245 :: v246 :: v247 :: v248 :: v249 :: v250 :: v251 :: v252 :: v253 :: v254 :: v255 :: v256 :: v257 :: v258 :: v259 :: v260 :: v261 :: v262 :: v263 :: v264 :: v265 :: v266 :: v267 :: v268 :: v269 :: v270 :: v271 :: v272 :: v273 :: v274 :: v275 :: v276 :: v277 :: v278 :: []),[]⟩ w:=by
 have HL2:=Lib.hid hM.lens.2.1
 have HM:=Lib.hid hM
 have HAF:=Lib.hid haf
 have HS0:=Lib.hid S
 have HX:=Lib.hid hexit
 obtain ⟨tiop,top1,top2,top3,top4⟩:=info_parts opQ_info
 have HIop:=Lib.hid (And.intro top1 (And.intro top2 (And.intro top3 top4)))
 clear top1 top2 top3 top4
 obtain ⟨tias,tas1,tas2,tas3,tas4⟩:=info_parts asQ_info
 have HIas:=Lib.hid (And.intro tas1 (And.intro tas2 (And.intro tas3 tas4)))
 clear tas1 tas2 tas3 tas4
 clear hM haf S hexit
 conv=>arg 2;whnf
 go_loopw [127] (fun i wr=>∃(k:Nat) (FA:Option Addr) (fc:Nat),k≤an∧i = .int .i64 (k:Int)∧Sepa W wr (.blk gM #[.slice SA sn sc,.slice AA an ac,.slice JA jn jc,.slice MA mn mc] 108 :: .cel (celI pl) (.slice PLA sn plc) :: .blk gF #[DV,SV,.slice FA (as0++(m.asgs.take k).map (mapAs p pl)).length fc,.slice none 0 0,MV] 165 :: asP (as0++(m.asgs.take k).map (mapAs p pl)) FA fc :: rs)) (fun i _=>an - (intOf i).toNat)
 case atStart=>exact ⟨0,_,_,by omega,rfl,by rw [List.take_zero,List.map_nil,List.append_nil];exact HS0.out⟩
 case round =>
  obtain ⟨k,FA,fc,hk,rfl,hs⟩:=hrel
  have HS:=Lib.hid hs
  clear hs
  by_cases hlt:k<an
  ·have hdk:decide ((k:Int)<(an:Int))=true:=by simp;omega
   have i0:(0:Int)≤(k:Int):=by omega
   have i1:(k:Int)<(an:Int):=by omega
   have hkl:k<m.asgs.length:=by rw [HL2.out];exact hlt
   obtain ⟨ba,oa0,QA,qn,qc,hAA,hba,c0,c1,r0⟩:=HM.out.asg.asE (k:=k) hkl
   subst hAA
   rw [←HS.out.bel.cell (p:=⟨ba,oa0+k * 2,none⟩) hba] at c0
   rw [←HS.out.bel.cell (p:=⟨ba,oa0+k * 2+1,none⟩) hba] at c1
   have lba:=below_lt HS.out.bel hba
   obtain ⟨ht,hql,hop⟩:=HAF.out k hkl
   have HNK0:Hid ((as0++(m.asgs.take (k+1)).map (mapAs p pl))=(as0++(m.asgs.take k).map (mapAs p pl))++[mapAs p pl (m.asgs[k]?.getD AsT.zero)]):=by show _=_;rw [take_snoc (z:=AsT.zero) hkl,List.map_append,List.map_singleton,List.append_assoc]
   have hlk:(as0++(m.asgs.take k).map (mapAs p pl)).length≤60:=by rw [List.length_append,List.length_map,List.length_take];omega
   generalize m.asgs[k]?.getD AsT.zero=q at *
   obtain ⟨tg,ops⟩:=q
   simp only at c0 r0 ht hql hop
   obtain ⟨T,rfl⟩:∃T:Nat,tg=(T:Int):=⟨tg.toNat,by omega⟩
   have HNK:Hid ((as0++(m.asgs.take (k+1)).map (mapAs p pl))=(as0++(m.asgs.take k).map (mapAs p pl))++[⟨pl[T]?.getD 0,ops.map (mapOp p pl)⟩]):=by show _=_;rw [HNK0.out];unfold mapAs atI;rw [Int.toNat_natCast]
   generalize (as0++(m.asgs.take k).map (mapAs p pl))=lk at *
   have HR:=Lib.hid r0
   have HOP:=Lib.hid hop
   have HQN:Hid (ops.length=qn):=r0.opN
   have hq15:qn≤15:=by rw [←HQN.out];exact hql
   obtain ⟨bp,op,hPLA,hbp,hcp⟩:=(HS.out.ints 1 rfl).2 (by omega)
   have cp:=hcp T (by omega)
   have lbp:bp<wr.heap.size:=hbp
   subst hPLA
   generalize pl[T]?.getD 0=x at *
   have T0:(0:Int)≤(T:Int):=by omega
   have T1:(T:Int)<(sn:Int):=by omega
   clear hkl hba r0 hop hql hcp hbp HNK0
   have HS5:=Lib.hid (HS.out.consBlkQ #[.int .i64 (T:Int),.slice QA qn qc] 196)
   rw [←(below_new (Below.refl wr.heap.size wr) (.cells #[.int .i64 (T:Int),.slice QA qn qc] 196)).cell lbp] at cp
   have lbp5:=below_lt (below_new (Below.refl wr.heap.size wr) (.cells #[.int .i64 (T:Int),.slice QA qn qc] 196)) lbp
   go_upto_region 22 with fail
   obtain ⟨gY,hgY⟩:∃g,wr.heap.size=g:=⟨_,rfl⟩
   rw [hgY] at HS5
   (try rw [hgY])
   generalize wr.alloc (.cells #[.int .i64 (T:Int),.slice QA qn qc] 196)=W5 at *
   clear c0 c1 lba lbp hgY HS
   have y0:=cell_heap (k:=0) (HS5.out.blk 0 rfl).1 rfl
   have ly:=heap_lt0 (HS5.out.blk 0 rfl).1
   have HS6:=Lib.hid (HS5.out.consBlkQ #[.int .i64 x,.slice none 0 0] 196)
   go_upto_region 23 with fail
   obtain ⟨gZ,hgZ⟩:∃g,W5.heap.size=g:=⟨_,rfl⟩
   rw [hgZ] at HS6
   (try rw [hgZ])
   generalize W5.alloc (.cells #[.int .i64 x,.slice none 0 0] 196)=W6 at *
   clear y0 ly hgZ HS5 cp lbp5
   have HS7:=Lib.hid (HS6.out.consNilQ 198 3)
   have y1:=cell_heap (k:=1) (HS6.out.blk 1 rfl).1 rfl
   have ly:=heap_lt0 (HS6.out.blk 1 rfl).1
   go_wp2_with fail
   clear y1 ly HS6
   go_loopw [140] (fun i wr=>∃(j:Nat) (XA:Option Addr) (xc:Nat),j≤qn∧i = .int .i64 (j:Int)∧Sepa W wr (.cel (celOp ((ops.take j).map (mapOp p pl))) (.slice XA j xc) :: .blk gZ #[.int .i64 x,.slice XA j xc] 196 :: .blk gY #[.int .i64 (T:Int),.slice QA qn qc] 196 :: .blk gM #[.slice SA sn sc,.slice (some ⟨ba,oa0,none⟩) an ac,.slice JA jn jc,.slice MA mn mc] 108 :: .cel (celI pl) (.slice (some ⟨bp,op,none⟩) sn plc) :: .blk gF #[DV,SV,.slice FA lk.length fc,.slice none 0 0,MV] 165 :: asP lk FA fc :: rs)) (fun i _=>qn - (intOf i).toNat)
   case atStart=>exact ⟨0,none,0,by omega,rfl,HS7.out⟩
   case round =>
    obtain ⟨j,XA,xc,hj,rfl,hs⟩:=hrel
    have HS:=Lib.hid hs
    clear hs
    by_cases hltj:j<qn
    ·have hdj:decide ((j:Int)<(qn:Int))=true:=by simp;omega
     have j0:(0:Int)≤(j:Int):=by omega
     have j1:(j:Int)<(qn:Int):=by omega
     have hjl:j<ops.length:=by rw [HQN.out];exact hltj
     obtain ⟨bo,oo,hQA,hbo,e0,e1,e2⟩:=HR.out.opE (k:=j) hjl
     subst hQA
     rw [←HS.out.bel.cell (p:=⟨bo,oo+j * 3,none⟩) hbo] at e0
     rw [←HS.out.bel.cell (p:=⟨bo,oo+j * 3+1,none⟩) hbo] at e1
     rw [←HS.out.bel.cell (p:=⟨bo,oo+j * 3+2,none⟩) hbo] at e2
     have lbo:=below_lt HS.out.bel hbo
     have HOF:=Lib.hid (HOP.out j hjl)
     have HTK:Hid ((ops.take (j+1)).map (mapOp p pl)=(ops.take j).map (mapOp p pl)++[mapOp p pl (ops[j]?.getD OpT.zero)]):=by show _=_;rw [take_snoc (z:=OpT.zero) hjl,List.map_append,List.map_singleton]
     generalize ops[j]?.getD OpT.zero=q at *
     obtain ⟨kd,oa,ob⟩:=q
     simp only at e0 e1 e2 HOF
     have HXL:Hid ((ops.take j).length=j):=by show _=_;rw [List.length_take];omega
     clear hjl hbo
     have HS5:=Lib.hid (HS.out.consBlkQ #[.int .i64 kd,.int .i64 oa,.int .i64 ob] 198)
     go_upto_region 26 with fail
     obtain ⟨gO,hgO⟩:∃g,wr.heap.size=g:=⟨_,rfl⟩
     rw [hgO] at HS5
     (try rw [hgO])
     generalize wr.alloc (.cells #[.int .i64 kd,.int .i64 oa,.int .i64 ob] 198)=W5 at *
     clear e0 e1 e2 lbo hgO HS
     have y0:=cell_heap (k:=0) (HS5.out.blk 0 rfl).1 rfl
     have y1:=cell_heap (k:=1) (HS5.out.blk 0 rfl).1 rfl
     have ly:=heap_lt0 (HS5.out.blk 0 rfl).1
     go_upto_block 6 with fail
     go_cut [] from 141 to 165 (fun w'=>Sepa W w' (.blk gO #[.int .i64 (mapOp p pl ⟨kd,oa,ob⟩).kind,.int .i64 (mapOp p pl ⟨kd,oa,ob⟩).a,.int .i64 (mapOp p pl ⟨kd,oa,ob⟩).b] 198 :: .cel (celOp ((ops.take j).map (mapOp p pl))) (.slice XA j xc) :: .blk gZ #[.int .i64 x,.slice XA j xc] 196 :: .blk gY #[.int .i64 (T:Int),.slice (some ⟨bo,oo,none⟩) qn qc] 196 :: .blk gM #[.slice SA sn sc,.slice (some ⟨ba,oa0,none⟩) an ac,.slice JA jn jc,.slice MA mn mc] 108 :: .cel (celI pl) (.slice (some ⟨bp,op,none⟩) sn plc) :: .blk gF #[DV,SV,.slice FA lk.length fc,.slice none 0 0,MV] 165 :: asP lk FA fc :: rs))
     case first =>
      have f0:=fun k=>frozen_heap (HS5.out.blk 0 rfl).1 k
      have y2:=cell_heap (k:=2) (HS5.out.blk 0 rfl).1 rfl
      by_cases h1:kd=1
      ·have d1:(kd==1)=true:=by simp [h1]
       have HE:Hid ((mapOp p pl ⟨kd,oa,ob⟩)=⟨0,p,0⟩):=by show _=_;unfold mapOp;rw [if_pos h1]
       have HP:=Lib.hid (((HS5.out.put 0 rfl 0 (.int .i64 0)).put 0 rfl 1 (.int .i64 p)).put 0 rfl 2 (.int .i64 0))
       clear h1
       go_wp2_with fail
       go_meet
       first|(refine ⟨?_,rfl⟩;rw [HE.out];exact HP.out)|(rw [HE.out];exact HP.out)
      ·have d1:(kd==1)=false:=by simp [h1]
       by_cases h2:kd=2∨kd=3
       ·have HE:Hid ((mapOp p pl ⟨kd,oa,ob⟩)=⟨kd,atI pl oa,ob⟩):=by show _=_;unfold mapOp;rw [if_neg h1,if_pos h2]
        have hoi:=HOF.out h2
        obtain ⟨X,rfl⟩:∃X:Nat,oa=(X:Int):=⟨oa.toNat,by omega⟩
        obtain ⟨b9,o9,hq,hb9,hc9⟩:=(HS5.out.ints 5 rfl).2 (by omega)
        injection hq with hq
        injection hq with hq1 hq2
        subst hq1 hq2
        have cp:=hc9 X (by omega)
        have lcp:bp<W5.heap.size:=hb9
        clear hc9 hb9
        have HAT:Hid (atI pl (X:Int)=pl[X]?.getD 0):=by show _=_;unfold atI;rw [Int.toNat_natCast]
        rw [HAT.out] at HE
        generalize pl[X]?.getD 0=xv at *
        have X0:(0:Int)≤(X:Int):=by omega
        have X1:(X:Int)<(sn:Int):=by omega
        have HP:=Lib.hid (HS5.out.put 0 rfl 1 (.int .i64 xv))
        clear h1
        by_cases h3:kd=2
        ·have d2:(kd==2)=true:=by simp [h3]
         clear h2 h3
         go_wp2_with fail
         go_meet
         first|(refine ⟨?_,rfl⟩;rw [HE.out];exact HP.out)|(rw [HE.out];exact HP.out)
        ·have d2:(kd==2)=false:=by simp [h3]
         have d3:(kd==3)=true:=by simp;omega
         clear h2 h3
         go_wp2_with fail
         go_meet
         first|(refine ⟨?_,rfl⟩;rw [HE.out];exact HP.out)|(rw [HE.out];exact HP.out)
       ·have d2:(kd==2)=false:=by simp;omega
        have d3:(kd==3)=false:=by simp;omega
        have HE:Hid ((mapOp p pl ⟨kd,oa,ob⟩)=⟨kd,oa,ob⟩):=by show _=_;unfold mapOp;rw [if_neg h1,if_neg h2]
        clear h1 h2
        go_wp2_with fail
        go_meet
        first|(refine ⟨?_,rfl⟩;rw [HE.out];exact HS5.out)|(rw [HE.out];exact HS5.out)
     have HS6:=Lib.hid hcut
     clear hcut y0 y1 ly HS5
     generalize mapOp p pl ⟨kd,oa,ob⟩=z at *
     obtain ⟨zk,za,zb⟩:=z
     have y0:=cell_heap (k:=0) (HS6.out.blk 0 rfl).1 rfl
     have y1:=cell_heap (k:=1) (HS6.out.blk 0 rfl).1 rfl
     have y2:=cell_heap (k:=2) (HS6.out.blk 0 rfl).1 rfl
     have ly:=heap_lt0 (HS6.out.blk 0 rfl).1
     have z1:=cell_heap (k:=1) (HS6.out.blk 2 rfl).1 rfl
     have lz:=heap_lt0 (HS6.out.blk 2 rfl).1
     have hjb:j≤15:=by omega
     go_upto_region 33 with (at_builtin;refine wpList_sepPushG rfl _ _ 194 198 (by rfl) tiop _ 3 24 Tryz.underlying194 HIop.out.1 HIop.out.2.1 HIop.out.2.2.1 HIop.out.2.2.2 rfl (by decide) (by decide) _ ((HS6.out.alloc _).consOp zk za zb) 2 0 (by decide) j xc _ XA (((ops.take j).map (mapOp p pl)).flatMap OpT.cells) _ #[.int .i64 zk,.int .i64 za,.int .i64 zb] _ rfl rfl (by rfl) (by rfl) (heap_new _ _) rfl (by omega) ?_;intro g8 cap w9 S9 hz9;have HS9:=Lib.hid S9.tail;clear S9 hz9;have c8:=cell_heap (k:=1) (HS9.out.blk 2 rfl).1 rfl;have f8:=frozen_heap (HS9.out.blk 2 rfl).1 1;have q8:=heap_lt0 (HS9.out.blk 2 rfl).1)
     have HP:Hid (Sepa W (w9.setCell ⟨gZ,1,none⟩ (.slice (some ⟨g8,0,none⟩) (j+1) cap)) (.cel (celOp ((ops.take (j+1)).map (mapOp p pl))) (.slice (some ⟨g8,0,none⟩) (j+1) cap) :: .blk gZ #[.int .i64 x,.slice (some ⟨g8,0,none⟩) (j+1) cap] 196 :: .blk gY #[.int .i64 (T:Int),.slice (some ⟨bo,oo,none⟩) qn qc] 196 :: .blk gM #[.slice SA sn sc,.slice (some ⟨ba,oa0,none⟩) an ac,.slice JA jn jc,.slice MA mn mc] 108 :: .cel (celI pl) (.slice (some ⟨bp,op,none⟩) sn plc) :: .blk gF #[DV,SV,.slice FA lk.length fc,.slice none 0 0,MV] 165 :: asP lk FA fc :: rs)):=by
      have h:=(HS9.out.put 2 rfl 1 (.slice (some ⟨g8,0,none⟩) (j+1) cap)).tail
      show Sepa _ _ _
      rw [HTK.out,op_push]
      exact h
     go_wp2_with fail
     go_roundw
     case rel=>exact ⟨j+1,_,_,by omega,by go_num,HP.out⟩
     case measure=>simp [intOf];omega
    ·have hjn:j=qn:=by omega
     have hdj:decide ((j:Int)<(qn:Int))=false:=by simp;omega
     clear hltj
     subst j
     have HE:Hid (((ops.take qn).map (mapOp p pl))=ops.map (mapOp p pl)):=by show _=_;rw [List.take_of_length_le (by rw [HQN.out];exact Nat.le_refl _)]
     have h9:=HS.out
     rw [HE.out] at h9
     go_upto_region 34 with fail
     clear HS
     have HT:Hid (Sepa W wr.drew (.cels (⟨x,ops.map (mapOp p pl)⟩:AsT).cells (#[.int .i64 x,.slice XA qn xc]:Array Value).toList :: .blk gZ #[.int .i64 x,.slice XA qn xc] 196 :: .blk gY #[.int .i64 (T:Int),.slice QA qn qc] 196 :: .blk gM #[.slice SA sn sc,.slice (some ⟨ba,oa0,none⟩) an ac,.slice JA jn jc,.slice MA mn mc] 108 :: .cel (celI pl) (.slice (some ⟨bp,op,none⟩) sn plc) :: .blk gF #[DV,SV,.slice FA lk.length fc,.slice none 0 0,MV] 165 :: asP lk FA fc :: rs)):=Lib.hid (h9.toAs 0 x rfl).drew
     have HKP:Hid (∀(v:World) (ps:List Pc),Sepa W v ps→ps[1]?=some (.blk gZ #[.int .i64 x,.slice XA qn xc] 196)→ps[5]?=some (.blk gF #[DV,SV,.slice FA lk.length fc,.slice none 0 0,MV] 165)→(v.cell? ⟨gF,2,none⟩=some (.slice FA lk.length fc)∧v.cell? ⟨gZ,0,none⟩=some (.int .i64 x)∧v.cell? ⟨gZ,1,none⟩=some (.slice XA qn xc))):=fun v ps h h1 h4=>⟨cell_heap (k:=2) (h.blk 5 h4).1 rfl,cell_heap (k:=0) (h.blk 1 h1).1 rfl,cell_heap (k:=1) (h.blk 1 h1).1 rfl⟩
     clear h9
     refine wp_region_noPanic ?_
     refine wp_region_T 9 (fun w'=>w'.cell? ⟨gF,2,none⟩=some (.slice FA lk.length fc)∧w'.cell? ⟨gZ,0,none⟩=some (.int .i64 x)∧w'.cell? ⟨gZ,1,none⟩=some (.slice XA qn xc)) (HKP.out _ _ HT.out rfl rfl) (fun hT hD=>?_)
     refine onT hT 0 opA hD ?_
     refine onT hT 1 (opB opA) hD ?_
     refine onT hT 2 (opB (opB opA)) hD ?_
     refine onT hT 3 (opB (opB (opB opA))) hD ?_
     refine onT hT 4 (opC opA) hD ?_
     refine onT hT 5 (opC (opB opA)) hD ?_
     refine onT hT 6 (opC (opB (opB opA))) hD ?_
     have HA:=Lib.hid (HT.out.alloc (.cells #[.int .i64 x,.slice XA qn xc] 196))
     refine callT hT 7 (opC (opB (opB (opB opA)))) (fun K hK=>?_)
     go_simp
     refine hK.out _ _ (HKP.out _ _ HA.out rfl rfl) (fun hD=>?_)
     clear hK K
     try simp only [Act.put,List.setIfInBounds_toArray,List.set_cons_zero,List.set_cons_succ]
     refine callT hT 8 (opC (opC opA)) (fun K hK=>?_)
     refine step_sepPushG rfl _ _ 104 196 (by rfl) tias _ 2 32 Tryz.underlying104 HIas.out.1 HIas.out.2.1 HIas.out.2.2.1 HIas.out.2.2.2 rfl (by decide) (by decide) _ (HA.out) 6 0 (by decide) lk.length fc _ FA (lk.flatMap AsT.cells) _ #[.int .i64 x,.slice XA qn xc] _ rfl rfl (by rfl) (by rfl) (heap_new _ _) rfl (by omega) ?_
     intro g8 cap w9 S9 hz9
     have HS9:=Lib.hid S9
     clear S9 hz9
     refine hK.out _ _ (HKP.out _ _ HS9.out rfl rfl) (fun hD=>?_)
     clear hK K
     try simp only [Act.put,List.setIfInBounds_toArray,List.set_cons_zero,List.set_cons_succ]
     have c8:=cell_heap (k:=2) (HS9.out.blk 5 rfl).1 rfl
     have f8:=frozen_heap (HS9.out.blk 5 rfl).1 2
     have q8:=heap_lt0 (HS9.out.blk 5 rfl).1
     refine tailT hT 9 (opC (opC (opB opA))) ?_
     refine tailT hT 10 (opC (opC (opB (opB opA)))) ?_
     refine tailT hT 11 (opC (opC (opB (opB (opB opA))))) ?_
     refine lastT hT 12 (opC (opC (opC opA))) ?_
     go_wp2_with fail
     refine NoPanic.normal ?_
     have HP:Hid (Sepa W (w9.setCell ⟨gF,2,none⟩ (.slice (some ⟨g8,0,none⟩) (lk.length+1) cap)) (.blk gM #[.slice SA sn sc,.slice (some ⟨ba,oa0,none⟩) an ac,.slice JA jn jc,.slice MA mn mc] 108 :: .cel (celI pl) (.slice (some ⟨bp,op,none⟩) sn plc) :: .blk gF #[DV,SV,.slice (some ⟨g8,0,none⟩) (lk++[(⟨x,ops.map (mapOp p pl)⟩:AsT)]).length cap,.slice none 0 0,MV] 165 :: asP (lk++[(⟨x,ops.map (mapOp p pl)⟩:AsT)]) (some ⟨g8,0,none⟩) cap :: rs)):=by
      have h:=(HS9.out.put 5 rfl 2 (.slice (some ⟨g8,0,none⟩) (lk.length+1) cap)).tail.tail.tail
      show Sepa _ _ _
      rw [asP_push,show (lk++[(⟨x,ops.map (mapOp p pl)⟩:AsT)]).length=lk.length+1 from by simp]
      exact h
     go_wp2_with fail
     go_roundw
     case rel=>exact ⟨k+1,_,_,by omega,by go_num,by rw [HNK.out];exact HP.out⟩
     case measure=>simp [intOf];omega
  ·have hkn:k=an:=by omega
   have hdk:decide ((k:Int)<(an:Int))=false:=by simp;omega
   clear hlt
   subst k
   have HE:Hid ((as0++(m.asgs.take an).map (mapAs p pl))=as0++m.asgs.map (mapAs p pl)):=by show _=_;rw [List.take_of_length_le (by rw [HL2.out];exact Nat.le_refl _)]
   have h9:=HS.out
   rw [HE.out] at h9
   have HS9:=Lib.hid h9
   clear h9
   go_wp2_with fail
   apply HX.out
   exact HS9.out
end Go.Proofs.YtlinbdkbbhpdpaaGreat
