/- The assignments of a module are added to a flat one, in the reference (printed by mkas2.py). The memories of a module are added to a flat one, in the reference (printed by mkas3.py). A module is added to a flat one, in the reference (printed by mkas5.py). A design made flat, in the reference (printed by mkfl2.py). -/
import Derived.Deep.CutBlock
import Derived.Test.YtlinbdkbbhpdpaaGreatHeldT
import Derived.Test.YtlinbdkbbhpdpaaGreatResc
import Derived.Test.YtlinbdkbbhpdpaaGreatSrD1
import Derived.Test.YtlinbdkbbhpdpaaGreatSrD4
import Derived.Test.YtlinbdkbbhpdpaaGreatSrO
import Derived.Test.YtlinbdkbbhpdpaaGreatSrS6
import Derived.Test.YtlinbdkbbhpdpaaGreatSrZ
namespace Go.Proofs.YtlinbdkbbhpdpaaGreat
set_option maxRecDepth 100000
open Go.RowKit

set_option maxRecDepth 100000 in
set_option maxHeartbeats 8000000 in
theorem sadd_lp2 (W:World) (m:MdT) (SA AA JA MA:Option Addr) (sn sc an ac jn jc mn mc:Nat) (gG gM:Nat) (p:Int) (pl:List Int) (PLA FA0:Option Addr) (plc fc0:Nat) (as0:List AsT) (SV MV:Value) (rs:List Pc) {v0 v1 v3 v4 v5 v6 v7 v8 v9 v10 v12 v13 v16 v17 v18 v20 v21 v22 v23 v24 v25 v26 v27 v28 v29 v30 v31 v32 v33 v34 v35 v36 v37 v38 v39 v40 v41 v42 v43 v44 v45 v46 v47 v48 v49 v50 v51 v52 v53 v54 v55 v56 v57 v58 v59 v60 v61 v62 v63 v64 v65 v66 v67 v68 v69 v70 v71 v72 v73 v74 v75 v76 v77 v78 v79 v80 v81 v82 v83 v84 v85 v86 v87 v88 v89 v90 v91 v92 v93 v94 v95 v96 v97 v98 v99 v100 v101 v102 v103 v104 v105 v106 v107 v108 v109 v110 v111 v112 v113 v114 v115 v116 v117 v118 v119 v120 v121 v122 v123 v124 v125 v126 v127 v128 v129 v130 v131 v132 v133 v134 v135 v136 v137 v138 v139 v140 v141 v142 v143 v144 v145 v146 v147 v148 v149 v150 v151 v152 v153 v154 v155 v156 v157 v158 v159 v160 v161 v162 v163 v164 v165 v166 v167 v168 v169 v170 v171 v172 v173 v174 v175 v176 v177 v178 v179 v180 v181 v182 v183 v184 v185 v186 v187 v188 v189 v190 v191 v192 v193 v194 v195 v196 v197 v198 v199 v200 v201 v202 v203 v204 v205 v206 v207 v208 v209 v210 v211 v212 v213 v214 v215 v216 v217 v218 v219 v220 v221 v222 v223 v224 v225 v226 v227 v228 v229 v230 v231 v232 v233 v234 v235 v236 v237 v238 v239 v240 v241 v242 v243 v244 v245 v246 v247 v248 v249 v250 v251 v252 v253 v254 v255 v256 v257 v258 v259 v260 v261 v262 v263 v264 v265 v266 v267 v268 v269:Value} {Q0:Exit→Act→World→Prop} (w:World) (hM:MdRd W m SA AA JA MA sn sc an ac jn jc mn mc) (ha30:an≤30) (haf:∀i,i<m.asgs.length→(0≤(m.asgs[i]?.getD AsT.zero).target∧(m.asgs[i]?.getD AsT.zero).target<sn)∧(m.asgs[i]?.getD AsT.zero).ops.length≤15∧∀j,j<(m.asgs[i]?.getD AsT.zero).ops.length→(((m.asgs[i]?.getD AsT.zero).ops[j]?.getD OpT.zero).kind=2∨((m.asgs[i]?.getD AsT.zero).ops[j]?.getD OpT.zero).kind=3)→0≤((m.asgs[i]?.getD AsT.zero).ops[j]?.getD OpT.zero).a∧((m.asgs[i]?.getD AsT.zero).ops[j]?.getD OpT.zero).a<sn) (has0:as0.length≤30) (S:Sepa W w (.blk gM #[.slice SA sn sc,.slice AA an ac,.slice JA jn jc,.slice MA mn mc] 108 :: .cel (celI pl) (.slice PLA sn plc) :: .blk gG #[SV,.slice FA0 as0.length fc0,.slice none 0 0,MV] 108 :: asP as0 FA0 fc0 :: rs))
  (hexit:∀(FA:Option Addr) (fc:Nat) (y19 y20 y21 y22 y100 y101 y102 y103 y104 y105 y106 y107 y108 y109 y110 y111 y112 y113 y114 y115 y116 y117 y118 y119 y120 y121 y122 y123 y124 y125 y126 y127 y128 y129 y130 y131 y132 y133 y134 y135 y136 y137 y138 y139 y140 y141 y142 y143 y144 y145 y146 y147 y148 y149 y150 y151 y152 y153 y154 y155 y156 y157 y158 y159 y160 y161 y162 y163:Value) (w':World),Sepa W w' (.blk gM #[.slice SA sn sc,.slice AA an ac,.slice JA jn jc,.slice MA mn mc] 108 :: .cel (celI pl) (.slice PLA sn plc) :: .blk gG #[SV,.slice FA (as0++m.asgs.map (mapAs p pl)).length fc,.slice none 0 0,MV] 108 :: asP (as0++m.asgs.map (mapAs p pl)) FA fc :: rs)→Q0 (.exit 2) ⟨List.toArray (v0 :: v1 :: .int .i64 p :: v3 :: v4 :: v5 :: v6 :: v7 :: v8 :: v9 :: v10 :: .pointer (some ⟨gG,0,none⟩) :: v12 :: v13 :: .pointer (some ⟨gM,0,none⟩) :: .slice PLA sn plc :: v16 :: v17 :: v18 :: y19 :: y20 :: y21 :: y22 :: v23 :: v24 :: v25 :: v26 :: v27 :: v28 :: v29 :: v30 :: v31 :: v32 :: v33 :: v34 :: v35 :: v36 :: v37 :: v38 :: v39 :: v40 :: v41 :: v42 :: v43 :: v44 :: v45 :: v46 :: v47 :: v48 :: v49 :: v50 :: v51 :: v52 :: v53 :: v54 :: v55 :: v56 :: v57 :: v58 :: v59 :: v60 :: v61 :: v62 :: v63 :: v64 :: v65 :: v66 :: v67 :: v68 :: v69 :: v70 :: v71 :: v72 :: v73 :: v74 :: v75 :: v76 :: v77 :: v78 :: v79 :: v80 :: v81 :: v82 :: v83 :: v84 :: v85 :: v86 :: v87 :: v88 :: v89 :: v90 :: v91 :: v92 :: v93 :: v94 :: v95 :: v96 :: v97 :: v98 :: v99 :: y100 :: y101 :: y102 :: y103 :: y104 :: y105 :: y106 :: y107 :: y108 :: y109 :: y110 :: y111 :: y112 :: y113 :: y114 :: y115 :: y116 :: y117 :: y118 :: y119 :: y120 :: y121 :: y122 :: y123 :: y124 :: y125 :: y126 :: y127 :: y128 :: y129 :: y130 :: y131 :: y132 :: y133 :: y134 :: y135 :: y136 :: y137 :: y138 :: y139 :: y140 :: y141 :: y142 :: y143 :: y144 :: y145 :: y146 :: y147 :: y148 :: y149 :: y150 :: y151 :: y152 :: y153 :: y154 :: y155 :: y156 :: y157 :: y158 :: y159 :: y160 :: y161 :: y162 :: y163 :: v164 :: v165 :: v166 :: v167 :: v168 :: v169 :: v170 :: v171 :: v172 :: v173 :: v174 :: v175 :: v176 :: v177 :: v178 :: v179 :: v180 :: v181 :: v182 :: v183 :: v184 :: v185 :: v186 :: v187 :: v188 :: v189 :: v190 :: v191 :: v192 :: v193 :: v194 :: v195 :: v196 :: v197 :: v198 :: v199 :: v200 :: v201 :: v202 :: v203 :: v204 :: v205 :: v206 :: v207 :: v208 :: v209 :: v210 :: v211 :: v212 :: v213 :: v214 :: v215 :: v216 :: v217 :: v218 :: v219 :: v220 :: v221 :: v222 :: v223 :: v224 :: v225 :: v226 :: v227 :: v228 :: v229 :: v230 :: v231 :: v232 :: v233 :: v234 :: v235 :: v236 :: v237 :: v238 :: v239 :: v240 :: v241 :: v242 :: v243 :: v244 :: v245 :: v246 :: v247 :: v248 :: v249 :: v250 :: v251 :: v252 :: v253 :: v254 :: v255 :: v256 :: v257 :: v258 :: v259 :: v260 :: v261 :: v262 :: v263 :: v264 :: v265 :: v266 :: v267 :: v268 :: v269 :: []),[]⟩ w')
  : Code.wp Tryz.prog (loopAt Tryz.f99 1) Q0 ⟨List.toArray (v0 :: v1 :: .int .i64 p :: v3 :: v4 :: v5 :: v6 :: v7 :: v8 :: v9 :: v10 :: .pointer (some ⟨gG,0,none⟩) :: v12 :: v13 :: .pointer (some ⟨gM,0,none⟩) :: .slice PLA sn plc :: v16 :: v17 :: v18 :: .int .i64 0 :: v20 :: v21 :: v22 :: v23 :: v24 :: v25 :: v26 :: v27 :: v28 :: v29 :: v30 :: v31 :: v32 :: v33 :: v34 :: v35 :: v36 :: v37 :: v38 :: v39 :: v40 :: v41 :: v42 :: v43 :: v44 :: v45 :: v46 :: v47 :: v48 :: v49 :: v50 :: v51 :: v52 :: v53 :: v54 :: v55 :: v56 :: v57 :: v58 :: v59 :: v60 :: v61 :: v62 :: v63 :: v64 :: v65 :: v66 :: v67 :: v68 :: v69 :: v70 :: v71 :: v72 :: v73 :: v74 :: v75 :: v76 :: v77 :: v78 :: v79 :: v80 :: v81 :: v82 :: v83 :: v84 :: v85 :: v86 :: v87 :: v88 :: v89 :: v90 :: v91 :: v92 :: v93 :: v94 :: v95 :: v96 :: v97 :: v98 :: v99 :: v100 :: v101 :: v102 :: v103 :: v104 :: v105 :: v106 :: v107 :: v108 :: v109 :: v110 :: v111 :: v112 :: v113 :: v114 :: v115 :: v116 :: v117 :: v118 :: v119 :: v120 :: v121 :: v122 :: v123 :: v124 :: v125 :: v126 :: v127 :: v128 :: v129 :: v130 :: v131 :: v132 :: v133 :: v134 :: v135 :: v136 :: v137 :: v138 :: v139 :: v140 :: v141 :: v142 :: v143 :: v144 :: v145 :: v146 :: v147 :: v148 :: v149 :: v150 :: v151 :: v152 :: v153 :: v154 :: v155 :: v156 :: v157 :: v158 :: v159 :: v160 :: v161 :: v162 :: v163 :: v164 :: v165 :: v166 :: v167 :: v168 :: v169 :: v170 :: v171 :: v172 :: v173 :: v174 :: v175 :: v176 :: v177 :: v178 :: v179 :: v180 :: v181 :: v182 :: v183 :: v184 :: v185 :: v186 :: v187 :: v188 :: v189 :: v190 :: v191 :: v192 :: v193 :: v194 :: v195 :: v196 :: v197 :: v198 :: v199 :: v200 :: v201 :: v202 :: v203 :: v204 :: v205 :: v206 :: v207 :: v208 :: v209 :: v210 :: v211 :: v212 :: v213 :: v214 :: v215 :: v216 :: v217 :: v218 :: v219 :: v220 :: v221 :: v222 :: v223 :: v224 :: v225 :: v226 :: v227 :: v228 :: v229 :: v230 :: v231 :: v232 :: v233 :: v234 :: v235 :: v236 :: v237 :: v238 :: v239 :: v240 :: v241 :: v242 :: v243 :: v244 :: v245 :: v246 :: v247 :: v248 :: v249 :: v250 :: v251 :: v252 :: v253 :: v254 :: v255 :: v256 :: v257 :: v258 :: v259 :: v260 :: v261 :: v262 :: v263 :: v264 :: v265 :: v266 :: v267 :: v268 :: v269 :: []),[]⟩ w:=by
 have HL2:=Lib.hid hM.lens.2.1
 have HM:=Lib.hid hM
 have HAF:=Lib.hid haf
 have HS0:=Lib.hid S
 have HX:=Lib.hid hexit
 obtain ⟨tiop,top1,top2,top3,top4⟩:=info_parts opQ_info
 have HIop:=Lib.hid (And.intro top1 (And.intro top2 (And.intro top3 top4)))
 clear top1 top2 top3 top4
 obtain ⟨tias,tas1,tas2,tas3,tas4⟩:=info_parts asQ_info
 have HIas:=Lib.hid (And.intro tas1 (And.intro tas2 (And.intro tas3 tas4)))
 clear tas1 tas2 tas3 tas4
 clear hM haf S hexit
 conv=>arg 2;whnf
 go_loopw [19] (fun i wr=>∃(k:Nat) (FA:Option Addr) (fc:Nat),k≤an∧i = .int .i64 (k:Int)∧Sepa W wr (.blk gM #[.slice SA sn sc,.slice AA an ac,.slice JA jn jc,.slice MA mn mc] 108 :: .cel (celI pl) (.slice PLA sn plc) :: .blk gG #[SV,.slice FA (as0++(m.asgs.take k).map (mapAs p pl)).length fc,.slice none 0 0,MV] 108 :: asP (as0++(m.asgs.take k).map (mapAs p pl)) FA fc :: rs)) (fun i _=>an - (intOf i).toNat)
 case atStart=>exact ⟨0,_,_,by omega,rfl,by rw [List.take_zero,List.map_nil,List.append_nil];exact HS0.out⟩
 case round =>
  obtain ⟨k,FA,fc,hk,rfl,hs⟩:=hrel
  have HS:=Lib.hid hs
  clear hs
  have x1:=cell_heap (k:=1) (HS.out.blk 0 rfl).1 rfl
  have lx:=heap_lt0 (HS.out.blk 0 rfl).1
  by_cases hlt:k<an
  ·have hdk:decide ((k:Int)<(an:Int))=true:=by simp;omega
   have i0:(0:Int)≤(k:Int):=by omega
   have i1:(k:Int)<(an:Int):=by omega
   have hkl:k<m.asgs.length:=by rw [HL2.out];exact hlt
   obtain ⟨ba,oa0,QA,qn,qc,hAA,hba,c0,c1,r0⟩:=HM.out.asg.asE (k:=k) hkl
   subst hAA
   have HBA:=Lib.hid hba
   have HC1:=Lib.hid c1
   rw [←HS.out.bel.cell (p:=⟨ba,oa0+k * 2,none⟩) hba] at c0
   rw [←HS.out.bel.cell (p:=⟨ba,oa0+k * 2+1,none⟩) hba] at c1
   have lba:=below_lt HS.out.bel hba
   obtain ⟨ht,hql,hop⟩:=HAF.out k hkl
   have HNK0:Hid ((as0++(m.asgs.take (k+1)).map (mapAs p pl))=(as0++(m.asgs.take k).map (mapAs p pl))++[mapAs p pl (m.asgs[k]?.getD AsT.zero)]):=by show _=_;rw [take_snoc (z:=AsT.zero) hkl,List.map_append,List.map_singleton,List.append_assoc]
   have hlk:(as0++(m.asgs.take k).map (mapAs p pl)).length≤60:=by rw [List.length_append,List.length_map,List.length_take];omega
   generalize m.asgs[k]?.getD AsT.zero=q at *
   obtain ⟨tg,ops⟩:=q
   simp only at c0 r0 ht hql hop
   obtain ⟨T,rfl⟩:∃T:Nat,tg=(T:Int):=⟨tg.toNat,by omega⟩
   have HNK:Hid ((as0++(m.asgs.take (k+1)).map (mapAs p pl))=(as0++(m.asgs.take k).map (mapAs p pl))++[⟨pl[T]?.getD 0,ops.map (mapOp p pl)⟩]):=by show _=_;rw [HNK0.out];unfold mapAs atI;rw [Int.toNat_natCast]
   generalize (as0++(m.asgs.take k).map (mapAs p pl))=lk at *
   have HR:=Lib.hid r0
   have HOP:=Lib.hid hop
   have HQN:Hid (ops.length=qn):=r0.opN
   have hq15:qn≤15:=by rw [←HQN.out];exact hql
   obtain ⟨bp,op,hPLA,hbp,hcp⟩:=(HS.out.ints 1 rfl).2 (by omega)
   have cp:=hcp T (by omega)
   have lbp:bp<wr.heap.size:=hbp
   subst hPLA
   generalize pl[T]?.getD 0=x at *
   have T0:(0:Int)≤(T:Int):=by omega
   have T1:(T:Int)<(sn:Int):=by omega
   clear hkl hba r0 hop hql hcp hbp HNK0
   have HS6:=Lib.hid (HS.out.consBlkQ #[.int .i64 x,.slice none 0 0] 196)
   go_upto_region 21 with fail
   obtain ⟨gZ,hgZ⟩:∃g,wr.heap.size=g:=⟨_,rfl⟩
   rw [hgZ] at HS6
   (try rw [hgZ])
   generalize wr.alloc (.cells #[.int .i64 x,.slice none 0 0] 196)=W6 at *
   clear c0 c1 lba lbp cp hgZ HS x1 lx
   have HS7:=Lib.hid (HS6.out.consNilQ 198 3)
   go_wp2_with fail
   clear HS6
   go_loopw [21] (fun i wr=>∃(j:Nat) (XA:Option Addr) (xc:Nat),j≤qn∧i = .int .i64 (j:Int)∧Sepa W wr (.cel (celOp ((ops.take j).map (mapOp p pl))) (.slice XA j xc) :: .blk gZ #[.int .i64 x,.slice XA j xc] 196 :: .blk gM #[.slice SA sn sc,.slice (some ⟨ba,oa0,none⟩) an ac,.slice JA jn jc,.slice MA mn mc] 108 :: .cel (celI pl) (.slice (some ⟨bp,op,none⟩) sn plc) :: .blk gG #[SV,.slice FA lk.length fc,.slice none 0 0,MV] 108 :: asP lk FA fc :: rs)) (fun i _=>qn - (intOf i).toNat)
   case atStart=>exact ⟨0,none,0,by omega,rfl,HS7.out⟩
   case round =>
    obtain ⟨j,XA,xc,hj,rfl,hs⟩:=hrel
    have HS:=Lib.hid hs
    clear hs
    have x1:=cell_heap (k:=1) (HS.out.blk 2 rfl).1 rfl
    have lx:=heap_lt0 (HS.out.blk 2 rfl).1
    have cQ:=(HS.out.bel.cell (p:=⟨ba,oa0+k * 2+1,none⟩) HBA.out).trans HC1.out
    have lba:=below_lt HS.out.bel HBA.out
    by_cases hltj:j<qn
    ·have hdj:decide ((j:Int)<(qn:Int))=true:=by simp;omega
     have j0:(0:Int)≤(j:Int):=by omega
     have j1:(j:Int)<(qn:Int):=by omega
     have hjl:j<ops.length:=by rw [HQN.out];exact hltj
     obtain ⟨bo,oo,hQA,hbo,e0,e1,e2⟩:=HR.out.opE (k:=j) hjl
     subst hQA
     rw [←HS.out.bel.cell (p:=⟨bo,oo+j * 3,none⟩) hbo] at e0
     rw [←HS.out.bel.cell (p:=⟨bo,oo+j * 3+1,none⟩) hbo] at e1
     rw [←HS.out.bel.cell (p:=⟨bo,oo+j * 3+2,none⟩) hbo] at e2
     have lbo:=below_lt HS.out.bel hbo
     have HOF:=Lib.hid (HOP.out j hjl)
     have HTK:Hid ((ops.take (j+1)).map (mapOp p pl)=(ops.take j).map (mapOp p pl)++[mapOp p pl (ops[j]?.getD OpT.zero)]):=by show _=_;rw [take_snoc (z:=OpT.zero) hjl,List.map_append,List.map_singleton]
     generalize ops[j]?.getD OpT.zero=q at *
     obtain ⟨kd,oa,ob⟩:=q
     simp only at e0 e1 e2 HOF
     have HXL:Hid ((ops.take j).length=j):=by show _=_;rw [List.length_take];omega
     clear hjl hbo
     have HS5:=Lib.hid (HS.out.consBlkQ #[.int .i64 kd,.int .i64 oa,.int .i64 ob] 198)
     go_upto_region 25 with fail
     obtain ⟨gO,hgO⟩:∃g,wr.heap.size=g:=⟨_,rfl⟩
     rw [hgO] at HS5
     (try rw [hgO])
     generalize wr.alloc (.cells #[.int .i64 kd,.int .i64 oa,.int .i64 ob] 198)=W5 at *
     clear e0 e1 e2 lbo hgO HS x1 lx cQ lba
     have y0:=cell_heap (k:=0) (HS5.out.blk 0 rfl).1 rfl
     have y1:=cell_heap (k:=1) (HS5.out.blk 0 rfl).1 rfl
     have ly:=heap_lt0 (HS5.out.blk 0 rfl).1
     go_upto_block 6 with fail
     go_cut [] from 117 to 157 (fun w'=>Sepa W w' (.blk gO #[.int .i64 (mapOp p pl ⟨kd,oa,ob⟩).kind,.int .i64 (mapOp p pl ⟨kd,oa,ob⟩).a,.int .i64 (mapOp p pl ⟨kd,oa,ob⟩).b] 198 :: .cel (celOp ((ops.take j).map (mapOp p pl))) (.slice XA j xc) :: .blk gZ #[.int .i64 x,.slice XA j xc] 196 :: .blk gM #[.slice SA sn sc,.slice (some ⟨ba,oa0,none⟩) an ac,.slice JA jn jc,.slice MA mn mc] 108 :: .cel (celI pl) (.slice (some ⟨bp,op,none⟩) sn plc) :: .blk gG #[SV,.slice FA lk.length fc,.slice none 0 0,MV] 108 :: asP lk FA fc :: rs))
     case first =>
      have f0:=fun k=>frozen_heap (HS5.out.blk 0 rfl).1 k
      have y2:=cell_heap (k:=2) (HS5.out.blk 0 rfl).1 rfl
      by_cases h1:kd=1
      ·have d1:(kd==1)=true:=by simp [h1]
       have HE:Hid ((mapOp p pl ⟨kd,oa,ob⟩)=⟨0,p,0⟩):=by show _=_;unfold mapOp;rw [if_pos h1]
       have HP:=Lib.hid (((HS5.out.put 0 rfl 0 (.int .i64 0)).put 0 rfl 1 (.int .i64 p)).put 0 rfl 2 (.int .i64 0))
       clear h1
       go_wp2_with fail
       go_meet
       first|(refine ⟨?_,rfl⟩;rw [HE.out];exact HP.out)|(rw [HE.out];exact HP.out)
      ·have d1:(kd==1)=false:=by simp [h1]
       by_cases h2:kd=2∨kd=3
       ·have HE:Hid ((mapOp p pl ⟨kd,oa,ob⟩)=⟨kd,atI pl oa,ob⟩):=by show _=_;unfold mapOp;rw [if_neg h1,if_pos h2]
        have hoi:=HOF.out h2
        obtain ⟨X,rfl⟩:∃X:Nat,oa=(X:Int):=⟨oa.toNat,by omega⟩
        obtain ⟨b9,o9,hq,hb9,hc9⟩:=(HS5.out.ints 4 rfl).2 (by omega)
        injection hq with hq
        injection hq with hq1 hq2
        subst hq1 hq2
        have cp:=hc9 X (by omega)
        have lcp:bp<W5.heap.size:=hb9
        clear hc9 hb9
        have HAT:Hid (atI pl (X:Int)=pl[X]?.getD 0):=by show _=_;unfold atI;rw [Int.toNat_natCast]
        rw [HAT.out] at HE
        generalize pl[X]?.getD 0=xv at *
        have X0:(0:Int)≤(X:Int):=by omega
        have X1:(X:Int)<(sn:Int):=by omega
        have HP:=Lib.hid (HS5.out.put 0 rfl 1 (.int .i64 xv))
        clear h1
        by_cases h3:kd=2
        ·have d2:(kd==2)=true:=by simp [h3]
         clear h2 h3
         go_wp2_with fail
         go_meet
         first|(refine ⟨?_,rfl⟩;rw [HE.out];exact HP.out)|(rw [HE.out];exact HP.out)
        ·have d2:(kd==2)=false:=by simp [h3]
         have d3:(kd==3)=true:=by simp;omega
         clear h2 h3
         go_wp2_with fail
         go_meet
         first|(refine ⟨?_,rfl⟩;rw [HE.out];exact HP.out)|(rw [HE.out];exact HP.out)
       ·have d2:(kd==2)=false:=by simp;omega
        have d3:(kd==3)=false:=by simp;omega
        have HE:Hid ((mapOp p pl ⟨kd,oa,ob⟩)=⟨kd,oa,ob⟩):=by show _=_;unfold mapOp;rw [if_neg h1,if_neg h2]
        clear h1 h2
        go_wp2_with fail
        go_meet
        first|(refine ⟨?_,rfl⟩;rw [HE.out];exact HS5.out)|(rw [HE.out];exact HS5.out)
     have HS6:=Lib.hid hcut
     clear hcut y0 y1 ly HS5
     generalize mapOp p pl ⟨kd,oa,ob⟩=z at *
     obtain ⟨zk,za,zb⟩:=z
     have y0:=cell_heap (k:=0) (HS6.out.blk 0 rfl).1 rfl
     have y1:=cell_heap (k:=1) (HS6.out.blk 0 rfl).1 rfl
     have y2:=cell_heap (k:=2) (HS6.out.blk 0 rfl).1 rfl
     have ly:=heap_lt0 (HS6.out.blk 0 rfl).1
     have z1:=cell_heap (k:=1) (HS6.out.blk 2 rfl).1 rfl
     have lz:=heap_lt0 (HS6.out.blk 2 rfl).1
     have hjb:j≤15:=by omega
     go_upto_region 23 with (at_builtin;refine wpList_sepPushG rfl _ _ 194 198 (by rfl) tiop _ 3 24 Tryz.underlying194 HIop.out.1 HIop.out.2.1 HIop.out.2.2.1 HIop.out.2.2.2 rfl (by decide) (by decide) _ ((HS6.out.alloc _).consOp zk za zb) 2 0 (by decide) j xc _ XA (((ops.take j).map (mapOp p pl)).flatMap OpT.cells) _ #[.int .i64 zk,.int .i64 za,.int .i64 zb] _ rfl rfl (by rfl) (by rfl) (heap_new _ _) rfl (by omega) ?_;intro g8 cap w9 S9 hz9;have HS9:=Lib.hid S9.tail;clear S9 hz9;have c8:=cell_heap (k:=1) (HS9.out.blk 2 rfl).1 rfl;have f8:=frozen_heap (HS9.out.blk 2 rfl).1 1;have q8:=heap_lt0 (HS9.out.blk 2 rfl).1)
     have HP:Hid (Sepa W (w9.setCell ⟨gZ,1,none⟩ (.slice (some ⟨g8,0,none⟩) (j+1) cap)) (.cel (celOp ((ops.take (j+1)).map (mapOp p pl))) (.slice (some ⟨g8,0,none⟩) (j+1) cap) :: .blk gZ #[.int .i64 x,.slice (some ⟨g8,0,none⟩) (j+1) cap] 196 :: .blk gM #[.slice SA sn sc,.slice (some ⟨ba,oa0,none⟩) an ac,.slice JA jn jc,.slice MA mn mc] 108 :: .cel (celI pl) (.slice (some ⟨bp,op,none⟩) sn plc) :: .blk gG #[SV,.slice FA lk.length fc,.slice none 0 0,MV] 108 :: asP lk FA fc :: rs)):=by
      have h:=(HS9.out.put 2 rfl 1 (.slice (some ⟨g8,0,none⟩) (j+1) cap)).tail
      show Sepa _ _ _
      rw [HTK.out,op_push]
      exact h
     go_wp2_with fail
     go_roundw
     case rel=>exact ⟨j+1,_,_,by omega,by go_num,HP.out⟩
     case measure=>simp [intOf];omega
    ·have hjn:j=qn:=by omega
     have hdj:decide ((j:Int)<(qn:Int))=false:=by simp;omega
     clear hltj
     subst j
     have HE:Hid (((ops.take qn).map (mapOp p pl))=ops.map (mapOp p pl)):=by show _=_;rw [List.take_of_length_le (by rw [HQN.out];exact Nat.le_refl _)]
     have h9:=HS.out
     rw [HE.out] at h9
     go_upto_region 32 with fail
     clear HS x1 lx cQ lba
     have HT:=Lib.hid (h9.toAs 0 x rfl)
     clear h9
     have z0:=cell_heap (k:=0) (HT.out.blk 1 rfl).1 rfl
     have z1:=cell_heap (k:=1) (HT.out.blk 1 rfl).1 rfl
     have lz:=heap_lt0 (HT.out.blk 1 rfl).1
     have b1:=cell_heap (k:=1) (HT.out.blk 4 rfl).1 rfl
     have lb:=heap_lt0 (HT.out.blk 4 rfl).1
     go_upto_region 19 with (at_builtin;refine wpList_sepPushG rfl _ _ 104 196 (by rfl) tias _ 2 32 Tryz.underlying104 HIas.out.1 HIas.out.2.1 HIas.out.2.2.1 HIas.out.2.2.2 rfl (by decide) (by decide) _ (HT.out.alloc _) 5 0 (by decide) lk.length fc _ FA (lk.flatMap AsT.cells) _ #[.int .i64 x,.slice XA qn xc] _ rfl rfl (by rfl) (by rfl) (heap_new _ _) rfl (by omega) ?_;intro g8 cap w9 S9 hz9;have HS9:=Lib.hid S9;clear S9 hz9;have c8:=cell_heap (k:=1) (HS9.out.blk 4 rfl).1 rfl;have f8:=frozen_heap (HS9.out.blk 4 rfl).1 1;have q8:=heap_lt0 (HS9.out.blk 4 rfl).1)
     have HP:Hid (Sepa W (w9.setCell ⟨gG,1,none⟩ (.slice (some ⟨g8,0,none⟩) (lk.length+1) cap)) (.blk gM #[.slice SA sn sc,.slice (some ⟨ba,oa0,none⟩) an ac,.slice JA jn jc,.slice MA mn mc] 108 :: .cel (celI pl) (.slice (some ⟨bp,op,none⟩) sn plc) :: .blk gG #[SV,.slice (some ⟨g8,0,none⟩) (lk++[(⟨x,ops.map (mapOp p pl)⟩:AsT)]).length cap,.slice none 0 0,MV] 108 :: asP (lk++[(⟨x,ops.map (mapOp p pl)⟩:AsT)]) (some ⟨g8,0,none⟩) cap :: rs)):=by
      have h:=(HS9.out.put 4 rfl 1 (.slice (some ⟨g8,0,none⟩) (lk.length+1) cap)).tail.tail
      show Sepa _ _ _
      rw [asP_push,show (lk++[(⟨x,ops.map (mapOp p pl)⟩:AsT)]).length=lk.length+1 from by simp]
      exact h
     go_wp2_with fail
     go_roundw
     case rel=>exact ⟨k+1,_,_,by omega,by go_num,by rw [HNK.out];exact HP.out⟩
     case measure=>simp [intOf];omega
  ·have hkn:k=an:=by omega
   have hdk:decide ((k:Int)<(an:Int))=false:=by simp;omega
   clear hlt
   subst k
   have HE:Hid ((as0++(m.asgs.take an).map (mapAs p pl))=as0++m.asgs.map (mapAs p pl)):=by show _=_;rw [List.take_of_length_le (by rw [HL2.out];exact Nat.le_refl _)]
   have h9:=HS.out
   rw [HE.out] at h9
   have HS9:=Lib.hid h9
   clear h9
   go_wp2_with fail
   apply HX.out
   exact HS9.out
end Go.Proofs.YtlinbdkbbhpdpaaGreat

namespace Go.Proofs.YtlinbdkbbhpdpaaGreat
set_option maxRecDepth 100000
open Go.RowKit

set_option maxRecDepth 100000 in
set_option maxHeartbeats 8000000 in
theorem sadd_lp3 (W:World) (m:MdT) (SA AA JA MA:Option Addr) (sn sc an ac jn jc mn mc:Nat) (gG gM:Nat) (pl:List Int) (PLA FA0:Option Addr) (plc fc0:Nat) (mm0:List MmT) (SV AV:Value) (rs:List Pc) {v0 v1 v2 v3 v4 v5 v6 v7 v8 v9 v10 v12 v13 v16 v17 v18 v19 v20 v21 v22 v24 v25 v26 v27 v28 v29 v30 v31 v32 v33 v34 v35 v36 v37 v38 v39 v40 v41 v42 v43 v44 v45 v46 v47 v48 v49 v50 v51 v52 v53 v54 v55 v56 v57 v58 v59 v60 v61 v62 v63 v64 v65 v66 v67 v68 v69 v70 v71 v72 v73 v74 v75 v76 v77 v78 v79 v80 v81 v82 v83 v84 v85 v86 v87 v88 v89 v90 v91 v92 v93 v94 v95 v96 v97 v98 v99 v100 v101 v102 v103 v104 v105 v106 v107 v108 v109 v110 v111 v112 v113 v114 v115 v116 v117 v118 v119 v120 v121 v122 v123 v124 v125 v126 v127 v128 v129 v130 v131 v132 v133 v134 v135 v136 v137 v138 v139 v140 v141 v142 v143 v144 v145 v146 v147 v148 v149 v150 v151 v152 v153 v154 v155 v156 v157 v158 v159 v160 v161 v162 v163 v164 v165 v166 v167 v168 v169 v170 v171 v172 v173 v174 v175 v176 v177 v178 v179 v180 v181 v182 v183 v184 v185 v186 v187 v188 v189 v190 v191 v192 v193 v194 v195 v196 v197 v198 v199 v200 v201 v202 v203 v204 v205 v206 v207 v208 v209 v210 v211 v212 v213 v214 v215 v216 v217 v218 v219 v220 v221 v222 v223 v224 v225 v226 v227 v228 v229 v230 v231 v232 v233 v234 v235 v236 v237 v238 v239 v240 v241 v242 v243 v244 v245 v246 v247 v248 v249 v250 v251 v252 v253 v254 v255 v256 v257 v258 v259 v260 v261 v262 v263 v264 v265 v266 v267 v268 v269:Value} {Q0:Exit→Act→World→Prop} (w:World) (hM:MdRd W m SA AA JA MA sn sc an ac jn jc mn mc) (hm2:mn≤2) (hmf:∀i,i<m.mems.length→(0≤(m.mems[i]?.getD MmT.zero).addr∧(m.mems[i]?.getD MmT.zero).addr<sn)∧(0≤(m.mems[i]?.getD MmT.zero).data∧(m.mems[i]?.getD MmT.zero).data<sn)∧(0≤(m.mems[i]?.getD MmT.zero).write∧(m.mems[i]?.getD MmT.zero).write<sn)∧(0≤(m.mems[i]?.getD MmT.zero).out∧(m.mems[i]?.getD MmT.zero).out<sn)) (hmm0:mm0.length≤2) (S:Sepa W w (.blk gM #[.slice SA sn sc,.slice AA an ac,.slice JA jn jc,.slice MA mn mc] 108 :: .cel (celI pl) (.slice PLA sn plc) :: .blk gG #[SV,AV,.slice none 0 0,.slice FA0 mm0.length fc0] 108 :: mmP mm0 FA0 fc0 :: rs))
  (hexit:∀(FA:Option Addr) (fc:Nat) (y23 y24 y164 y165 y166 y167 y168 y169 y170 y171 y172 y173 y174 y175 y176 y177 y178 y179 y180 y181 y182 y183 y184 y185 y186 y187 y188 y189 y190 y191 y192 y193 y194 y195 y196 y197 y198 y199 y200 y201:Value) (w':World),Sepa W w' (.blk gM #[.slice SA sn sc,.slice AA an ac,.slice JA jn jc,.slice MA mn mc] 108 :: .cel (celI pl) (.slice PLA sn plc) :: .blk gG #[SV,AV,.slice none 0 0,.slice FA (mm0++m.mems.map (mapMm pl)).length fc] 108 :: mmP (mm0++m.mems.map (mapMm pl)) FA fc :: rs)→Q0 (.exit 7) ⟨List.toArray (v0 :: v1 :: v2 :: v3 :: v4 :: v5 :: v6 :: v7 :: v8 :: v9 :: v10 :: .pointer (some ⟨gG,0,none⟩) :: v12 :: v13 :: .pointer (some ⟨gM,0,none⟩) :: .slice PLA sn plc :: v16 :: v17 :: v18 :: v19 :: v20 :: v21 :: v22 :: y23 :: y24 :: v25 :: v26 :: v27 :: v28 :: v29 :: v30 :: v31 :: v32 :: v33 :: v34 :: v35 :: v36 :: v37 :: v38 :: v39 :: v40 :: v41 :: v42 :: v43 :: v44 :: v45 :: v46 :: v47 :: v48 :: v49 :: v50 :: v51 :: v52 :: v53 :: v54 :: v55 :: v56 :: v57 :: v58 :: v59 :: v60 :: v61 :: v62 :: v63 :: v64 :: v65 :: v66 :: v67 :: v68 :: v69 :: v70 :: v71 :: v72 :: v73 :: v74 :: v75 :: v76 :: v77 :: v78 :: v79 :: v80 :: v81 :: v82 :: v83 :: v84 :: v85 :: v86 :: v87 :: v88 :: v89 :: v90 :: v91 :: v92 :: v93 :: v94 :: v95 :: v96 :: v97 :: v98 :: v99 :: v100 :: v101 :: v102 :: v103 :: v104 :: v105 :: v106 :: v107 :: v108 :: v109 :: v110 :: v111 :: v112 :: v113 :: v114 :: v115 :: v116 :: v117 :: v118 :: v119 :: v120 :: v121 :: v122 :: v123 :: v124 :: v125 :: v126 :: v127 :: v128 :: v129 :: v130 :: v131 :: v132 :: v133 :: v134 :: v135 :: v136 :: v137 :: v138 :: v139 :: v140 :: v141 :: v142 :: v143 :: v144 :: v145 :: v146 :: v147 :: v148 :: v149 :: v150 :: v151 :: v152 :: v153 :: v154 :: v155 :: v156 :: v157 :: v158 :: v159 :: v160 :: v161 :: v162 :: v163 :: y164 :: y165 :: y166 :: y167 :: y168 :: y169 :: y170 :: y171 :: y172 :: y173 :: y174 :: y175 :: y176 :: y177 :: y178 :: y179 :: y180 :: y181 :: y182 :: y183 :: y184 :: y185 :: y186 :: y187 :: y188 :: y189 :: y190 :: y191 :: y192 :: y193 :: y194 :: y195 :: y196 :: y197 :: y198 :: y199 :: y200 :: y201 :: v202 :: v203 :: v204 :: v205 :: v206 :: v207 :: v208 :: v209 :: v210 :: v211 :: v212 :: v213 :: v214 :: v215 :: v216 :: v217 :: v218 :: v219 :: v220 :: v221 :: v222 :: v223 :: v224 :: v225 :: v226 :: v227 :: v228 :: v229 :: v230 :: v231 :: v232 :: v233 :: v234 :: v235 :: v236 :: v237 :: v238 :: v239 :: v240 :: v241 :: v242 :: v243 :: v244 :: v245 :: v246 :: v247 :: v248 :: v249 :: v250 :: v251 :: v252 :: v253 :: v254 :: v255 :: v256 :: v257 :: v258 :: v259 :: v260 :: v261 :: v262 :: v263 :: v264 :: v265 :: v266 :: v267 :: v268 :: v269 :: []),[]⟩ w')
  : Code.wp Tryz.prog (loopAt Tryz.f99 2) Q0 ⟨List.toArray (v0 :: v1 :: v2 :: v3 :: v4 :: v5 :: v6 :: v7 :: v8 :: v9 :: v10 :: .pointer (some ⟨gG,0,none⟩) :: v12 :: v13 :: .pointer (some ⟨gM,0,none⟩) :: .slice PLA sn plc :: v16 :: v17 :: v18 :: v19 :: v20 :: v21 :: v22 :: .int .i64 0 :: v24 :: v25 :: v26 :: v27 :: v28 :: v29 :: v30 :: v31 :: v32 :: v33 :: v34 :: v35 :: v36 :: v37 :: v38 :: v39 :: v40 :: v41 :: v42 :: v43 :: v44 :: v45 :: v46 :: v47 :: v48 :: v49 :: v50 :: v51 :: v52 :: v53 :: v54 :: v55 :: v56 :: v57 :: v58 :: v59 :: v60 :: v61 :: v62 :: v63 :: v64 :: v65 :: v66 :: v67 :: v68 :: v69 :: v70 :: v71 :: v72 :: v73 :: v74 :: v75 :: v76 :: v77 :: v78 :: v79 :: v80 :: v81 :: v82 :: v83 :: v84 :: v85 :: v86 :: v87 :: v88 :: v89 :: v90 :: v91 :: v92 :: v93 :: v94 :: v95 :: v96 :: v97 :: v98 :: v99 :: v100 :: v101 :: v102 :: v103 :: v104 :: v105 :: v106 :: v107 :: v108 :: v109 :: v110 :: v111 :: v112 :: v113 :: v114 :: v115 :: v116 :: v117 :: v118 :: v119 :: v120 :: v121 :: v122 :: v123 :: v124 :: v125 :: v126 :: v127 :: v128 :: v129 :: v130 :: v131 :: v132 :: v133 :: v134 :: v135 :: v136 :: v137 :: v138 :: v139 :: v140 :: v141 :: v142 :: v143 :: v144 :: v145 :: v146 :: v147 :: v148 :: v149 :: v150 :: v151 :: v152 :: v153 :: v154 :: v155 :: v156 :: v157 :: v158 :: v159 :: v160 :: v161 :: v162 :: v163 :: v164 :: v165 :: v166 :: v167 :: v168 :: v169 :: v170 :: v171 :: v172 :: v173 :: v174 :: v175 :: v176 :: v177 :: v178 :: v179 :: v180 :: v181 :: v182 :: v183 :: v184 :: v185 :: v186 :: v187 :: v188 :: v189 :: v190 :: v191 :: v192 :: v193 :: v194 :: v195 :: v196 :: v197 :: v198 :: v199 :: v200 :: v201 :: v202 :: v203 :: v204 :: v205 :: v206 :: v207 :: v208 :: v209 :: v210 :: v211 :: v212 :: v213 :: v214 :: v215 :: v216 :: v217 :: v218 :: v219 :: v220 :: v221 :: v222 :: v223 :: v224 :: v225 :: v226 :: v227 :: v228 :: v229 :: v230 :: v231 :: v232 :: v233 :: v234 :: v235 :: v236 :: v237 :: v238 :: v239 :: v240 :: v241 :: v242 :: v243 :: v244 :: v245 :: v246 :: v247 :: v248 :: v249 :: v250 :: v251 :: v252 :: v253 :: v254 :: v255 :: v256 :: v257 :: v258 :: v259 :: v260 :: v261 :: v262 :: v263 :: v264 :: v265 :: v266 :: v267 :: v268 :: v269 :: []),[]⟩ w:=by
 have HL4:=Lib.hid hM.lens.2.2.2
 have HM:=Lib.hid hM
 have HMF:=Lib.hid hmf
 have HS0:=Lib.hid S
 have HX:=Lib.hid hexit
 obtain ⟨timm,tmm1,tmm2,tmm3,tmm4⟩:=info_parts mmQ_info
 have HImm:=Lib.hid (And.intro tmm1 (And.intro tmm2 (And.intro tmm3 tmm4)))
 clear tmm1 tmm2 tmm3 tmm4
 clear hM hmf S hexit
 conv=>arg 2;whnf
 go_loopw [23] (fun i wr=>∃(k:Nat) (FA:Option Addr) (fc:Nat),k≤mn∧i = .int .i64 (k:Int)∧Sepa W wr (.blk gM #[.slice SA sn sc,.slice AA an ac,.slice JA jn jc,.slice MA mn mc] 108 :: .cel (celI pl) (.slice PLA sn plc) :: .blk gG #[SV,AV,.slice none 0 0,.slice FA (mm0++(m.mems.take k).map (mapMm pl)).length fc] 108 :: mmP (mm0++(m.mems.take k).map (mapMm pl)) FA fc :: rs)) (fun i _=>mn - (intOf i).toNat)
 case atStart=>exact ⟨0,_,_,by omega,rfl,by rw [List.take_zero,List.map_nil,List.append_nil];exact HS0.out⟩
 case round =>
  obtain ⟨k,FA,fc,hk,rfl,hs⟩:=hrel
  have HS:=Lib.hid hs
  clear hs
  have x3:=cell_heap (k:=3) (HS.out.blk 0 rfl).1 rfl
  have lx:=heap_lt0 (HS.out.blk 0 rfl).1
  by_cases hlt:k<mn
  ·have hdk:decide ((k:Int)<(mn:Int))=true:=by simp;omega
   have i0:(0:Int)≤(k:Int):=by omega
   have i1:(k:Int)<(mn:Int):=by omega
   have hkl:k<m.mems.length:=by rw [HL4.out];exact hlt
   obtain ⟨bm,om,hMA,hbm,c0,c1,c2,c3⟩:=HM.out.mm.mmE (k:=k) hkl
   subst hMA
   rw [←HS.out.bel.cell (p:=⟨bm,om+k * 4,none⟩) hbm] at c0
   rw [←HS.out.bel.cell (p:=⟨bm,om+k * 4+1,none⟩) hbm] at c1
   rw [←HS.out.bel.cell (p:=⟨bm,om+k * 4+2,none⟩) hbm] at c2
   rw [←HS.out.bel.cell (p:=⟨bm,om+k * 4+3,none⟩) hbm] at c3
   have lbm:=below_lt HS.out.bel hbm
   obtain ⟨hA,hD,hX,hO⟩:=HMF.out k hkl
   have HNK0:Hid ((mm0++(m.mems.take (k+1)).map (mapMm pl))=(mm0++(m.mems.take k).map (mapMm pl))++[mapMm pl (m.mems[k]?.getD MmT.zero)]):=by show _=_;rw [take_snoc (z:=MmT.zero) hkl,List.map_append,List.map_singleton,List.append_assoc]
   have hlk:(mm0++(m.mems.take k).map (mapMm pl)).length≤4:=by rw [List.length_append,List.length_map,List.length_take];omega
   generalize m.mems[k]?.getD MmT.zero=q at *
   obtain ⟨ma,md,mx,mo⟩:=q
   simp only at c0 c1 c2 c3 hA hD hX hO
   obtain ⟨A,rfl⟩:∃T:Nat,ma=(T:Int):=⟨ma.toNat,by omega⟩
   obtain ⟨D,rfl⟩:∃T:Nat,md=(T:Int):=⟨md.toNat,by omega⟩
   obtain ⟨X,rfl⟩:∃T:Nat,mx=(T:Int):=⟨mx.toNat,by omega⟩
   obtain ⟨O,rfl⟩:∃T:Nat,mo=(T:Int):=⟨mo.toNat,by omega⟩
   have HNK:Hid ((mm0++(m.mems.take (k+1)).map (mapMm pl))=(mm0++(m.mems.take k).map (mapMm pl))++[⟨pl[A]?.getD 0,pl[D]?.getD 0,pl[X]?.getD 0,pl[O]?.getD 0⟩]):=by show _=_;rw [HNK0.out];unfold mapMm atI;simp only [Int.toNat_natCast]
   generalize (mm0++(m.mems.take k).map (mapMm pl))=lk at *
   obtain ⟨bp,op,hPLA,hbp,-⟩:=(HS.out.ints 1 rfl).2 (by omega)
   subst hPLA
   have HPC:Hid (∀v:World,Ints v (some ⟨bp,op,none⟩) sn pl→v.cell? ⟨bp,op+A,none⟩=some (.int .i64 (pl[A]?.getD 0))∧v.cell? ⟨bp,op+D,none⟩=some (.int .i64 (pl[D]?.getD 0))∧v.cell? ⟨bp,op+X,none⟩=some (.int .i64 (pl[X]?.getD 0))∧v.cell? ⟨bp,op+O,none⟩=some (.int .i64 (pl[O]?.getD 0))):=fun v hv=>by
    obtain ⟨b2,o2,h2,_,h4⟩:=hv.2 (by omega)
    injection h2 with h2
    injection h2 with h2 h3
    subst h2 h3
    exact ⟨h4 A (by omega),h4 D (by omega),h4 X (by omega),h4 O (by omega)⟩
   generalize pl[A]?.getD 0=xA at *
   generalize pl[D]?.getD 0=xD at *
   generalize pl[X]?.getD 0=xX at *
   generalize pl[O]?.getD 0=xO at *
   have A0:(0:Int)≤(A:Int):=by omega
   have D0:(0:Int)≤(D:Int):=by omega
   have X0:(0:Int)≤(X:Int):=by omega
   have O0:(0:Int)≤(O:Int):=by omega
   have A1:=hA.2
   have D1:=hD.2
   have X1:=hX.2
   have O1:=hO.2
   clear hkl hbm hbp HNK0 hA hD hX hO
   have HS5:=Lib.hid (HS.out.consBlkQ #[.int .i64 (A:Int),.int .i64 (D:Int),.int .i64 (X:Int),.int .i64 (O:Int)] 200)
   go_upto_region 37 with fail
   obtain ⟨gY,hgY⟩:∃g,wr.heap.size=g:=⟨_,rfl⟩
   rw [hgY] at HS5
   (try rw [hgY])
   generalize wr.alloc (.cells #[.int .i64 (A:Int),.int .i64 (D:Int),.int .i64 (X:Int),.int .i64 (O:Int)] 200)=W5 at *
   clear c0 c1 c2 c3 lbm hgY HS x3 lx
   have HT:Hid (Sepa W W5.drew (.blk gY #[.int .i64 (A:Int),.int .i64 (D:Int),.int .i64 (X:Int),.int .i64 (O:Int)] 200 :: .blk gM #[.slice SA sn sc,.slice AA an ac,.slice JA jn jc,.slice (some ⟨bm,om,none⟩) mn mc] 108 :: .cel (celI pl) (.slice (some ⟨bp,op,none⟩) sn plc) :: .blk gG #[SV,AV,.slice none 0 0,.slice FA lk.length fc] 108 :: mmP lk FA fc :: rs)):=Lib.hid HS5.out.drew
   have HKP:Hid (∀(v:World) (ps:List Pc),Sepa W v ps→ps[0]?=some (.blk gY #[.int .i64 (A:Int),.int .i64 (D:Int),.int .i64 (X:Int),.int .i64 (O:Int)] 200)→ps[2]?=some (.cel (celI pl) (.slice (some ⟨bp,op,none⟩) sn plc))→ps[3]?=some (.blk gG #[SV,AV,.slice none 0 0,.slice FA lk.length fc] 108)→(v.cell? ⟨gG,3,none⟩=some (.slice FA lk.length fc)∧v.cell? ⟨gY,0,none⟩=some (.int .i64 (A:Int))∧v.cell? ⟨gY,1,none⟩=some (.int .i64 (D:Int))∧v.cell? ⟨gY,2,none⟩=some (.int .i64 (X:Int))∧v.cell? ⟨gY,3,none⟩=some (.int .i64 (O:Int))∧v.cell? ⟨bp,op+A,none⟩=some (.int .i64 xA)∧v.cell? ⟨bp,op+D,none⟩=some (.int .i64 xD)∧v.cell? ⟨bp,op+X,none⟩=some (.int .i64 xX)∧v.cell? ⟨bp,op+O,none⟩=some (.int .i64 xO))):=fun v ps h h0 h2 h3=>⟨cell_heap (k:=3) (h.blk 3 h3).1 rfl,cell_heap (k:=0) (h.blk 0 h0).1 rfl,cell_heap (k:=1) (h.blk 0 h0).1 rfl,cell_heap (k:=2) (h.blk 0 h0).1 rfl,cell_heap (k:=3) (h.blk 0 h0).1 rfl,HPC.out v (h.ints 2 h2)⟩
   clear HS5
   refine wp_region_noPanic ?_
   refine wp_region_T 25 (fun w'=>w'.cell? ⟨gG,3,none⟩=some (.slice FA lk.length fc)∧w'.cell? ⟨gY,0,none⟩=some (.int .i64 (A:Int))∧w'.cell? ⟨gY,1,none⟩=some (.int .i64 (D:Int))∧w'.cell? ⟨gY,2,none⟩=some (.int .i64 (X:Int))∧w'.cell? ⟨gY,3,none⟩=some (.int .i64 (O:Int))∧w'.cell? ⟨bp,op+A,none⟩=some (.int .i64 xA)∧w'.cell? ⟨bp,op+D,none⟩=some (.int .i64 xD)∧w'.cell? ⟨bp,op+X,none⟩=some (.int .i64 xX)∧w'.cell? ⟨bp,op+O,none⟩=some (.int .i64 xO)) (HKP.out _ _ HT.out rfl rfl rfl) (fun hT hD=>?_)
   refine onT hT 0 opA hD ?_
   refine onT hT 1 (opB opA) hD ?_
   refine onT hT 2 (opB (opB opA)) hD ?_
   refine onT hT 3 (opB (opB (opB opA))) hD ?_
   refine onT hT 4 (opC opA) hD ?_
   refine onT hT 5 (opC (opB opA)) hD ?_
   refine onT hT 6 (opC (opB (opB opA))) hD ?_
   refine onT hT 7 (opC (opB (opB (opB opA)))) hD ?_
   refine onT hT 8 (opC (opC opA)) hD ?_
   refine onT hT 9 (opC (opC (opB opA))) hD ?_
   refine onT hT 10 (opC (opC (opB (opB opA)))) hD ?_
   refine onT hT 11 (opC (opC (opB (opB (opB opA))))) hD ?_
   refine onT hT 12 (opC (opC (opC opA))) hD ?_
   refine onT hT 13 (opC (opC (opC (opB opA)))) hD ?_
   refine onT hT 14 (opC (opC (opC (opB (opB opA))))) hD ?_
   refine onT hT 15 (opC (opC (opC (opB (opB (opB opA)))))) hD ?_
   refine onT hT 16 (opD opA) hD ?_
   refine onT hT 17 (opD (opB opA)) hD ?_
   refine onT hT 18 (opD (opB (opB opA))) hD ?_
   refine onT hT 19 (opD (opB (opB (opB opA)))) hD ?_
   refine onT hT 20 (opD (opC opA)) hD ?_
   refine onT hT 21 (opD (opC (opB opA))) hD ?_
   refine onT hT 22 (opD (opC (opB (opB opA)))) hD ?_
   have HA:=Lib.hid (HT.out.alloc (.cells #[.int .i64 xA,.int .i64 xD,.int .i64 xX,.int .i64 xO] 200))
   refine callT hT 23 (opD (opC (opB (opB (opB opA))))) (fun K hK=>?_)
   go_simp
   refine hK.out _ _ (HKP.out _ _ HA.out rfl rfl rfl) (fun hD=>?_)
   clear hK K
   try simp only [Act.put,List.setIfInBounds_toArray,List.set_cons_zero,List.set_cons_succ]
   refine callT hT 24 (opD (opC (opC opA))) (fun K hK=>?_)
   refine step_sepPushG rfl _ _ 106 200 (by rfl) timm _ 4 32 Tryz.underlying106 HImm.out.1 HImm.out.2.1 HImm.out.2.2.1 HImm.out.2.2.2 rfl (by decide) (by decide) _ (HA.out.consMm xA xD xX xO) 5 0 (by decide) lk.length fc _ FA (lk.flatMap MmT.cells) _ #[.int .i64 xA,.int .i64 xD,.int .i64 xX,.int .i64 xO] _ rfl rfl (by rfl) (by rfl) (heap_new _ _) rfl (by omega) ?_
   intro g8 cap w9 S9 hz9
   have HS9:=Lib.hid S9.tail
   clear S9 hz9
   refine hK.out _ _ (HKP.out _ _ HS9.out rfl rfl rfl) (fun hD=>?_)
   clear hK K
   try simp only [Act.put,List.setIfInBounds_toArray,List.set_cons_zero,List.set_cons_succ]
   have c8:=cell_heap (k:=3) (HS9.out.blk 3 rfl).1 rfl
   have f8:=frozen_heap (HS9.out.blk 3 rfl).1 3
   have q8:=heap_lt0 (HS9.out.blk 3 rfl).1
   refine tailT hT 25 (opD (opC (opC (opB opA)))) ?_
   refine lastT hT 26 (opD (opC (opC (opB (opB opA))))) ?_
   go_wp2_with fail
   refine NoPanic.normal ?_
   have HP:Hid (Sepa W (w9.setCell ⟨gG,3,none⟩ (.slice (some ⟨g8,0,none⟩) (lk.length+1) cap)) (.blk gM #[.slice SA sn sc,.slice AA an ac,.slice JA jn jc,.slice (some ⟨bm,om,none⟩) mn mc] 108 :: .cel (celI pl) (.slice (some ⟨bp,op,none⟩) sn plc) :: .blk gG #[SV,AV,.slice none 0 0,.slice (some ⟨g8,0,none⟩) (lk++[(⟨xA,xD,xX,xO⟩:MmT)]).length cap] 108 :: mmP (lk++[(⟨xA,xD,xX,xO⟩:MmT)]) (some ⟨g8,0,none⟩) cap :: rs)):=by
    have h:=(HS9.out.put 3 rfl 3 (.slice (some ⟨g8,0,none⟩) (lk.length+1) cap)).tail
    show Sepa _ _ _
    rw [mmP_push,show (lk++[(⟨xA,xD,xX,xO⟩:MmT)]).length=lk.length+1 from by simp]
    exact h
   go_wp2_with fail
   go_roundw
   case rel=>exact ⟨k+1,_,_,by omega,by go_num,by rw [HNK.out];exact HP.out⟩
   case measure=>simp [intOf];omega
  ·have hkn:k=mn:=by omega
   have hdk:decide ((k:Int)<(mn:Int))=false:=by simp;omega
   clear hlt
   subst k
   have HE:Hid ((mm0++(m.mems.take mn).map (mapMm pl))=mm0++m.mems.map (mapMm pl)):=by show _=_;rw [List.take_of_length_le (by rw [HL4.out];exact Nat.le_refl _)]
   have h9:=HS.out
   rw [HE.out] at h9
   have HS9:=Lib.hid h9
   clear h9
   go_wp2_with fail
   apply HX.out
   exact HS9.out
end Go.Proofs.YtlinbdkbbhpdpaaGreat

namespace Go.Proofs.YtlinbdkbbhpdpaaGreat
set_option maxRecDepth 100000
open Go.RowKit

set_option maxRecDepth 100000 in
set_option maxHeartbeats 8000000 in
theorem sadd_step {W:World} {d:List MdT} (hd:DsFit d) {bd od dn dc f:Nat} (hD:RdC W W.heap.size (celMd d) (.slice (some ⟨bd,od,none⟩) dn dc)) (ih:SAddC Tryz.prog 99 W d (.slice (some ⟨bd,od,none⟩) dn dc) f):SAddC Tryz.prog 99 W d (.slice (some ⟨bd,od,none⟩) dn dc) (f+1):=by
 intro k cp p ports fl SF AF MF PA sfc afc mfc pn pc rs w hk hkd hp1 hp4 hbd hports hpn S
 have hmd:=hd.md k hkd
 have HL:=Lib.hid hD.mdN
 obtain ⟨b1,o1,SA,AA,JA,MA,sn,sc,an,ac,jn,jc,mn,mc,hDA,hb1,e0,e1,e2,e3,hM⟩:=hD.md (k:=k) (by rw [←HL.out];exact hkd)
 injection hDA with hDA
 injection hDA with h1 h2
 subst h1 h2
 have HADD:Hid (addM d (f+1) (!cp) k p ports fl=_):=addM.eq_2 d (!cp) k p ports fl f
 have HAF:Hid (∀i,i<(mdK d k).asgs.length→(0≤((mdK d k).asgs[i]?.getD AsT.zero).target∧((mdK d k).asgs[i]?.getD AsT.zero).target<sn)∧((mdK d k).asgs[i]?.getD AsT.zero).ops.length≤15∧∀j,j<((mdK d k).asgs[i]?.getD AsT.zero).ops.length→((((mdK d k).asgs[i]?.getD AsT.zero).ops[j]?.getD OpT.zero).kind=2∨(((mdK d k).asgs[i]?.getD AsT.zero).ops[j]?.getD OpT.zero).kind=3)→0≤(((mdK d k).asgs[i]?.getD AsT.zero).ops[j]?.getD OpT.zero).a∧(((mdK d k).asgs[i]?.getD AsT.zero).ops[j]?.getD OpT.zero).a<sn):=fun i hi=>by
  have h1:=hmd.asg i hi
  have hs:=hM.lens.1
  refine ⟨⟨h1.1.1.1,by have:=h1.1.1.2;omega⟩,h1.2.1,fun j hj hk2=>?_⟩
  have h2:=(hmd.op hi hj).sig hk2
  exact ⟨h2.1,by have:=h2.2;omega⟩
 have HMF:Hid (∀i,i<(mdK d k).mems.length→(0≤((mdK d k).mems[i]?.getD MmT.zero).addr∧((mdK d k).mems[i]?.getD MmT.zero).addr<sn)∧(0≤((mdK d k).mems[i]?.getD MmT.zero).data∧((mdK d k).mems[i]?.getD MmT.zero).data<sn)∧(0≤((mdK d k).mems[i]?.getD MmT.zero).write∧((mdK d k).mems[i]?.getD MmT.zero).write<sn)∧(0≤((mdK d k).mems[i]?.getD MmT.zero).out∧((mdK d k).mems[i]?.getD MmT.zero).out<sn)):=fun i hi=>by
  obtain ⟨h1,h2,h3,h4,-⟩:=hmd.mem i hi
  have hs:=hM.lens.1
  exact ⟨⟨h1.1,by have:=h1.2;omega⟩,⟨h2.1,by have:=h2.2;omega⟩,⟨h3.1,by have:=h3.2;omega⟩,⟨h4.1,by have:=h4.2;omega⟩⟩
 have HIM:Hid (∀i,i<(mdK d k).insts.length→((0≤((mdK d k).insts[i]?.getD InT.zero).module∧((mdK d k).insts[i]?.getD InT.zero).module<k)∧(0≤((mdK d k).insts[i]?.getD InT.zero).param∧((mdK d k).insts[i]?.getD InT.zero).param≤4))∧((mdK d k).insts[i]?.getD InT.zero).ports.length=(portsOf (mdK d ((mdK d k).insts[i]?.getD InT.zero).module.toNat)).length∧PlIn ((mdK d k).insts[i]?.getD InT.zero).ports sn):=fun i hi=>by
  have h1:=hmd.inst_mod hi
  have h2:=hmd.inst_ports hi
  rw [hM.lens.1] at h2
  exact ⟨⟨⟨h1.1,h1.2.1⟩,(hmd.inst i hi).1⟩,h1.2.2,h2⟩
 have HPQ:Hid (portsOf (mdK d k)=portsTo (mdK d k).sigs sn):=by show _=_;rw [hmd.portsOf hkd,hM.lens.1]
 have hs30:sn≤30:=by have h1:=hmd.cn.sg;rw [hM.lens.1] at h1;exact h1
 have ha30:an≤30:=by have h1:=hmd.cn.asg;rw [hM.lens.2.1] at h1;exact h1
 have hj3:jn≤3:=by have h1:=hmd.cn.ins;rw [hM.lens.2.2.1] at h1;exact h1
 have hm2:mn≤2:=by have h1:=hmd.cn.mm;rw [hM.lens.2.2.2] at h1;exact h1
 have hkn:(k:Int)<(dn:Int):=by rw [←HL.out];omega
 have hk0:(0:Int)≤(k:Int):=by omega
 have hkf:k≤f:=by omega
 have HPN:=Lib.hid hpn
 generalize mdK d k=m at *
 have HM:=Lib.hid hM
 have HBD:=Lib.hid hbd
 have HPI:=Lib.hid hports
 have HIH:=Lib.hid ih
 have HE:=Lib.hid (fun (v:World) (hv:Below W.heap.size W v)=>(⟨(hv.cell (p:=⟨bd,od+k * 4,none⟩) hb1).trans e0,(hv.cell (p:=⟨bd,od+k * 4+1,none⟩) hb1).trans e1,(hv.cell (p:=⟨bd,od+k * 4+2,none⟩) hb1).trans e2,(hv.cell (p:=⟨bd,od+k * 4+3,none⟩) hb1).trans e3,below_lt hv hb1⟩:v.cell? ⟨bd,od+k * 4,none⟩=some (.slice SA sn sc)∧v.cell? ⟨bd,od+k * 4+1,none⟩=some (.slice AA an ac)∧v.cell? ⟨bd,od+k * 4+2,none⟩=some (.slice JA jn jc)∧v.cell? ⟨bd,od+k * 4+3,none⟩=some (.slice MA mn mc)∧bd<v.heap.size))
 have h0:=((S.consBlkQ #[.slice (some ⟨bd,od,none⟩) dn dc] 48).consBlkQ #[.slice SF fl.sigs.length sfc,.slice AF fl.asgs.length afc,.slice none 0 0,.slice MF fl.mems.length mfc] 108).consBlkQ #[.slice none 0 0,.slice none 0 0,.slice none 0 0,.slice none 0 0] 108
 simp only [World.size_alloc] at h0
 clear hM hbd hports hpn hmd S hb1 hk ih e0 e1 e2 e3
 go_enter Tryz.func99,Tryz.ntmps99
 go_upto_region 1 with fail
 obtain ⟨gD,hgD⟩:∃g,w.heap.size=g:=⟨_,rfl⟩
 obtain ⟨gG,hgG⟩:∃g,w.heap.size+1=g:=⟨_,rfl⟩
 obtain ⟨gR,hgR⟩:∃g,w.heap.size+1+1=g:=⟨_,rfl⟩
 rw [hgR] at h0
 (try rw [hgR])
 rw [hgG] at h0
 (try rw [hgG])
 rw [hgD] at h0
 (try rw [hgD])
 clear hgD hgG hgR
 have HS0:=Lib.hid h0
 clear h0
 generalize ((w.alloc (.cells #[.slice (some ⟨bd,od,none⟩) dn dc] 48)).alloc (.cells #[.slice SF fl.sigs.length sfc,.slice AF fl.asgs.length afc,.slice none 0 0,.slice MF fl.mems.length mfc] 108)).alloc (.cells #[.slice none 0 0,.slice none 0 0,.slice none 0 0,.slice none 0 0] 108)=W0 at *
 obtain ⟨e0,e1,e2,e3,l1⟩:=HE.out _ HS0.out.bel
 have x0:=cell_heap (k:=0) (HS0.out.blk 2 rfl).1 rfl
 have lx:=heap_lt0 (HS0.out.blk 2 rfl).1
 have HS1:=Lib.hid (HS0.out.consBlkQ #[.slice SA sn sc,.slice AA an ac,.slice JA jn jc,.slice MA mn mc] 108)
 go_upto_region 2 with fail
 obtain ⟨gM,hgM⟩:∃g,W0.heap.size=g:=⟨_,rfl⟩
 rw [hgM] at HS1
 (try rw [hgM])
 generalize W0.alloc (.cells #[.slice SA sn sc,.slice AA an ac,.slice JA jn jc,.slice MA mn mc] 108)=W1 at *
 clear e0 e1 e2 e3 l1 x0 lx hgM HS0
 have HS3:=Lib.hid ((HS1.out.pushNew 3 1).permQ (List.perm_append_comm (l₂:=[_])))
 go_upto_region 3 with fail
 obtain ⟨gI,hgI⟩:∃g,W1.heap.size=g:=⟨_,rfl⟩
 rw [hgI] at HS3
 (try rw [hgI])
 generalize W1.alloc (.cells #[] 3)=w3 at *
 clear hgI HS1
 go_wp2_with fail
 have HS4:Hid (Sepa W w3 (.blk gR #[.slice none 0 0,.slice none 0 0,.slice none 0 0,.slice none 0 0] 108 :: .blk gM #[.slice SA sn sc,.slice AA an ac,.slice JA jn jc,.slice MA mn mc] 108 :: .cel (celI []) (.slice (some ⟨gI,0,none⟩) 0 0) :: .blk gG #[.slice SF fl.sigs.length sfc,.slice AF fl.asgs.length afc,.slice none 0 0,.slice MF fl.mems.length mfc] 108 :: sgP fl.sigs SF sfc :: .cel (celI ports) (.slice PA pn pc) :: asP fl.asgs AF afc :: mmP fl.mems MF mfc :: .blk gD #[.slice (some ⟨bd,od,none⟩) dn dc] 48 :: rs)):=(((((((((HS3.out.moveQ 4 rfl).moveQ 7 rfl).moveQ 7 rfl).moveQ 8 rfl).moveQ 8 rfl).moveQ 8 rfl).moveQ 6 rfl).moveQ 7 rfl).moveQ 8 rfl)
 clear HS3
 refine sadd_lp1 W m SA AA JA MA sn sc an ac jn jc mn mc gG gR gM p cp ports PA (some ⟨gI,0,none⟩) SF pn pc 0 sfc fl.sigs AF MF fl.asgs.length afc fl.mems.length mfc _ w3 HM.out hs30 hp1 hp4 HPI.out (fun ht=>by rw [HPN.out ht,HPQ.out]) HBD.out.sg HS4.out ?_ ?_
 rotate_left
 ·intro qA qB qC qD q1 q2 q3 q4 q5 q6 q7 q8
  intros
  rename_i w4 h4
  have HR:Hid (addM d (f+1) (!cp) k p ports fl=none):=by show _=_;rw [HADD.out,h4.1]
  have HB4:=Lib.hid h4.2
  clear h4
  (try simp only [Exit.inBlock,Exit.then])
  refine bodyPost_ret (v := .tuple #[.agg #[.slice qA q1 q2,.slice qB q3 q4,.slice qC q5 q6,.slice qD q7 q8],.bool false]) (results_cell2 Tryz.results99 rfl (HB4.out.blk 0 rfl).1 Tryz.underlying108 (by kernel_rfl)) rfl (.inr ⟨HR.out,⟨_,_,_,_,_,_,_,_,_,_,_,_,rfl⟩,HB4.out.tail.tail.tail.tail⟩)
 intro fl1 pl SF1 IA sfc1 ic
 intros
 rename_i w4 h4
 obtain ⟨hsg,hpln,hpli,hlo,h60,hS4⟩:=h4
 have HSG:=Lib.hid hsg
 have HPLN:=Lib.hid hpln
 have HPLI:=Lib.hid hpli
 have HS5:=Lib.hid ((((((((((hS4.moveQ 8 rfl).moveQ 8 rfl).moveQ 7 rfl).moveQ 7 rfl).moveQ 4 rfl).moveQ 8 rfl).moveQ 8 rfl).moveQ 8 rfl).moveQ 8 rfl))
 clear hsg hpln hpli hS4 HS4
 go_wp2_with fail
 refine sadd_lp2 W m SA AA JA MA sn sc an ac jn jc mn mc gG gM p pl IA AF ic afc fl.asgs _ _ _ w4 HM.out ha30 HAF.out HBD.out.as_ HS5.out ?_
 intro AF2 afc2
 intros
 rename_i w5 hS5
 have HS6:=Lib.hid ((((((((((hS5.moveQ 8 rfl).moveQ 7 rfl).moveQ 7 rfl).moveQ 7 rfl).moveQ 7 rfl).moveQ 8 rfl).moveQ 8 rfl).moveQ 8 rfl).moveQ 8 rfl))
 clear hS5 HS5
 go_wp2_with fail
 refine sadd_lp3 W m SA AA JA MA sn sc an ac jn jc mn mc gG gM pl IA MF ic mfc fl.mems _ _ _ w5 HM.out hm2 HMF.out HBD.out.mm HS6.out ?_
 intro MF2 mfc2
 intros
 rename_i w6 hS6
 have HS7:=Lib.hid ((((((((((hS6.moveQ 7 rfl).moveQ 3 rfl).moveQ 3 rfl).moveQ 3 rfl).moveQ 8 rfl).moveQ 7 rfl).moveQ 6 rfl).moveQ 7 rfl).moveQ 8 rfl))
 clear hS6 HS6
 have b0:=cell_heap (k:=0) (HS7.out.blk 7 rfl).1 rfl
 have b1:=cell_heap (k:=1) (HS7.out.blk 7 rfl).1 rfl
 have b2:=cell_heap (k:=2) (HS7.out.blk 7 rfl).1 rfl
 have b3:=cell_heap (k:=3) (HS7.out.blk 7 rfl).1 rfl
 have lb:=heap_lt0 (HS7.out.blk 7 rfl).1
 have HA2:Hid (addM d (f+1) (!cp) k p ports fl=if fl1.length≤30∧(fl.asgs++m.asgs.map (mapAs p pl)).length≤30∧(fl.mems++m.mems.map (mapMm pl)).length≤2 then addIn (addM d f false) p pl m.insts ⟨fl1,(fl.asgs++m.asgs.map (mapAs p pl)),fl.insts,(fl.mems++m.mems.map (mapMm pl))⟩ else none):=by show _=_;rw [HADD.out,HSG.out]
 have hla:(fl.asgs++m.asgs.map (mapAs p pl)).length≤60:=by have h1:=HBD.out.as_;have h2:=HM.out.lens.2.1;rw [List.length_append,List.length_map];omega
 have hlm:(fl.mems++m.mems.map (mapMm pl)).length≤4:=by have h1:=HBD.out.mm;have h2:=HM.out.lens.2.2.2;rw [List.length_append,List.length_map];omega
 generalize (fl.asgs++m.asgs.map (mapAs p pl))=as2 at *
 generalize (fl.mems++m.mems.map (mapMm pl))=mm2 at *
 by_cases hB:fl1.length≤30∧as2.length≤30∧mm2.length≤2
 ·have d1:decide ((30:Int)<(fl1.length:Int))=false:=decide_eq_false (by omega)
  have d2:decide ((30:Int)<(as2.length:Int))=false:=decide_eq_false (by omega)
  have d3:decide ((2:Int)<(mm2.length:Int))=false:=decide_eq_false (by omega)
  rw [if_pos hB] at HA2
  have HBD2:Hid (FlBd ⟨fl1,as2,fl.insts,mm2⟩):=⟨hB.1,hB.2.1,hB.2.2,HBD.out.ins⟩
  clear hB
  go_wp2_with fail
  clear b0 b1 b2 b3 lb
  refine sadd_lp4 W d m _ SA AA JA MA dn dc sn sc an ac jn jc mn mc gD gR gG gM f k p pl IA SF1 AF2 MF2 ic sfc1 afc2 mfc2 ⟨fl1,as2,fl.insts,mm2⟩ _ w6 HM.out HIH.out hp1 hp4 hkf (by omega) hj3 HIM.out HPLI.out HPLN.out HBD2.out HS7.out ?_ ?_
  ·intro fl3 SF3 AF3 MF3 sfc3 afc3 mfc3
   intros
   rename_i w7 h7
   have HR:Hid (addM d (f+1) (!cp) k p ports fl=some fl3):=by show _=_;rw [HA2.out,h7.1]
   have HS8:=Lib.hid h7.2
   clear h7 HS7
   have b0:=cell_heap (k:=0) (HS8.out.blk 7 rfl).1 rfl
   have b1:=cell_heap (k:=1) (HS8.out.blk 7 rfl).1 rfl
   have b2:=cell_heap (k:=2) (HS8.out.blk 7 rfl).1 rfl
   have b3:=cell_heap (k:=3) (HS8.out.blk 7 rfl).1 rfl
   have lb:=heap_lt0 (HS8.out.blk 7 rfl).1
   have e0:=cell_heap (k:=0) (HS8.out.blk 3 rfl).1 rfl
   have e1:=cell_heap (k:=1) (HS8.out.blk 3 rfl).1 rfl
   have e2:=cell_heap (k:=2) (HS8.out.blk 3 rfl).1 rfl
   have e3:=cell_heap (k:=3) (HS8.out.blk 3 rfl).1 rfl
   have ef:=fun k=>frozen_heap (HS8.out.blk 3 rfl).1 k
   have le:=heap_lt0 (HS8.out.blk 3 rfl).1
   have HP:=Lib.hid ((((HS8.out.put 3 rfl 0 (.slice SF3 fl3.sigs.length sfc3)).put 3 rfl 1 (.slice AF3 fl3.asgs.length afc3)).put 3 rfl 2 (.slice none 0 0)).put 3 rfl 3 (.slice MF3 fl3.mems.length mfc3))
   go_wp2_with fail
   refine bodyPost_ret (v := .tuple #[.agg #[.slice SF3 fl3.sigs.length sfc3,.slice AF3 fl3.asgs.length afc3,.slice none 0 0,.slice MF3 fl3.mems.length mfc3],.bool true]) (results_cell2 Tryz.results99 rfl (HP.out.blk 3 rfl).1 Tryz.underlying108 (by kernel_rfl)) rfl ?_
   have HP2:=Lib.hid (HP.out.sub (qs:=rowsP fl3 SF3 sfc3 AF3 afc3 MF3 mfc3 (.cel (celI ports) (.slice PA pn pc) :: rs)) (.cons_cons _ (.cons_cons _ (.cons_cons _ (.cons _ (.cons _ (.cons _ (.cons _ (.cons _ (List.Sublist.refl _))))))))))
   first|exact .inl ⟨fl3,SF3,sfc3,AF3,afc3,MF3,mfc3,HR.out,rfl,HP2.out⟩|exact .inl ⟨fl3,HR.out,SF3,sfc3,AF3,afc3,MF3,mfc3,rfl,HP2.out⟩
  ·intro qA qB qC qD q1 q2 q3 q4 q5 q6 q7 q8
   intros
   rename_i w7 h7
   have HR:Hid (addM d (f+1) (!cp) k p ports fl=none):=by show _=_;rw [HA2.out,h7.1]
   have HB7:=Lib.hid h7.2
   clear h7 HS7
   (try simp only [Exit.inBlock,Exit.then])
   refine bodyPost_ret (v := .tuple #[.agg #[.slice qA q1 q2,.slice qB q3 q4,.slice qC q5 q6,.slice qD q7 q8],.bool false]) (results_cell2 Tryz.results99 rfl (HB7.out.blk 0 rfl).1 Tryz.underlying108 (by kernel_rfl)) rfl (.inr ⟨HR.out,⟨_,_,_,_,_,_,_,_,_,_,_,_,rfl⟩,HB7.out.tail.tail⟩)
 ·rw [if_neg hB] at HA2
  have HR:=HA2
  have e0:=cell_heap (k:=0) (HS7.out.blk 3 rfl).1 rfl
  have e1:=cell_heap (k:=1) (HS7.out.blk 3 rfl).1 rfl
  have e2:=cell_heap (k:=2) (HS7.out.blk 3 rfl).1 rfl
  have e3:=cell_heap (k:=3) (HS7.out.blk 3 rfl).1 rfl
  have ef:=fun k=>frozen_heap (HS7.out.blk 3 rfl).1 k
  have le:=heap_lt0 (HS7.out.blk 3 rfl).1
  have HP:=Lib.hid ((((HS7.out.put 3 rfl 0 (.slice SF1 fl1.length sfc1)).put 3 rfl 1 (.slice AF2 as2.length afc2)).put 3 rfl 2 (.slice none 0 0)).put 3 rfl 3 (.slice MF2 mm2.length mfc2))
  have HB7:=Lib.hid (HP.out.sub (qs:=rs) (.cons _ (.cons _ (.cons _ (.cons _ (.cons _ (.cons _ (.cons _ (.cons _ (.cons _ (List.Sublist.refl _)))))))))))
  by_cases h1:fl1.length≤30
  ·have d1:decide ((30:Int)<(fl1.length:Int))=false:=decide_eq_false (by omega)
   by_cases h2:as2.length≤30
   ·have d2:decide ((30:Int)<(as2.length:Int))=false:=decide_eq_false (by omega)
    have d3:decide ((2:Int)<(mm2.length:Int))=true:=decide_eq_true (by omega)
    clear hB h1 h2
    go_wp2_with fail
    (try simp only [Exit.inBlock,Exit.then])
    refine bodyPost_ret (v := .tuple #[.agg #[.slice SF1 fl1.length sfc1,.slice AF2 as2.length afc2,.slice none 0 0,.slice MF2 mm2.length mfc2],.bool false]) (results_cell2 Tryz.results99 rfl (HP.out.blk 3 rfl).1 Tryz.underlying108 (by kernel_rfl)) rfl (.inr ⟨HR.out,⟨_,_,_,_,_,_,_,_,_,_,_,_,rfl⟩,HB7.out⟩)
   ·have d2:decide ((30:Int)<(as2.length:Int))=true:=decide_eq_true (by omega)
    clear hB h1 h2
    go_wp2_with fail
    (try simp only [Exit.inBlock,Exit.then])
    refine bodyPost_ret (v := .tuple #[.agg #[.slice SF1 fl1.length sfc1,.slice AF2 as2.length afc2,.slice none 0 0,.slice MF2 mm2.length mfc2],.bool false]) (results_cell2 Tryz.results99 rfl (HP.out.blk 3 rfl).1 Tryz.underlying108 (by kernel_rfl)) rfl (.inr ⟨HR.out,⟨_,_,_,_,_,_,_,_,_,_,_,_,rfl⟩,HB7.out⟩)
  ·have d1:decide ((30:Int)<(fl1.length:Int))=true:=decide_eq_true (by omega)
   clear hB h1
   go_wp2_with fail
   (try simp only [Exit.inBlock,Exit.then])
   refine bodyPost_ret (v := .tuple #[.agg #[.slice SF1 fl1.length sfc1,.slice AF2 as2.length afc2,.slice none 0 0,.slice MF2 mm2.length mfc2],.bool false]) (results_cell2 Tryz.results99 rfl (HP.out.blk 3 rfl).1 Tryz.underlying108 (by kernel_rfl)) rfl (.inr ⟨HR.out,⟨_,_,_,_,_,_,_,_,_,_,_,_,rfl⟩,HB7.out⟩)
theorem sadd_any {W:World} {d:List MdT} (hd:DsFit d) {bd od dn dc:Nat} (hD:RdC W W.heap.size (celMd d) (.slice (some ⟨bd,od,none⟩) dn dc)):∀f,SAddC Tryz.prog 99 W d (.slice (some ⟨bd,od,none⟩) dn dc) f
 | 0=>fun k _ _ _ _ _ _ _ _ _ _ _ _ _ _ _ hk=>absurd hk (Nat.not_lt_zero k)
 | f+1=>sadd_step hd hD (sadd_any hd hD f)
end Go.Proofs.YtlinbdkbbhpdpaaGreat

namespace Go.Proofs.YtlinbdkbbhpdpaaGreat
set_option maxRecDepth 100000
open Go.RowKit

set_option maxHeartbeats 4000000 in
theorem sflatten_any (d:List MdT) (DA:Option Addr) (dn dc:Nat) (p:Int) (w:World) (h:RdC w w.heap.size (celMd d) (.slice DA dn dc)) :
  Calls Tryz.prog 53 #[.agg #[.slice DA dn dc],.int .i64 p] w fun e w'=>(∃fl SA sc AA ac MA mc,flatD d p=some fl∧e = .returned (.tuple #[.agg #[.slice SA fl.sigs.length sc,.slice AA fl.asgs.length ac,.slice none 0 0,.slice MA fl.mems.length mc],.bool true])∧Sepa w w' [sgP fl.sigs SA sc,asP fl.asgs AA ac,mmP fl.mems MA mc])∨(flatD d p=none∧e = .returned (.tuple #[.agg #[.slice none 0 0,.slice none 0 0,.slice none 0 0,.slice none 0 0],.bool false])∧Below w.heap.size w w'):=by
 have HD:=Lib.hid h
 have HDL:=Lib.hid h.mdN
 clear h
 have h0:=((Sepa.refl w).pushBlk #[.slice DA dn dc] 48).pushBlk #[.slice none 0 0,.slice none 0 0,.slice none 0 0,.slice none 0 0] 108
 simp only [World.size_alloc] at h0
 go_enter Tryz.func53,Tryz.ntmps53
 go_upto_region 1 with fail
 obtain ⟨gB,hgB⟩:∃g,w.heap.size=g:=⟨_,rfl⟩
 obtain ⟨gR,hgR⟩:∃g,w.heap.size+1=g:=⟨_,rfl⟩
 rw [hgR] at h0
 (try rw [hgR])
 rw [hgB] at h0
 (try rw [hgB])
 clear hgB hgR
 have HS0:=Lib.hid h0
 clear h0
 generalize (w.alloc (.cells #[.slice DA dn dc] 48)).alloc (.cells #[.slice none 0 0,.slice none 0 0,.slice none 0 0,.slice none 0 0] 108)=W9 at *
 have x0:=cell_heap (k:=0) (HS0.out.blk 0 rfl).1 rfl
 have lx:=heap_lt0 (HS0.out.blk 0 rfl).1
 go_wp2_with fail
 refine (sdesignOk_any d DA dn dc _ (HD.out.below HS0.out.bel)).mono ?_
 rintro _ w1 ⟨rfl,b1⟩
 replace HS0:=Lib.hid (HS0.out.below b1)
 clear b1 x0 lx
 by_cases hds:DsFit d
 rotate_left
 ·have HNO:Hid (flatD d p=none):=flatD_off (.inl hds)
  rw [tb_false hds]
  clear hds
  have e0:=cell_heap (k:=0) (HS0.out.blk 1 rfl).1 rfl
  have e1:=cell_heap (k:=1) (HS0.out.blk 1 rfl).1 rfl
  have e2:=cell_heap (k:=2) (HS0.out.blk 1 rfl).1 rfl
  have e3:=cell_heap (k:=3) (HS0.out.blk 1 rfl).1 rfl
  have ef:=fun k=>frozen_heap (HS0.out.blk 1 rfl).1 k
  have le:=heap_lt0 (HS0.out.blk 1 rfl).1
  have HP:=Lib.hid ((((HS0.out.put 1 rfl 0 (.slice none 0 0)).put 1 rfl 1 (.slice none 0 0)).put 1 rfl 2 (.slice none 0 0)).put 1 rfl 3 (.slice none 0 0))
  go_wp2_with fail
  generalize (((w1.setCell ⟨gR,0,none⟩ (.slice none 0 0)).setCell ⟨gR,1,none⟩ (.slice none 0 0)).setCell ⟨gR,2,none⟩ (.slice none 0 0)).setCell ⟨gR,3,none⟩ (.slice none 0 0)=WF at *
  have hb:WF.heap[gR]?=some (.cells #[.slice none 0 0,.slice none 0 0,.slice none 0 0,.slice none 0 0] 108 (0,0)):=(HP.out.blk 1 rfl).1
  exact bodyPost_ret (v := .tuple #[.agg #[.slice none 0 0,.slice none 0 0,.slice none 0 0,.slice none 0 0],.bool false]) (results_cell2 Tryz.results53 rfl hb Tryz.underlying108 (by kernel_rfl)) rfl (.inr ⟨HNO.out,rfl,HP.out.bel⟩)
 rw [tb_true hds]
 go_wp2_with fail
 refine (l01In_any p 1 4 _).mono ?_
 rintro _ w' ⟨rfl,rfl⟩
 by_cases hp:1≤p∧p≤4
 rotate_left
 ·have HNO:Hid (flatD d p=none):=flatD_off (.inr hp)
  rw [show inR p 1 4=false from Bool.eq_false_iff.2 fun hx=>hp (inR_iff.1 hx)]
  clear hds hp
  have e0:=cell_heap (k:=0) (HS0.out.blk 1 rfl).1 rfl
  have e1:=cell_heap (k:=1) (HS0.out.blk 1 rfl).1 rfl
  have e2:=cell_heap (k:=2) (HS0.out.blk 1 rfl).1 rfl
  have e3:=cell_heap (k:=3) (HS0.out.blk 1 rfl).1 rfl
  have ef:=fun k=>frozen_heap (HS0.out.blk 1 rfl).1 k
  have le:=heap_lt0 (HS0.out.blk 1 rfl).1
  have HP:=Lib.hid ((((HS0.out.put 1 rfl 0 (.slice none 0 0)).put 1 rfl 1 (.slice none 0 0)).put 1 rfl 2 (.slice none 0 0)).put 1 rfl 3 (.slice none 0 0))
  go_wp2_with fail
  generalize (((w1.setCell ⟨gR,0,none⟩ (.slice none 0 0)).setCell ⟨gR,1,none⟩ (.slice none 0 0)).setCell ⟨gR,2,none⟩ (.slice none 0 0)).setCell ⟨gR,3,none⟩ (.slice none 0 0)=WF at *
  have hb:WF.heap[gR]?=some (.cells #[.slice none 0 0,.slice none 0 0,.slice none 0 0,.slice none 0 0] 108 (0,0)):=(HP.out.blk 1 rfl).1
  exact bodyPost_ret (v := .tuple #[.agg #[.slice none 0 0,.slice none 0 0,.slice none 0 0,.slice none 0 0],.bool false]) (results_cell2 Tryz.results53 rfl hb Tryz.underlying108 (by kernel_rfl)) rfl (.inr ⟨HNO.out,rfl,HP.out.bel⟩)
 rw [inR_iff.2 hp]
 have HDS:=Lib.hid hds
 have HPR:=Lib.hid hp
 have hd1:=hds.pos
 have hd4:=hds.le
 rw [HDL.out] at hd1 hd4
 obtain ⟨bd,od,-,-,-,-,-,-,-,-,-,-,-,-,hDA,-⟩:=HD.out.md (k:=0) (by omega)
 subst hDA
 have hp1:=hp.1
 have hp4:=hp.2
 clear hds hp
 have x0:=cell_heap (k:=0) (HS0.out.blk 0 rfl).1 rfl
 have lx:=heap_lt0 (HS0.out.blk 0 rfl).1
 have HS1:=Lib.hid (((((HS0.out.pushNew 3 1).permQ (List.perm_append_comm (l₂:=[_]))).consNilQ 200 4).consNilQ 196 2).consNilQ 155 3)
 obtain ⟨gI,hgI⟩:∃g,w1.heap.size=g:=⟨_,rfl⟩
 rw [hgI] at HS1
 have HS2:Hid (Sepa w (w1.alloc (.cells #[] 3)) (rowsP MdT.zero none 0 none 0 none 0 (.cel (celI []) (.slice (some ⟨gI,0,none⟩) 0 0) :: [.blk gB #[.slice (some ⟨bd,od,none⟩) dn dc] 48,.blk gR #[.slice none 0 0,.slice none 0 0,.slice none 0 0,.slice none 0 0] 108]))):=HS1
 have HADD:=Lib.hid (sadd_any HDS.out HD.out 5 (dn - 1) false p [] MdT.zero none none none (some ⟨gI,0,none⟩) 0 0 0 0 0 [.blk gB #[.slice (some ⟨bd,od,none⟩) dn dc] 48,.blk gR #[.slice none 0 0,.slice none 0 0,.slice none 0 0,.slice none 0 0] 108] (w1.alloc (.cells #[] 3)) (by omega) (by rw [HDL.out];omega) hp1 hp4 ⟨by simp [MdT.zero],by simp [MdT.zero],by simp [MdT.zero],rfl⟩ (PlIn.nil _) (fun h=>by cases h) HS2.out)
 clear HS1
 go_wp2_with fail
 (try rw [hgI])
 refine (calls_eq HADD.out (show _=(#[.agg #[.slice (some ⟨bd,od,none⟩) dn dc],.int .i64 ((dn:Int) - 1),.int .i64 p,.bool false,.slice (some ⟨gI,0,none⟩) 0 0,.agg #[.slice none 0 0,.slice none 0 0,.slice none 0 0,.slice none 0 0]]:Array Value) from by rw [show ((dn:Int) - 1)=((dn - 1:Nat):Int) from by omega];rfl)).mono ?_
 clear hgI
 rw [←HDL.out]
 rintro _ w3 (⟨fl,SA,sc,AA,ac,MA,mc,hfl,rfl,S3⟩|⟨hfl,⟨qA,qB,qC,qD,q1,q2,q3,q4,q5,q6,q7,q8,rfl⟩,b3⟩)
 rotate_left
 ·have HNO:Hid (flatD d p=none):=flatD_none HDS.out HPR.out hfl
  have HS5:=Lib.hid (b3.consBlkQ #[.slice qA q1 q2,.slice qB q3 q4,.slice qC q5 q6,.slice qD q7 q8] 108)
  clear hfl b3 x0 lx HS2 HADD
  go_upto_region 4 with fail
  generalize w3.alloc (.cells #[.slice qA q1 q2,.slice qB q3 q4,.slice qC q5 q6,.slice qD q7 q8] 108)=W5 at *
  have e0:=cell_heap (k:=0) (HS5.out.blk 2 rfl).1 rfl
  have e1:=cell_heap (k:=1) (HS5.out.blk 2 rfl).1 rfl
  have e2:=cell_heap (k:=2) (HS5.out.blk 2 rfl).1 rfl
  have e3:=cell_heap (k:=3) (HS5.out.blk 2 rfl).1 rfl
  have ef:=fun k=>frozen_heap (HS5.out.blk 2 rfl).1 k
  have le:=heap_lt0 (HS5.out.blk 2 rfl).1
  have HP:=Lib.hid ((((HS5.out.put 2 rfl 0 (.slice none 0 0)).put 2 rfl 1 (.slice none 0 0)).put 2 rfl 2 (.slice none 0 0)).put 2 rfl 3 (.slice none 0 0))
  go_wp2_with fail
  generalize (((W5.setCell ⟨gR,0,none⟩ (.slice none 0 0)).setCell ⟨gR,1,none⟩ (.slice none 0 0)).setCell ⟨gR,2,none⟩ (.slice none 0 0)).setCell ⟨gR,3,none⟩ (.slice none 0 0)=WF at *
  have hb:WF.heap[gR]?=some (.cells #[.slice none 0 0,.slice none 0 0,.slice none 0 0,.slice none 0 0] 108 (0,0)):=(HP.out.blk 2 rfl).1
  exact bodyPost_ret (v := .tuple #[.agg #[.slice none 0 0,.slice none 0 0,.slice none 0 0,.slice none 0 0],.bool false]) (results_cell2 Tryz.results53 rfl hb Tryz.underlying108 (by kernel_rfl)) rfl (.inr ⟨HNO.out,rfl,HP.out.bel⟩)
 have HFL:=Lib.hid hfl
 have HBD:=Lib.hid (addM_low hfl rfl).1
 have HS3:=Lib.hid (S3.consBlkQ #[.slice SA fl.sigs.length sc,.slice AA fl.asgs.length ac,.slice none 0 0,.slice MA fl.mems.length mc] 108)
 clear hfl S3 x0 lx HS2 HADD
 go_upto_region 4 with fail
 obtain ⟨gN,hgN⟩:∃g,w3.heap.size=g:=⟨_,rfl⟩
 rw [hgN] at HS3
 (try rw [hgN])
 generalize w3.alloc (.cells #[.slice SA fl.sigs.length sc,.slice AA fl.asgs.length ac,.slice none 0 0,.slice MA fl.mems.length mc] 108)=W4 at *
 clear hgN
 have HMD:Hid (MdRd W4 fl SA AA none MA fl.sigs.length sc fl.asgs.length ac 0 0 fl.mems.length mc):=⟨HS3.out.rd 1 rfl,HS3.out.rd 2 rfl,by rw [HBD.out.ins];exact ((Sepa.refl W4).pushNil 202 3).rd 0 rfl,HS3.out.rd 3 rfl⟩
 have b0:=cell_heap (k:=0) (HS3.out.blk 0 rfl).1 rfl
 have b1:=cell_heap (k:=1) (HS3.out.blk 0 rfl).1 rfl
 have b2:=cell_heap (k:=2) (HS3.out.blk 0 rfl).1 rfl
 have b3:=cell_heap (k:=3) (HS3.out.blk 0 rfl).1 rfl
 have lb:=heap_lt0 (HS3.out.blk 0 rfl).1
 go_wp2_with fail
 refine (sflatOk_any fl SA AA none MA fl.sigs.length sc fl.asgs.length ac 0 0 fl.mems.length mc _ HMD.out).mono ?_
 rintro _ w4 ⟨rfl,b4⟩
 have HS4:=Lib.hid (HS3.out.below b4)
 clear b4 b0 b1 b2 b3 lb HS3
 by_cases hff:FlatFit fl
 ·have HYES:Hid (flatD d p=some fl):=flatD_some HDS.out HPR.out HFL.out hff
  rw [tb_true hff]
  clear hff
  have b0:=cell_heap (k:=0) (HS4.out.blk 0 rfl).1 rfl
  have b1:=cell_heap (k:=1) (HS4.out.blk 0 rfl).1 rfl
  have b2:=cell_heap (k:=2) (HS4.out.blk 0 rfl).1 rfl
  have b3:=cell_heap (k:=3) (HS4.out.blk 0 rfl).1 rfl
  have lb:=heap_lt0 (HS4.out.blk 0 rfl).1
  have e0:=cell_heap (k:=0) (HS4.out.blk 6 rfl).1 rfl
  have e1:=cell_heap (k:=1) (HS4.out.blk 6 rfl).1 rfl
  have e2:=cell_heap (k:=2) (HS4.out.blk 6 rfl).1 rfl
  have e3:=cell_heap (k:=3) (HS4.out.blk 6 rfl).1 rfl
  have ef:=fun k=>frozen_heap (HS4.out.blk 6 rfl).1 k
  have le:=heap_lt0 (HS4.out.blk 6 rfl).1
  have HP:=Lib.hid ((((HS4.out.put 6 rfl 0 (.slice SA fl.sigs.length sc)).put 6 rfl 1 (.slice AA fl.asgs.length ac)).put 6 rfl 2 (.slice none 0 0)).put 6 rfl 3 (.slice MA fl.mems.length mc))
  go_wp2_with fail
  generalize ((((w4.setCell ⟨gR,0,none⟩ (.slice SA fl.sigs.length sc)).setCell ⟨gR,1,none⟩ (.slice AA fl.asgs.length ac)).setCell ⟨gR,2,none⟩ (.slice none 0 0)).setCell ⟨gR,3,none⟩ (.slice MA fl.mems.length mc))=WF at *
  have hb:WF.heap[gR]?=some (.cells #[.slice SA fl.sigs.length sc,.slice AA fl.asgs.length ac,.slice none 0 0,.slice MA fl.mems.length mc] 108 (0,0)):=(HP.out.blk 6 rfl).1
  exact bodyPost_ret (v := .tuple #[.agg #[.slice SA fl.sigs.length sc,.slice AA fl.asgs.length ac,.slice none 0 0,.slice MA fl.mems.length mc],.bool true]) (results_cell2 Tryz.results53 rfl hb Tryz.underlying108 (by kernel_rfl)) rfl (.inl ⟨fl,_,_,_,_,_,_,HYES.out,rfl,HP.out.sub (qs:=[_,_,_]) (.cons _ (.cons_cons _ (.cons_cons _ (.cons_cons _ (.cons _ (.cons _ (.cons _ .slnil)))))))⟩)
 ·have HNO:Hid (flatD d p=none):=flatD_bad HDS.out HPR.out HFL.out hff
  rw [tb_false hff]
  clear hff
  have e0:=cell_heap (k:=0) (HS4.out.blk 6 rfl).1 rfl
  have e1:=cell_heap (k:=1) (HS4.out.blk 6 rfl).1 rfl
  have e2:=cell_heap (k:=2) (HS4.out.blk 6 rfl).1 rfl
  have e3:=cell_heap (k:=3) (HS4.out.blk 6 rfl).1 rfl
  have ef:=fun k=>frozen_heap (HS4.out.blk 6 rfl).1 k
  have le:=heap_lt0 (HS4.out.blk 6 rfl).1
  have HP:=Lib.hid ((((HS4.out.put 6 rfl 0 (.slice none 0 0)).put 6 rfl 1 (.slice none 0 0)).put 6 rfl 2 (.slice none 0 0)).put 6 rfl 3 (.slice none 0 0))
  go_wp2_with fail
  generalize (((w4.setCell ⟨gR,0,none⟩ (.slice none 0 0)).setCell ⟨gR,1,none⟩ (.slice none 0 0)).setCell ⟨gR,2,none⟩ (.slice none 0 0)).setCell ⟨gR,3,none⟩ (.slice none 0 0)=WF at *
  have hb:WF.heap[gR]?=some (.cells #[.slice none 0 0,.slice none 0 0,.slice none 0 0,.slice none 0 0] 108 (0,0)):=(HP.out.blk 6 rfl).1
  exact bodyPost_ret (v := .tuple #[.agg #[.slice none 0 0,.slice none 0 0,.slice none 0 0,.slice none 0 0],.bool false]) (results_cell2 Tryz.results53 rfl hb Tryz.underlying108 (by kernel_rfl)) rfl (.inr ⟨HNO.out,rfl,HP.out.bel⟩)
end Go.Proofs.YtlinbdkbbhpdpaaGreat
