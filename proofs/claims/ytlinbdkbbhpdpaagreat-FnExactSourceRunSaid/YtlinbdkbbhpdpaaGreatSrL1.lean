/- The instances of a module are added to a flat one, in the program (printed by mkad4.py). The memories of a module are added to a flat one, in the program (printed by mkad3.py). A module is added to a flat one, in the program (printed by mkad5.py). A design made flat, in the program (printed by mkfl1.py). -/
import Derived.Test.YtlinbdkbbhpdpaaGreatHeldT
import Derived.Test.YtlinbdkbbhpdpaaGreatResc
import Derived.Test.YtlinbdkbbhpdpaaGreatSrA1
import Derived.Test.YtlinbdkbbhpdpaaGreatSrA2
import Derived.Test.YtlinbdkbbhpdpaaGreatSrF2
import Derived.Test.YtlinbdkbbhpdpaaGreatSrF9
import Derived.Test.YtlinbdkbbhpdpaaGreatSrO
import Derived.Test.YtlinbdkbbhpdpaaGreatSrZ
namespace Go.Proofs.YtlinbdkbbhpdpaaGreat
set_option maxRecDepth 100000
open Go.RowKit

set_option maxRecDepth 100000 in
set_option maxHeartbeats 8000000 in
theorem add_lp4 (W:World) (d:List MdT) (m:MdT) (SA AA JA MA:Option Addr) (sn sc an ac jn jc mn mc:Nat) (gF gM f kk:Nat) (p:Int) (pl:List Int) (PLA SF0 AF0 MF0:Option Addr) (plc sfc0 afc0 mfc0:Nat) (fl0:MdT) (DV:Value) (rs:List Pc) {v1 v3 v4 v5 v6 v7 v8 v9 v10 v13 v14 v15 v16 v17 v18 v19 v20 v21 v22 v23 v24 v25 v26 v27 v28 v29 v30 v31 v32 v33 v34 v35 v36 v37 v38 v39 v40 v41 v42 v43 v44 v45 v46 v47 v48 v49 v50 v51 v52 v53 v54 v55 v56 v57 v58 v59 v60 v61 v62 v63 v64 v65 v66 v67 v68 v69 v70 v71 v72 v73 v74 v75 v76 v77 v78 v79 v80 v81 v82 v83 v84 v85 v86 v87 v88 v89 v90 v91 v92 v93 v94 v95 v96 v97 v98 v99 v100 v101 v102 v103 v104 v105 v106 v107 v108 v109 v110 v111 v112 v113 v114 v115 v116 v117 v118 v119 v120 v121 v122 v123 v124 v125 v126 v127 v128 v129 v130 v131 v132 v133 v134 v135 v136 v137 v138 v139 v140 v141 v142 v143 v144 v145 v146 v147 v148 v149 v150 v151 v152 v153 v154 v155 v156 v157 v158 v159 v160 v161 v162 v163 v164 v165 v166 v167 v168 v169 v170 v171 v172 v173 v174 v175 v176 v177 v178 v179 v180 v181 v182 v183 v184 v185 v186 v187 v188 v189 v190 v191 v192 v193 v194 v195 v196 v197 v198 v199 v200 v201 v202 v203 v204 v205 v206 v207 v208 v209 v210 v211 v212 v213 v214 v215 v216 v217 v218 v219 v220 v221 v222 v223 v224 v225 v226 v227 v228 v229 v230 v231 v232 v233 v234 v235 v236 v237 v238 v239 v240 v241 v242 v243 v244 v248 v249 v250 v251 v252 v253 v254 v255 v256 v257 v258 v259 v260 v261 v262 v263 v264 v265 v266 v267 v268 v269 v270 v271 v272 v273 v274 v275 v276 v277 v278:Value} {Q0:Exit→Act→World→Prop} (w:World) (hM:MdRd W m SA AA JA MA sn sc an ac jn jc mn mc) (hrec:AddC Tryz.prog 107 W d DV gF f) (hp1:1≤p) (hp4:p≤4) (hkf:kk≤f) (hkd:kk≤d.length) (hj3:jn≤3) (him:∀i,i<m.insts.length→((0≤(m.insts[i]?.getD InT.zero).module∧(m.insts[i]?.getD InT.zero).module<kk)∧(0≤(m.insts[i]?.getD InT.zero).param∧(m.insts[i]?.getD InT.zero).param≤4))∧(m.insts[i]?.getD InT.zero).ports.length=(portsOf (mdK d (m.insts[i]?.getD InT.zero).module.toNat)).length∧PlIn (m.insts[i]?.getD InT.zero).ports sn) (hpl:PlIn pl fl0.sigs.length) (hpln:pl.length=sn) (hbd:FlBd fl0) (S:Sepa W w (flP gF DV fl0 SF0 sfc0 AF0 afc0 MF0 mfc0 (.blk gM #[.slice SA sn sc,.slice AA an ac,.slice JA jn jc,.slice MA mn mc] 108 :: .cel (celI pl) (.slice PLA sn plc) :: rs)))
  (hexit:∀(fl:MdT) (SF AF MF:Option Addr) (sfc afc mfc:Nat) (y10 y26 y27 y28 y30 y247 y248 y249 y250 y251 y252 y253 y254 y255 y256 y257 y258 y259 y260 y261 y262 y263 y264 y265 y266 y267 y268 y269 y270 y271 y272 y273 y274 y275 y276 y277 y278:Value) (w':World),(addIn (addM d f false) p pl m.insts fl0=some fl∧Sepa W w' (flP gF DV fl SF sfc AF afc MF mfc (.blk gM #[.slice SA sn sc,.slice AA an ac,.slice JA jn jc,.slice MA mn mc] 108 :: .cel (celI pl) (.slice PLA sn plc) :: rs)))→Q0 (.exit 9) ⟨List.toArray (.pointer (some ⟨gF,0,none⟩) :: v1 :: .int .i64 p :: v3 :: v4 :: v5 :: v6 :: v7 :: v8 :: v9 :: y10 :: .pointer (some ⟨gM,0,none⟩) :: .slice PLA sn plc :: v13 :: v14 :: v15 :: v16 :: v17 :: v18 :: v19 :: v20 :: v21 :: v22 :: v23 :: v24 :: v25 :: y26 :: y27 :: y28 :: v29 :: y30 :: v31 :: v32 :: v33 :: v34 :: v35 :: v36 :: v37 :: v38 :: v39 :: v40 :: v41 :: v42 :: v43 :: v44 :: v45 :: v46 :: v47 :: v48 :: v49 :: v50 :: v51 :: v52 :: v53 :: v54 :: v55 :: v56 :: v57 :: v58 :: v59 :: v60 :: v61 :: v62 :: v63 :: v64 :: v65 :: v66 :: v67 :: v68 :: v69 :: v70 :: v71 :: v72 :: v73 :: v74 :: v75 :: v76 :: v77 :: v78 :: v79 :: v80 :: v81 :: v82 :: v83 :: v84 :: v85 :: v86 :: v87 :: v88 :: v89 :: v90 :: v91 :: v92 :: v93 :: v94 :: v95 :: v96 :: v97 :: v98 :: v99 :: v100 :: v101 :: v102 :: v103 :: v104 :: v105 :: v106 :: v107 :: v108 :: v109 :: v110 :: v111 :: v112 :: v113 :: v114 :: v115 :: v116 :: v117 :: v118 :: v119 :: v120 :: v121 :: v122 :: v123 :: v124 :: v125 :: v126 :: v127 :: v128 :: v129 :: v130 :: v131 :: v132 :: v133 :: v134 :: v135 :: v136 :: v137 :: v138 :: v139 :: v140 :: v141 :: v142 :: v143 :: v144 :: v145 :: v146 :: v147 :: v148 :: v149 :: v150 :: v151 :: v152 :: v153 :: v154 :: v155 :: v156 :: v157 :: v158 :: v159 :: v160 :: v161 :: v162 :: v163 :: v164 :: v165 :: v166 :: v167 :: v168 :: v169 :: v170 :: v171 :: v172 :: v173 :: v174 :: v175 :: v176 :: v177 :: v178 :: v179 :: v180 :: v181 :: v182 :: v183 :: v184 :: v185 :: v186 :: v187 :: v188 :: v189 :: v190 :: v191 :: v192 :: v193 :: v194 :: v195 :: v196 :: v197 :: v198 :: v199 :: v200 :: v201 :: v202 :: v203 :: v204 :: v205 :: v206 :: v207 :: v208 :: v209 :: v210 :: v211 :: v212 :: v213 :: v214 :: v215 :: v216 :: v217 :: v218 :: v219 :: v220 :: v221 :: v222 :: v223 :: v224 :: v225 :: v226 :: v227 :: v228 :: v229 :: v230 :: v231 :: v232 :: v233 :: v234 :: v235 :: v236 :: v237 :: v238 :: v239 :: v240 :: v241 :: v242 :: v243 :: v244 :: .slice JA jn jc :: .int .i64 (jn:Int) :: y247 :: y248 :: y249 :: y250 :: y251 :: y252 :: y253 :: y254 :: y255 :: y256 :: y257 :: y258 :: y259 :: y260 :: y261 :: y262 :: y263 :: y264 :: y265 :: y266 :: y267 :: y268 :: y269 :: y270 :: y271 :: y272 :: y273 :: y274 :: y275 :: y276 :: y277 :: y278 :: []),[]⟩ w')
  (hret:∀(y26 y27 y28 y30 y247 y248 y249 y250 y251 y252 y253 y254 y255 y256 y257 y258 y259 y260 y261 y262 y263 y264 y265 y266 y267 y268 y269 y270 y271 y272 y273 y274 y275 y276 y277 y278:Value) (w':World),(addIn (addM d f false) p pl m.insts fl0=none∧Sepa W w' rs)→Q0 .ret ⟨List.toArray (.pointer (some ⟨gF,0,none⟩) :: v1 :: .int .i64 p :: v3 :: v4 :: v5 :: v6 :: v7 :: v8 :: v9 :: .bool false :: .pointer (some ⟨gM,0,none⟩) :: .slice PLA sn plc :: v13 :: v14 :: v15 :: v16 :: v17 :: v18 :: v19 :: v20 :: v21 :: v22 :: v23 :: v24 :: v25 :: y26 :: y27 :: y28 :: v29 :: y30 :: v31 :: v32 :: v33 :: v34 :: v35 :: v36 :: v37 :: v38 :: v39 :: v40 :: v41 :: v42 :: v43 :: v44 :: v45 :: v46 :: v47 :: v48 :: v49 :: v50 :: v51 :: v52 :: v53 :: v54 :: v55 :: v56 :: v57 :: v58 :: v59 :: v60 :: v61 :: v62 :: v63 :: v64 :: v65 :: v66 :: v67 :: v68 :: v69 :: v70 :: v71 :: v72 :: v73 :: v74 :: v75 :: v76 :: v77 :: v78 :: v79 :: v80 :: v81 :: v82 :: v83 :: v84 :: v85 :: v86 :: v87 :: v88 :: v89 :: v90 :: v91 :: v92 :: v93 :: v94 :: v95 :: v96 :: v97 :: v98 :: v99 :: v100 :: v101 :: v102 :: v103 :: v104 :: v105 :: v106 :: v107 :: v108 :: v109 :: v110 :: v111 :: v112 :: v113 :: v114 :: v115 :: v116 :: v117 :: v118 :: v119 :: v120 :: v121 :: v122 :: v123 :: v124 :: v125 :: v126 :: v127 :: v128 :: v129 :: v130 :: v131 :: v132 :: v133 :: v134 :: v135 :: v136 :: v137 :: v138 :: v139 :: v140 :: v141 :: v142 :: v143 :: v144 :: v145 :: v146 :: v147 :: v148 :: v149 :: v150 :: v151 :: v152 :: v153 :: v154 :: v155 :: v156 :: v157 :: v158 :: v159 :: v160 :: v161 :: v162 :: v163 :: v164 :: v165 :: v166 :: v167 :: v168 :: v169 :: v170 :: v171 :: v172 :: v173 :: v174 :: v175 :: v176 :: v177 :: v178 :: v179 :: v180 :: v181 :: v182 :: v183 :: v184 :: v185 :: v186 :: v187 :: v188 :: v189 :: v190 :: v191 :: v192 :: v193 :: v194 :: v195 :: v196 :: v197 :: v198 :: v199 :: v200 :: v201 :: v202 :: v203 :: v204 :: v205 :: v206 :: v207 :: v208 :: v209 :: v210 :: v211 :: v212 :: v213 :: v214 :: v215 :: v216 :: v217 :: v218 :: v219 :: v220 :: v221 :: v222 :: v223 :: v224 :: v225 :: v226 :: v227 :: v228 :: v229 :: v230 :: v231 :: v232 :: v233 :: v234 :: v235 :: v236 :: v237 :: v238 :: v239 :: v240 :: v241 :: v242 :: v243 :: v244 :: .slice JA jn jc :: .int .i64 (jn:Int) :: y247 :: y248 :: y249 :: y250 :: y251 :: y252 :: y253 :: y254 :: y255 :: y256 :: y257 :: y258 :: y259 :: y260 :: y261 :: y262 :: y263 :: y264 :: y265 :: y266 :: y267 :: y268 :: y269 :: y270 :: y271 :: y272 :: y273 :: y274 :: y275 :: y276 :: y277 :: y278 :: []),[]⟩ w')
  : Code.wp Tryz.prog (loopAt Tryz.f107 3) Q0 ⟨List.toArray (.pointer (some ⟨gF,0,none⟩) :: v1 :: .int .i64 p :: v3 :: v4 :: v5 :: v6 :: v7 :: v8 :: v9 :: v10 :: .pointer (some ⟨gM,0,none⟩) :: .slice PLA sn plc :: v13 :: v14 :: v15 :: v16 :: v17 :: v18 :: v19 :: v20 :: v21 :: v22 :: v23 :: v24 :: v25 :: v26 :: v27 :: v28 :: v29 :: v30 :: v31 :: v32 :: v33 :: v34 :: v35 :: v36 :: v37 :: v38 :: v39 :: v40 :: v41 :: v42 :: v43 :: v44 :: v45 :: v46 :: v47 :: v48 :: v49 :: v50 :: v51 :: v52 :: v53 :: v54 :: v55 :: v56 :: v57 :: v58 :: v59 :: v60 :: v61 :: v62 :: v63 :: v64 :: v65 :: v66 :: v67 :: v68 :: v69 :: v70 :: v71 :: v72 :: v73 :: v74 :: v75 :: v76 :: v77 :: v78 :: v79 :: v80 :: v81 :: v82 :: v83 :: v84 :: v85 :: v86 :: v87 :: v88 :: v89 :: v90 :: v91 :: v92 :: v93 :: v94 :: v95 :: v96 :: v97 :: v98 :: v99 :: v100 :: v101 :: v102 :: v103 :: v104 :: v105 :: v106 :: v107 :: v108 :: v109 :: v110 :: v111 :: v112 :: v113 :: v114 :: v115 :: v116 :: v117 :: v118 :: v119 :: v120 :: v121 :: v122 :: v123 :: v124 :: v125 :: v126 :: v127 :: v128 :: v129 :: v130 :: v131 :: v132 :: v133 :: v134 :: v135 :: v136 :: v137 :: v138 :: v139 :: v140 :: v141 :: v142 :: v143 :: v144 :: v145 :: v146 :: v147 :: v148 :: v149 :: v150 :: v151 :: v152 :: v153 :: v154 :: v155 :: v156 :: v157 :: v158 :: v159 :: v160 :: v161 :: v162 :: v163 :: v164 :: v165 :: v166 :: v167 :: v168 :: v169 :: v170 :: v171 :: v172 :: v173 :: v174 :: v175 :: v176 :: v177 :: v178 :: v179 :: v180 :: v181 :: v182 :: v183 :: v184 :: v185 :: v186 :: v187 :: v188 :: v189 :: v190 :: v191 :: v192 :: v193 :: v194 :: v195 :: v196 :: v197 :: v198 :: v199 :: v200 :: v201 :: v202 :: v203 :: v204 :: v205 :: v206 :: v207 :: v208 :: v209 :: v210 :: v211 :: v212 :: v213 :: v214 :: v215 :: v216 :: v217 :: v218 :: v219 :: v220 :: v221 :: v222 :: v223 :: v224 :: v225 :: v226 :: v227 :: v228 :: v229 :: v230 :: v231 :: v232 :: v233 :: v234 :: v235 :: v236 :: v237 :: v238 :: v239 :: v240 :: v241 :: v242 :: v243 :: v244 :: .slice JA jn jc :: .int .i64 (jn:Int) :: .int .i64 0 :: v248 :: v249 :: v250 :: v251 :: v252 :: v253 :: v254 :: v255 :: v256 :: v257 :: v258 :: v259 :: v260 :: v261 :: v262 :: v263 :: v264 :: v265 :: v266 :: v267 :: v268 :: v269 :: v270 :: v271 :: v272 :: v273 :: v274 :: v275 :: v276 :: v277 :: v278 :: []),[]⟩ w:=by
 have HL3:=Lib.hid hM.lens.2.2.1
 have HM:=Lib.hid hM
 have HIM:=Lib.hid him
 have HREC:=Lib.hid hrec
 have HPL:=Lib.hid hpl
 have HPLN:=Lib.hid hpln
 have HS0:=Lib.hid S
 have HX:=Lib.hid hexit
 have HZ:=Lib.hid hret
 have HB0:=Lib.hid hbd
 clear hM him hrec hpl hpln S hexit hret hbd
 conv=>arg 2;whnf
 go_loopw [247] (fun i wr=>∃(k:Nat) (fl:MdT) (SF AF MF:Option Addr) (sfc afc mfc:Nat),k≤jn∧i = .int .i64 (k:Int)∧addIn (addM d f false) p pl (m.insts.drop k) fl=addIn (addM d f false) p pl m.insts fl0∧FlBd fl∧fl0.sigs.length≤fl.sigs.length∧Sepa W wr (flP gF DV fl SF sfc AF afc MF mfc (.blk gM #[.slice SA sn sc,.slice AA an ac,.slice JA jn jc,.slice MA mn mc] 108 :: .cel (celI pl) (.slice PLA sn plc) :: rs))) (fun i _=>jn - (intOf i).toNat)
 case atStart=>exact ⟨0,fl0,_,_,_,_,_,_,by omega,rfl,by rw [List.drop_zero],HB0.out,Nat.le_refl _,HS0.out⟩
 case round =>
  obtain ⟨k,fl,SF,AF,MF,sfc,afc,mfc,hk,rfl,ha,hbd,hlo,hs⟩:=hrel
  have HS:=Lib.hid hs
  have HA:=Lib.hid ha
  have HBD:=Lib.hid hbd
  clear hs ha hbd
  by_cases hlt:k<jn
  ·have hdk:decide ((k:Int)<(jn:Int))=true:=by simp;omega
   have i0:(0:Int)≤(k:Int):=by omega
   have i1:(k:Int)<(jn:Int):=by omega
   have hkl:k<m.insts.length:=by rw [HL3.out];exact hlt
   obtain ⟨bi,oi,PA,pn,pc,hJA,hbi,c0,c1,c2,r0⟩:=HM.out.ins.inE (k:=k) hkl
   subst hJA
   rw [←HS.out.bel.cell (p:=⟨bi,oi+k * 3,none⟩) hbi] at c0
   rw [←HS.out.bel.cell (p:=⟨bi,oi+k * 3+1,none⟩) hbi] at c1
   rw [←HS.out.bel.cell (p:=⟨bi,oi+k * 3+2,none⟩) hbi] at c2
   have lbi:=below_lt HS.out.bel hbi
   obtain ⟨⟨hm1,hm2⟩,hpq,hip⟩:=HIM.out k hkl
   have HAD0:Hid (_=addIn (addM d f false) p pl m.insts fl0):=(addIn_cons (g:=addM d f false) (p:=p) (pl:=pl) (l:=m.insts) (fl:=fl) hkl).symm.trans HA.out
   generalize m.insts[k]?.getD InT.zero=q at *
   obtain ⟨mo,pa,po⟩:=q
   simp only at c0 c1 r0 hm1 hm2 hpq hip HAD0
   obtain ⟨M,rfl⟩:∃M:Nat,mo=(M:Int):=⟨mo.toNat,by omega⟩
   rw [Int.toNat_natCast] at hpq HAD0
   have HPR:=Lib.hid r0.ints
   have HPN:Hid (po.length=pn):=HPR.out.1
   have HIP:=Lib.hid hip
   have HPQ:=Lib.hid hpq
   have hpn30:pn≤30:=by rw [←HPN.out,hpq];exact portsOf_len _
   have hMf:M<f:=by omega
   have hMd:M<d.length:=by omega
   have HPP:Hid (PlIn (po.map (atI pl)) fl.sigs.length):=fun y hy=>by
    obtain ⟨x,hx,rfl⟩:=List.mem_map.1 hy
    have h1:=HIP.out x hx
    exact (HPL.out.mono hlo).atI_ h1.1 (by rw [HPLN.out];exact h1.2)
   clear hkl hbi r0 hpq hip
   have HS5:=Lib.hid (HS.out.consBlkQ #[.int .i64 (M:Int),.int .i64 pa,.slice PA pn pc] 202)
   go_upto_region 46 with fail
   obtain ⟨gJ,hgJ⟩:∃g,wr.heap.size=g:=⟨_,rfl⟩
   rw [hgJ] at HS5
   (try rw [hgJ])
   generalize wr.alloc (.cells #[.int .i64 (M:Int),.int .i64 pa,.slice PA pn pc] 202)=W5 at *
   clear c0 c1 c2 lbi hgJ HS
   have y1:=cell_heap (k:=1) (HS5.out.blk 0 rfl).1 rfl
   have y2:=cell_heap (k:=2) (HS5.out.blk 0 rfl).1 rfl
   have ly:=heap_lt0 (HS5.out.blk 0 rfl).1
   go_upto_if 254 with fail
   go_cut [27] from 248 to 278 (fun v w'=>v = .int .i64 (if pa=0 then p else pa)∧W5=w')
   case first =>
    by_cases h0:pa=0
    ·have d0:(pa==0)=true:=by simp [h0]
     go_upto_region 49 with fail
     go_meet
     exact ⟨by rw [if_pos h0],rfl⟩
    ·have d0:(pa==0)=false:=by simp [h0]
     go_upto_region 49 with fail
     go_meet
     exact ⟨by rw [if_neg h0],rfl⟩
   obtain ⟨rfl,rfl⟩:=hcut
   have hinn:1≤(if pa=0 then p else pa)∧(if pa=0 then p else pa)≤4:=by split <;> omega
   generalize (if pa=0 then p else pa)=inn at *
   have hi1:=hinn.1
   have hi4:=hinn.2
   clear hinn
   have HAD:=HAD0
   clear HAD0
   have HS7:=Lib.hid (HS5.out.consNilQ 3 1)
   go_wp2_with fail
   clear y1 y2 ly HS5
   go_loopw [28,259] (fun a i wr=>∃(j:Nat) (OA:Option Addr) (oc:Nat),j≤pn∧i = .int .i64 (j:Int)∧a = .slice OA j oc∧Sepa W wr (.cel (celI ((po.take j).map (atI pl))) (.slice OA j oc) :: .blk gJ #[.int .i64 (M:Int),.int .i64 pa,.slice PA pn pc] 202 :: flP gF DV fl SF sfc AF afc MF mfc (.blk gM #[.slice SA sn sc,.slice AA an ac,.slice (some ⟨bi,oi,none⟩) jn jc,.slice MA mn mc] 108 :: .cel (celI pl) (.slice PLA sn plc) :: rs))) (fun _ i _=>pn - (intOf i).toNat)
   case atStart=>exact ⟨0,none,0,by omega,rfl,rfl,HS7.out⟩
   case round =>
    obtain ⟨j,OA,oc,hj,rfl,rfl,hs⟩:=hrel
    have HS:=Lib.hid hs
    clear hs
    by_cases hltj:j<pn
    ·have hdj:decide ((j:Int)<(pn:Int))=true:=by simp;omega
     have j0:(0:Int)≤(j:Int):=by omega
     have j1:(j:Int)<(pn:Int):=by omega
     have hjl:j<po.length:=by rw [HPN.out];exact hltj
     obtain ⟨bq,oq,hPA,hbq,hcq⟩:=HPR.out.2 (by omega)
     have cq:=(HS.out.bel.cell (p:=⟨bq,oq+j,none⟩) hbq).trans (hcq j hltj)
     have lbq:=below_lt HS.out.bel hbq
     subst hPA
     have hxi:=HIP.out.at_ hjl
     have HTK:Hid ((po.take (j+1)).map (atI pl)=(po.take j).map (atI pl)++[atI pl (po[j]?.getD 0)]):=by show _=_;rw [take_snoc (z:=(0:Int)) hjl,List.map_append,List.map_singleton]
     generalize po[j]?.getD 0=x at *
     obtain ⟨X,rfl⟩:∃X:Nat,x=(X:Int):=⟨x.toNat,by omega⟩
     obtain ⟨bp,op,hPLA,hbp,hcp⟩:=(HS.out.ints 7 rfl).2 (by omega)
     have cp:=hcp X (by omega)
     have lbp:bp<wr.heap.size:=hbp
     subst hPLA
     have HAT:Hid (atI pl (X:Int)=pl[X]?.getD 0):=by show _=_;unfold atI;rw [Int.toNat_natCast]
     rw [HAT.out] at HTK
     generalize pl[X]?.getD 0=xv at *
     have X0:(0:Int)≤(X:Int):=by omega
     have X1:(X:Int)<(sn:Int):=by omega
     have hjb:j≤1048576:=by omega
     clear hjl hcq hbq hcp hbp
     go_upto_region 54 with (at_builtin;refine wpList_sepPush rfl _ _ rfl _ (HS.out.alloc _) 0 OA j oc ((po.take j).map (atI pl)) xv _ (0,0) rfl rfl rfl (heap_new _ _) (by omega) ?_;intro g9 cap w9 S9 hz9;have HS9:=Lib.hid S9;clear S9 hz9)
     go_wp2_with fail
     go_roundw
     case rel=>exact ⟨j+1,_,_,by omega,by go_num,rfl,by rw [HTK.out];exact HS9.out⟩
     case measure=>simp [intOf];omega
    ·have hjn:j=pn:=by omega
     have hdj:decide ((j:Int)<(pn:Int))=false:=by simp;omega
     clear hltj
     subst j
     have HE:Hid ((po.take pn).map (atI pl)=po.map (atI pl)):=by show _=_;rw [List.take_of_length_le (by rw [HPN.out];exact Nat.le_refl _)]
     have h9:=HS.out
     rw [HE.out] at h9
     have HS9:=Lib.hid (h9.permQ ((List.perm_append_comm (l₁:=[_,_]) (l₂:=[_,_,_,_])).append_right _))
     clear HS h9
     have y0:=cell_heap (k:=0) (HS9.out.blk 5 rfl).1 rfl
     have ly:=heap_lt0 (HS9.out.blk 5 rfl).1
     go_wp2_with fail
     refine (HREC.out M false inn (po.map (atI pl)) fl SF AF MF OA sfc afc mfc pn oc _ _ hMf hMd hi1 hi4 HBD.out HPP.out (fun _=>by rw [List.length_map];exact HPQ.out) HS9.out).mono ?_
     rintro _ w9 (⟨fl2,SF2,sfc2,AF2,afc2,MF2,mfc2,hs2,rfl,S9⟩|⟨hs2,rfl,b9⟩)
     ·have HAD2:Hid (addIn (addM d f false) p pl (m.insts.drop (k+1)) fl2=addIn (addM d f false) p pl m.insts fl0):=by have h:=HAD.out;rw [hs2] at h;exact h
      have hl2:=addM_low hs2 HBD.out.ins
      have HBD2:=Lib.hid hl2.1
      have hlw:=hl2.2
      have HP:=Lib.hid (S9.sub (qs:=flP gF DV fl2 SF2 sfc2 AF2 afc2 MF2 mfc2 (.blk gM #[.slice SA sn sc,.slice AA an ac,.slice (some ⟨bi,oi,none⟩) jn jc,.slice MA mn mc] 108 :: .cel (celI pl) (.slice PLA sn plc) :: rs)) (.cons_cons _ (.cons_cons _ (.cons_cons _ (.cons_cons _ (.cons _ (.cons _ (List.Sublist.refl _))))))))
      clear S9 hs2 y0 ly HS9 hl2
      go_wp2_with fail
      go_roundw
      case rel=>exact ⟨k+1,_,_,_,_,_,_,_,by omega,by go_num,HAD2.out,HBD2.out,by omega,HP.out⟩
      case measure=>simp [intOf];omega
     ·have HNO:Hid (addIn (addM d f false) p pl m.insts fl0=none):=by have h:=HAD.out;rw [hs2] at h;exact h.symm
      have HB9:=Lib.hid (b9.sub (qs:=rs) (.cons _ (.cons _ (.cons _ (List.Sublist.refl _)))))
      clear hs2 b9 y0 ly HS9
      go_wp2_with fail
      apply HZ.out
      exact ⟨HNO.out,HB9.out⟩
  ·have hkn:k=jn:=by omega
   have hdk:decide ((k:Int)<(jn:Int))=false:=by simp;omega
   clear hlt
   subst k
   have HE:Hid (addIn (addM d f false) p pl m.insts fl0=some fl):=by show _=_;rw [←HA.out];exact addIn_end HL3.out.symm
   go_wp2_with fail
   apply HX.out
   exact ⟨HE.out,HS.out⟩
end Go.Proofs.YtlinbdkbbhpdpaaGreat

namespace Go.Proofs.YtlinbdkbbhpdpaaGreat
set_option maxRecDepth 100000
open Go.RowKit

set_option maxRecDepth 100000 in
set_option maxHeartbeats 8000000 in
theorem add_lp3 (W:World) (m:MdT) (SA AA JA MA:Option Addr) (sn sc an ac jn jc mn mc:Nat) (gF gM:Nat) (pl:List Int) (PLA FA0:Option Addr) (plc fc0:Nat) (mm0:List MmT) (DV SV AV:Value) (rs:List Pc) {v1 v2 v3 v4 v5 v6 v7 v8 v9 v10 v13 v14 v15 v16 v17 v18 v19 v20 v21 v22 v23 v24 v25 v26 v27 v28 v29 v30 v31 v32 v33 v34 v35 v36 v37 v38 v39 v40 v41 v42 v43 v44 v45 v46 v47 v48 v49 v50 v51 v52 v53 v54 v55 v56 v57 v58 v59 v60 v61 v62 v63 v64 v65 v66 v67 v68 v69 v70 v71 v72 v73 v74 v75 v76 v77 v78 v79 v80 v81 v82 v83 v84 v85 v86 v87 v88 v89 v90 v91 v92 v93 v94 v95 v96 v97 v98 v99 v100 v101 v102 v103 v104 v105 v106 v107 v108 v109 v110 v111 v112 v113 v114 v115 v116 v117 v118 v119 v120 v121 v122 v123 v124 v125 v126 v127 v128 v129 v130 v131 v132 v133 v134 v135 v136 v137 v138 v139 v140 v141 v142 v143 v144 v145 v146 v147 v148 v149 v150 v151 v152 v153 v154 v155 v156 v157 v158 v159 v160 v161 v162 v163 v164 v165 v166 v167 v168 v169 v170 v171 v172 v173 v174 v175 v176 v177 v178 v179 v183 v184 v185 v186 v187 v188 v189 v190 v191 v192 v193 v194 v195 v196 v197 v198 v199 v200 v201 v202 v203 v204 v205 v206 v207 v208 v209 v210 v211 v212 v213 v214 v215 v216 v217 v218 v219 v220 v221 v222 v223 v224 v225 v226 v227 v228 v229 v230 v231 v232 v233 v234 v235 v236 v237 v238 v239 v240 v241 v242 v243 v244 v245 v246 v247 v248 v249 v250 v251 v252 v253 v254 v255 v256 v257 v258 v259 v260 v261 v262 v263 v264 v265 v266 v267 v268 v269 v270 v271 v272 v273 v274 v275 v276 v277 v278:Value} {Q0:Exit→Act→World→Prop} (w:World) (hM:MdRd W m SA AA JA MA sn sc an ac jn jc mn mc) (hm2:mn≤2) (hmf:∀i,i<m.mems.length→(0≤(m.mems[i]?.getD MmT.zero).addr∧(m.mems[i]?.getD MmT.zero).addr<sn)∧(0≤(m.mems[i]?.getD MmT.zero).data∧(m.mems[i]?.getD MmT.zero).data<sn)∧(0≤(m.mems[i]?.getD MmT.zero).write∧(m.mems[i]?.getD MmT.zero).write<sn)∧(0≤(m.mems[i]?.getD MmT.zero).out∧(m.mems[i]?.getD MmT.zero).out<sn)) (hmm0:mm0.length≤2) (S:Sepa W w (.blk gM #[.slice SA sn sc,.slice AA an ac,.slice JA jn jc,.slice MA mn mc] 108 :: .cel (celI pl) (.slice PLA sn plc) :: .blk gF #[DV,SV,AV,.slice none 0 0,.slice FA0 mm0.length fc0] 165 :: mmP mm0 FA0 fc0 :: rs))
  (hexit:∀(FA:Option Addr) (fc:Nat) (y24 y182 y183 y184 y185 y186 y187 y188 y189 y190 y191 y192 y193 y194 y195 y196 y197 y198 y199 y200 y201 y202 y203 y204 y205 y206 y207 y208 y209 y210 y211 y212 y213 y214 y215 y216 y217 y218:Value) (w':World),Sepa W w' (.blk gM #[.slice SA sn sc,.slice AA an ac,.slice JA jn jc,.slice MA mn mc] 108 :: .cel (celI pl) (.slice PLA sn plc) :: .blk gF #[DV,SV,AV,.slice none 0 0,.slice FA (mm0++m.mems.map (mapMm pl)).length fc] 165 :: mmP (mm0++m.mems.map (mapMm pl)) FA fc :: rs)→Q0 (.exit 7) ⟨List.toArray (.pointer (some ⟨gF,0,none⟩) :: v1 :: v2 :: v3 :: v4 :: v5 :: v6 :: v7 :: v8 :: v9 :: v10 :: .pointer (some ⟨gM,0,none⟩) :: .slice PLA sn plc :: v13 :: v14 :: v15 :: v16 :: v17 :: v18 :: v19 :: v20 :: v21 :: v22 :: v23 :: y24 :: v25 :: v26 :: v27 :: v28 :: v29 :: v30 :: v31 :: v32 :: v33 :: v34 :: v35 :: v36 :: v37 :: v38 :: v39 :: v40 :: v41 :: v42 :: v43 :: v44 :: v45 :: v46 :: v47 :: v48 :: v49 :: v50 :: v51 :: v52 :: v53 :: v54 :: v55 :: v56 :: v57 :: v58 :: v59 :: v60 :: v61 :: v62 :: v63 :: v64 :: v65 :: v66 :: v67 :: v68 :: v69 :: v70 :: v71 :: v72 :: v73 :: v74 :: v75 :: v76 :: v77 :: v78 :: v79 :: v80 :: v81 :: v82 :: v83 :: v84 :: v85 :: v86 :: v87 :: v88 :: v89 :: v90 :: v91 :: v92 :: v93 :: v94 :: v95 :: v96 :: v97 :: v98 :: v99 :: v100 :: v101 :: v102 :: v103 :: v104 :: v105 :: v106 :: v107 :: v108 :: v109 :: v110 :: v111 :: v112 :: v113 :: v114 :: v115 :: v116 :: v117 :: v118 :: v119 :: v120 :: v121 :: v122 :: v123 :: v124 :: v125 :: v126 :: v127 :: v128 :: v129 :: v130 :: v131 :: v132 :: v133 :: v134 :: v135 :: v136 :: v137 :: v138 :: v139 :: v140 :: v141 :: v142 :: v143 :: v144 :: v145 :: v146 :: v147 :: v148 :: v149 :: v150 :: v151 :: v152 :: v153 :: v154 :: v155 :: v156 :: v157 :: v158 :: v159 :: v160 :: v161 :: v162 :: v163 :: v164 :: v165 :: v166 :: v167 :: v168 :: v169 :: v170 :: v171 :: v172 :: v173 :: v174 :: v175 :: v176 :: v177 :: v178 :: v179 :: .slice MA mn mc :: .int .i64 (mn:Int) :: y182 :: y183 :: y184 :: y185 :: y186 :: y187 :: y188 :: y189 :: y190 :: y191 :: y192 :: y193 :: y194 :: y195 :: y196 :: y197 :: y198 :: y199 :: y200 :: y201 :: y202 :: y203 :: y204 :: y205 :: y206 :: y207 :: y208 :: y209 :: y210 :: y211 :: y212 :: y213 :: y214 :: y215 :: y216 :: y217 :: y218 :: v219 :: v220 :: v221 :: v222 :: v223 :: v224 :: v225 :: v226 :: v227 :: v228 :: v229 :: v230 :: v231 :: v232 :: v233 :: v234 :: v235 :: v236 :: v237 :: v238 :: v239 :: v240 :: v241 :: v242 :: v243 :: v244 :: v245 :: v246 :: v247 :: v248 :: v249 :: v250 :: v251 :: v252 :: v253 :: v254 :: v255 :: v256 :: v257 :: v258 :: v259 :: v260 :: v261 :: v262 :: v263 :: v264 :: v265 :: v266 :: v267 :: v268 :: v269 :: v270 :: v271 :: v272 :: v273 :: v274 :: v275 :: v276 :: v277 :: v278 :: []),[]⟩ w')
  : Code.wp Tryz.prog (loopAt Tryz.f107 2) Q0 ⟨List.toArray (.pointer (some ⟨gF,0,none⟩) :: v1 :: v2 :: v3 :: v4 :: v5 :: v6 :: v7 :: v8 :: v9 :: v10 :: .pointer (some ⟨gM,0,none⟩) :: .slice PLA sn plc :: v13 :: v14 :: v15 :: v16 :: v17 :: v18 :: v19 :: v20 :: v21 :: v22 :: v23 :: v24 :: v25 :: v26 :: v27 :: v28 :: v29 :: v30 :: v31 :: v32 :: v33 :: v34 :: v35 :: v36 :: v37 :: v38 :: v39 :: v40 :: v41 :: v42 :: v43 :: v44 :: v45 :: v46 :: v47 :: v48 :: v49 :: v50 :: v51 :: v52 :: v53 :: v54 :: v55 :: v56 :: v57 :: v58 :: v59 :: v60 :: v61 :: v62 :: v63 :: v64 :: v65 :: v66 :: v67 :: v68 :: v69 :: v70 :: v71 :: v72 :: v73 :: v74 :: v75 :: v76 :: v77 :: v78 :: v79 :: v80 :: v81 :: v82 :: v83 :: v84 :: v85 :: v86 :: v87 :: v88 :: v89 :: v90 :: v91 :: v92 :: v93 :: v94 :: v95 :: v96 :: v97 :: v98 :: v99 :: v100 :: v101 :: v102 :: v103 :: v104 :: v105 :: v106 :: v107 :: v108 :: v109 :: v110 :: v111 :: v112 :: v113 :: v114 :: v115 :: v116 :: v117 :: v118 :: v119 :: v120 :: v121 :: v122 :: v123 :: v124 :: v125 :: v126 :: v127 :: v128 :: v129 :: v130 :: v131 :: v132 :: v133 :: v134 :: v135 :: v136 :: v137 :: v138 :: v139 :: v140 :: v141 :: v142 :: v143 :: v144 :: v145 :: v146 :: v147 :: v148 :: v149 :: v150 :: v151 :: v152 :: v153 :: v154 :: v155 :: v156 :: v157 :: v158 :: v159 :: v160 :: v161 :: v162 :: v163 :: v164 :: v165 :: v166 :: v167 :: v168 :: v169 :: v170 :: v171 :: v172 :: v173 :: v174 :: v175 :: v176 :: v177 :: v178 :: v179 :: .slice MA mn mc :: .int .i64 (mn:Int) :: .int .i64 0 :: v183 :: v184 :: v185 :: v186 :: v187 :: v188 :: v189 :: v190 :: v191 :: v192 :: v193 :: v194 :: v195 :: v196 :: v197 :: v198 :: v199 :: v200 :: v201 :: v202 :: v203 :: v204 :: v205 :: v206 :: v207 :: v208 :: v209 :: v210 :: v211 :: v212 :: v213 :: v214 :: v215 :: v216 :: v217 :: v218 :: v219 :: v220 :: v221 :: v222 :: v223 :: v224 :: v225 :: v226 :: v227 :: v228 :: v229 :: v230 :: v231 :: v232 :: v233 :: v234 :: v235 :: v236 :: v237 :: v238 :: v239 :: v240 :: v241 :: v242 :: v243 :: v244 :: v245 :: v246 :: v247 :: v248 :: v249 :: v250 :: v251 :: v252 :: v253 :: v254 :: v255 :: v256 :: v257 :: v258 :: v259 :: v260 :: v261 :: v262 :: v263 :: v264 :: v265 :: v266 :: v267 :: v268 :: v269 :: v270 :: v271 :: v272 :: v273 :: v274 :: v275 :: v276 :: v277 :: v278 :: []),[]⟩ w:=by
 have HL4:=Lib.hid hM.lens.2.2.2
 have HM:=Lib.hid hM
 have HMF:=Lib.hid hmf
 have HS0:=Lib.hid S
 have HX:=Lib.hid hexit
 obtain ⟨timm,tmm1,tmm2,tmm3,tmm4⟩:=info_parts mmQ_info
 have HImm:=Lib.hid (And.intro tmm1 (And.intro tmm2 (And.intro tmm3 tmm4)))
 clear tmm1 tmm2 tmm3 tmm4
 clear hM hmf S hexit
 conv=>arg 2;whnf
 go_loopw [182] (fun i wr=>∃(k:Nat) (FA:Option Addr) (fc:Nat),k≤mn∧i = .int .i64 (k:Int)∧Sepa W wr (.blk gM #[.slice SA sn sc,.slice AA an ac,.slice JA jn jc,.slice MA mn mc] 108 :: .cel (celI pl) (.slice PLA sn plc) :: .blk gF #[DV,SV,AV,.slice none 0 0,.slice FA (mm0++(m.mems.take k).map (mapMm pl)).length fc] 165 :: mmP (mm0++(m.mems.take k).map (mapMm pl)) FA fc :: rs)) (fun i _=>mn - (intOf i).toNat)
 case atStart=>exact ⟨0,_,_,by omega,rfl,by rw [List.take_zero,List.map_nil,List.append_nil];exact HS0.out⟩
 case round =>
  obtain ⟨k,FA,fc,hk,rfl,hs⟩:=hrel
  have HS:=Lib.hid hs
  clear hs
  by_cases hlt:k<mn
  ·have hdk:decide ((k:Int)<(mn:Int))=true:=by simp;omega
   have i0:(0:Int)≤(k:Int):=by omega
   have i1:(k:Int)<(mn:Int):=by omega
   have hkl:k<m.mems.length:=by rw [HL4.out];exact hlt
   obtain ⟨bm,om,hMA,hbm,c0,c1,c2,c3⟩:=HM.out.mm.mmE (k:=k) hkl
   subst hMA
   rw [←HS.out.bel.cell (p:=⟨bm,om+k * 4,none⟩) hbm] at c0
   rw [←HS.out.bel.cell (p:=⟨bm,om+k * 4+1,none⟩) hbm] at c1
   rw [←HS.out.bel.cell (p:=⟨bm,om+k * 4+2,none⟩) hbm] at c2
   rw [←HS.out.bel.cell (p:=⟨bm,om+k * 4+3,none⟩) hbm] at c3
   have lbm:=below_lt HS.out.bel hbm
   obtain ⟨hA,hD,hX,hO⟩:=HMF.out k hkl
   have HNK0:Hid ((mm0++(m.mems.take (k+1)).map (mapMm pl))=(mm0++(m.mems.take k).map (mapMm pl))++[mapMm pl (m.mems[k]?.getD MmT.zero)]):=by show _=_;rw [take_snoc (z:=MmT.zero) hkl,List.map_append,List.map_singleton,List.append_assoc]
   have hlk:(mm0++(m.mems.take k).map (mapMm pl)).length≤4:=by rw [List.length_append,List.length_map,List.length_take];omega
   generalize m.mems[k]?.getD MmT.zero=q at *
   obtain ⟨ma,md,mx,mo⟩:=q
   simp only at c0 c1 c2 c3 hA hD hX hO
   obtain ⟨A,rfl⟩:∃T:Nat,ma=(T:Int):=⟨ma.toNat,by omega⟩
   obtain ⟨D,rfl⟩:∃T:Nat,md=(T:Int):=⟨md.toNat,by omega⟩
   obtain ⟨X,rfl⟩:∃T:Nat,mx=(T:Int):=⟨mx.toNat,by omega⟩
   obtain ⟨O,rfl⟩:∃T:Nat,mo=(T:Int):=⟨mo.toNat,by omega⟩
   have HNK:Hid ((mm0++(m.mems.take (k+1)).map (mapMm pl))=(mm0++(m.mems.take k).map (mapMm pl))++[⟨pl[A]?.getD 0,pl[D]?.getD 0,pl[X]?.getD 0,pl[O]?.getD 0⟩]):=by show _=_;rw [HNK0.out];unfold mapMm atI;simp only [Int.toNat_natCast]
   generalize (mm0++(m.mems.take k).map (mapMm pl))=lk at *
   obtain ⟨bp,op,hPLA,hbp,-⟩:=(HS.out.ints 1 rfl).2 (by omega)
   subst hPLA
   have HPC:Hid (∀v:World,Ints v (some ⟨bp,op,none⟩) sn pl→v.cell? ⟨bp,op+A,none⟩=some (.int .i64 (pl[A]?.getD 0))∧v.cell? ⟨bp,op+D,none⟩=some (.int .i64 (pl[D]?.getD 0))∧v.cell? ⟨bp,op+X,none⟩=some (.int .i64 (pl[X]?.getD 0))∧v.cell? ⟨bp,op+O,none⟩=some (.int .i64 (pl[O]?.getD 0))):=fun v hv=>by
    obtain ⟨b2,o2,h2,_,h4⟩:=hv.2 (by omega)
    injection h2 with h2
    injection h2 with h2 h3
    subst h2 h3
    exact ⟨h4 A (by omega),h4 D (by omega),h4 X (by omega),h4 O (by omega)⟩
   generalize pl[A]?.getD 0=xA at *
   generalize pl[D]?.getD 0=xD at *
   generalize pl[X]?.getD 0=xX at *
   generalize pl[O]?.getD 0=xO at *
   have A0:(0:Int)≤(A:Int):=by omega
   have D0:(0:Int)≤(D:Int):=by omega
   have X0:(0:Int)≤(X:Int):=by omega
   have O0:(0:Int)≤(O:Int):=by omega
   have A1:=hA.2
   have D1:=hD.2
   have X1:=hX.2
   have O1:=hO.2
   clear hkl hbm hbp HNK0 hA hD hX hO
   have HS5:=Lib.hid (HS.out.consBlkQ #[.int .i64 (A:Int),.int .i64 (D:Int),.int .i64 (X:Int),.int .i64 (O:Int)] 200)
   go_upto_region 39 with fail
   obtain ⟨gY,hgY⟩:∃g,wr.heap.size=g:=⟨_,rfl⟩
   rw [hgY] at HS5
   (try rw [hgY])
   generalize wr.alloc (.cells #[.int .i64 (A:Int),.int .i64 (D:Int),.int .i64 (X:Int),.int .i64 (O:Int)] 200)=W5 at *
   clear c0 c1 c2 c3 lbm hgY HS
   have HT:Hid (Sepa W W5.drew (.blk gY #[.int .i64 (A:Int),.int .i64 (D:Int),.int .i64 (X:Int),.int .i64 (O:Int)] 200 :: .blk gM #[.slice SA sn sc,.slice AA an ac,.slice JA jn jc,.slice (some ⟨bm,om,none⟩) mn mc] 108 :: .cel (celI pl) (.slice (some ⟨bp,op,none⟩) sn plc) :: .blk gF #[DV,SV,AV,.slice none 0 0,.slice FA lk.length fc] 165 :: mmP lk FA fc :: rs)):=Lib.hid HS5.out.drew
   have HKP:Hid (∀(v:World) (ps:List Pc),Sepa W v ps→ps[0]?=some (.blk gY #[.int .i64 (A:Int),.int .i64 (D:Int),.int .i64 (X:Int),.int .i64 (O:Int)] 200)→ps[2]?=some (.cel (celI pl) (.slice (some ⟨bp,op,none⟩) sn plc))→ps[3]?=some (.blk gF #[DV,SV,AV,.slice none 0 0,.slice FA lk.length fc] 165)→(v.cell? ⟨gF,4,none⟩=some (.slice FA lk.length fc)∧v.cell? ⟨gY,0,none⟩=some (.int .i64 (A:Int))∧v.cell? ⟨gY,1,none⟩=some (.int .i64 (D:Int))∧v.cell? ⟨gY,2,none⟩=some (.int .i64 (X:Int))∧v.cell? ⟨gY,3,none⟩=some (.int .i64 (O:Int))∧v.cell? ⟨bp,op+A,none⟩=some (.int .i64 xA)∧v.cell? ⟨bp,op+D,none⟩=some (.int .i64 xD)∧v.cell? ⟨bp,op+X,none⟩=some (.int .i64 xX)∧v.cell? ⟨bp,op+O,none⟩=some (.int .i64 xO))):=fun v ps h h0 h2 h3=>⟨cell_heap (k:=4) (h.blk 3 h3).1 rfl,cell_heap (k:=0) (h.blk 0 h0).1 rfl,cell_heap (k:=1) (h.blk 0 h0).1 rfl,cell_heap (k:=2) (h.blk 0 h0).1 rfl,cell_heap (k:=3) (h.blk 0 h0).1 rfl,HPC.out v (h.ints 2 h2)⟩
   clear HS5
   refine wp_region_noPanic ?_
   refine wp_region_T 29 (fun w'=>w'.cell? ⟨gF,4,none⟩=some (.slice FA lk.length fc)∧w'.cell? ⟨gY,0,none⟩=some (.int .i64 (A:Int))∧w'.cell? ⟨gY,1,none⟩=some (.int .i64 (D:Int))∧w'.cell? ⟨gY,2,none⟩=some (.int .i64 (X:Int))∧w'.cell? ⟨gY,3,none⟩=some (.int .i64 (O:Int))∧w'.cell? ⟨bp,op+A,none⟩=some (.int .i64 xA)∧w'.cell? ⟨bp,op+D,none⟩=some (.int .i64 xD)∧w'.cell? ⟨bp,op+X,none⟩=some (.int .i64 xX)∧w'.cell? ⟨bp,op+O,none⟩=some (.int .i64 xO)) (HKP.out _ _ HT.out rfl rfl rfl) (fun hT hD=>?_)
   refine onT hT 0 opA hD ?_
   refine onT hT 1 (opB opA) hD ?_
   refine onT hT 2 (opB (opB opA)) hD ?_
   refine onT hT 3 (opB (opB (opB opA))) hD ?_
   refine onT hT 4 (opC opA) hD ?_
   refine onT hT 5 (opC (opB opA)) hD ?_
   refine onT hT 6 (opC (opB (opB opA))) hD ?_
   refine onT hT 7 (opC (opB (opB (opB opA)))) hD ?_
   refine onT hT 8 (opC (opC opA)) hD ?_
   refine onT hT 9 (opC (opC (opB opA))) hD ?_
   refine onT hT 10 (opC (opC (opB (opB opA)))) hD ?_
   refine onT hT 11 (opC (opC (opB (opB (opB opA))))) hD ?_
   refine onT hT 12 (opC (opC (opC opA))) hD ?_
   refine onT hT 13 (opC (opC (opC (opB opA)))) hD ?_
   refine onT hT 14 (opC (opC (opC (opB (opB opA))))) hD ?_
   refine onT hT 15 (opC (opC (opC (opB (opB (opB opA)))))) hD ?_
   refine onT hT 16 (opD opA) hD ?_
   refine onT hT 17 (opD (opB opA)) hD ?_
   refine onT hT 18 (opD (opB (opB opA))) hD ?_
   refine onT hT 19 (opD (opB (opB (opB opA)))) hD ?_
   refine onT hT 20 (opD (opC opA)) hD ?_
   refine onT hT 21 (opD (opC (opB opA))) hD ?_
   refine onT hT 22 (opD (opC (opB (opB opA)))) hD ?_
   refine onT hT 23 (opD (opC (opB (opB (opB opA))))) hD ?_
   refine onT hT 24 (opD (opC (opC opA))) hD ?_
   refine onT hT 25 (opD (opC (opC (opB opA)))) hD ?_
   refine onT hT 26 (opD (opC (opC (opB (opB opA))))) hD ?_
   have HA:=Lib.hid (HT.out.alloc (.cells #[.int .i64 xA,.int .i64 xD,.int .i64 xX,.int .i64 xO] 200))
   refine callT hT 27 (opD (opC (opC (opB (opB (opB opA)))))) (fun K hK=>?_)
   go_simp
   refine hK.out _ _ (HKP.out _ _ HA.out rfl rfl rfl) (fun hD=>?_)
   clear hK K
   try simp only [Act.put,List.setIfInBounds_toArray,List.set_cons_zero,List.set_cons_succ]
   refine callT hT 28 (opD (opC (opC (opC opA)))) (fun K hK=>?_)
   refine step_sepPushG rfl _ _ 106 200 (by rfl) timm _ 4 32 Tryz.underlying106 HImm.out.1 HImm.out.2.1 HImm.out.2.2.1 HImm.out.2.2.2 rfl (by decide) (by decide) _ (HA.out.consMm xA xD xX xO) 5 0 (by decide) lk.length fc _ FA (lk.flatMap MmT.cells) _ #[.int .i64 xA,.int .i64 xD,.int .i64 xX,.int .i64 xO] _ rfl rfl (by rfl) (by rfl) (heap_new _ _) rfl (by omega) ?_
   intro g8 cap w9 S9 hz9
   have HS9:=Lib.hid S9.tail
   clear S9 hz9
   refine hK.out _ _ (HKP.out _ _ HS9.out rfl rfl rfl) (fun hD=>?_)
   clear hK K
   try simp only [Act.put,List.setIfInBounds_toArray,List.set_cons_zero,List.set_cons_succ]
   have c8:=cell_heap (k:=4) (HS9.out.blk 3 rfl).1 rfl
   have f8:=frozen_heap (HS9.out.blk 3 rfl).1 4
   have q8:=heap_lt0 (HS9.out.blk 3 rfl).1
   refine tailT hT 29 (opD (opC (opC (opC (opB opA))))) ?_
   refine tailT hT 30 (opD (opC (opC (opC (opB (opB opA)))))) ?_
   refine tailT hT 31 (opD (opC (opC (opC (opB (opB (opB opA))))))) ?_
   refine lastT hT 32 (opD (opD opA)) ?_
   go_wp2_with fail
   refine NoPanic.normal ?_
   have HP:Hid (Sepa W (w9.setCell ⟨gF,4,none⟩ (.slice (some ⟨g8,0,none⟩) (lk.length+1) cap)) (.blk gM #[.slice SA sn sc,.slice AA an ac,.slice JA jn jc,.slice (some ⟨bm,om,none⟩) mn mc] 108 :: .cel (celI pl) (.slice (some ⟨bp,op,none⟩) sn plc) :: .blk gF #[DV,SV,AV,.slice none 0 0,.slice (some ⟨g8,0,none⟩) (lk++[(⟨xA,xD,xX,xO⟩:MmT)]).length cap] 165 :: mmP (lk++[(⟨xA,xD,xX,xO⟩:MmT)]) (some ⟨g8,0,none⟩) cap :: rs)):=by
    have h:=(HS9.out.put 3 rfl 4 (.slice (some ⟨g8,0,none⟩) (lk.length+1) cap)).tail
    show Sepa _ _ _
    rw [mmP_push,show (lk++[(⟨xA,xD,xX,xO⟩:MmT)]).length=lk.length+1 from by simp]
    exact h
   go_wp2_with fail
   go_roundw
   case rel=>exact ⟨k+1,_,_,by omega,by go_num,by rw [HNK.out];exact HP.out⟩
   case measure=>simp [intOf];omega
  ·have hkn:k=mn:=by omega
   have hdk:decide ((k:Int)<(mn:Int))=false:=by simp;omega
   clear hlt
   subst k
   have HE:Hid ((mm0++(m.mems.take mn).map (mapMm pl))=mm0++m.mems.map (mapMm pl)):=by show _=_;rw [List.take_of_length_le (by rw [HL4.out];exact Nat.le_refl _)]
   have h9:=HS.out
   rw [HE.out] at h9
   have HS9:=Lib.hid h9
   clear h9
   go_wp2_with fail
   apply HX.out
   exact HS9.out
end Go.Proofs.YtlinbdkbbhpdpaaGreat

namespace Go.Proofs.YtlinbdkbbhpdpaaGreat
set_option maxRecDepth 100000
open Go.RowKit

set_option maxRecDepth 100000 in
set_option maxHeartbeats 8000000 in
theorem add_step {W:World} {d:List MdT} (hd:DsFit d) {bd od dn dc gF f:Nat} (hD:RdC W W.heap.size (celMd d) (.slice (some ⟨bd,od,none⟩) dn dc)) (ih:AddC Tryz.prog 107 W d (.slice (some ⟨bd,od,none⟩) dn dc) gF f):AddC Tryz.prog 107 W d (.slice (some ⟨bd,od,none⟩) dn dc) gF (f+1):=by
 intro k top p ports fl SF AF MF PA sfc afc mfc pn pc rs w hk hkd hp1 hp4 hbd hports hpn S
 have hmd:=hd.md k hkd
 have HL:=Lib.hid hD.mdN
 obtain ⟨b1,o1,SA,AA,JA,MA,sn,sc,an,ac,jn,jc,mn,mc,hDA,hb1,e0,e1,e2,e3,hM⟩:=hD.md (k:=k) (by rw [←HL.out];exact hkd)
 injection hDA with hDA
 injection hDA with h1 h2
 subst h1 h2
 have HADD:Hid (addM d (f+1) top k p ports fl=_):=addM.eq_2 d top k p ports fl f
 have HAF:Hid (∀i,i<(mdK d k).asgs.length→(0≤((mdK d k).asgs[i]?.getD AsT.zero).target∧((mdK d k).asgs[i]?.getD AsT.zero).target<sn)∧((mdK d k).asgs[i]?.getD AsT.zero).ops.length≤15∧∀j,j<((mdK d k).asgs[i]?.getD AsT.zero).ops.length→((((mdK d k).asgs[i]?.getD AsT.zero).ops[j]?.getD OpT.zero).kind=2∨(((mdK d k).asgs[i]?.getD AsT.zero).ops[j]?.getD OpT.zero).kind=3)→0≤(((mdK d k).asgs[i]?.getD AsT.zero).ops[j]?.getD OpT.zero).a∧(((mdK d k).asgs[i]?.getD AsT.zero).ops[j]?.getD OpT.zero).a<sn):=fun i hi=>by
  have h1:=hmd.asg i hi
  have hs:=hM.lens.1
  refine ⟨⟨h1.1.1.1,by have:=h1.1.1.2;omega⟩,h1.2.1,fun j hj hk2=>?_⟩
  have h2:=(hmd.op hi hj).sig hk2
  exact ⟨h2.1,by have:=h2.2;omega⟩
 have HMF:Hid (∀i,i<(mdK d k).mems.length→(0≤((mdK d k).mems[i]?.getD MmT.zero).addr∧((mdK d k).mems[i]?.getD MmT.zero).addr<sn)∧(0≤((mdK d k).mems[i]?.getD MmT.zero).data∧((mdK d k).mems[i]?.getD MmT.zero).data<sn)∧(0≤((mdK d k).mems[i]?.getD MmT.zero).write∧((mdK d k).mems[i]?.getD MmT.zero).write<sn)∧(0≤((mdK d k).mems[i]?.getD MmT.zero).out∧((mdK d k).mems[i]?.getD MmT.zero).out<sn)):=fun i hi=>by
  obtain ⟨h1,h2,h3,h4,-⟩:=hmd.mem i hi
  have hs:=hM.lens.1
  exact ⟨⟨h1.1,by have:=h1.2;omega⟩,⟨h2.1,by have:=h2.2;omega⟩,⟨h3.1,by have:=h3.2;omega⟩,⟨h4.1,by have:=h4.2;omega⟩⟩
 have HIM:Hid (∀i,i<(mdK d k).insts.length→((0≤((mdK d k).insts[i]?.getD InT.zero).module∧((mdK d k).insts[i]?.getD InT.zero).module<k)∧(0≤((mdK d k).insts[i]?.getD InT.zero).param∧((mdK d k).insts[i]?.getD InT.zero).param≤4))∧((mdK d k).insts[i]?.getD InT.zero).ports.length=(portsOf (mdK d ((mdK d k).insts[i]?.getD InT.zero).module.toNat)).length∧PlIn ((mdK d k).insts[i]?.getD InT.zero).ports sn):=fun i hi=>by
  have h1:=hmd.inst_mod hi
  have h2:=hmd.inst_ports hi
  rw [hM.lens.1] at h2
  exact ⟨⟨⟨h1.1,h1.2.1⟩,(hmd.inst i hi).1⟩,h1.2.2,h2⟩
 have HPQ:Hid (portsOf (mdK d k)=portsTo (mdK d k).sigs sn):=by show _=_;rw [hmd.portsOf hkd,hM.lens.1]
 have hs30:sn≤30:=by have h1:=hmd.cn.sg;rw [hM.lens.1] at h1;exact h1
 have ha30:an≤30:=by have h1:=hmd.cn.asg;rw [hM.lens.2.1] at h1;exact h1
 have hj3:jn≤3:=by have h1:=hmd.cn.ins;rw [hM.lens.2.2.1] at h1;exact h1
 have hm2:mn≤2:=by have h1:=hmd.cn.mm;rw [hM.lens.2.2.2] at h1;exact h1
 have hkn:(k:Int)<(dn:Int):=by rw [←HL.out];omega
 have hk0:(0:Int)≤(k:Int):=by omega
 have hkf:k≤f:=by omega
 have HPN:=Lib.hid hpn
 generalize mdK d k=m at *
 have HM:=Lib.hid hM
 have HBD:=Lib.hid hbd
 have HPI:=Lib.hid hports
 have hmk:=fun W=>run_make_ints sn (by omega) W
 have HS:=Lib.hid S
 have HIH:=Lib.hid ih
 have b0:=cell_heap (k:=0) (S.blk 0 rfl).1 rfl
 have lb:=heap_lt0 (S.blk 0 rfl).1
 rw [←S.bel.cell (p:=⟨bd,od+k * 4,none⟩) hb1] at e0
 rw [←S.bel.cell (p:=⟨bd,od+k * 4+1,none⟩) hb1] at e1
 rw [←S.bel.cell (p:=⟨bd,od+k * 4+2,none⟩) hb1] at e2
 rw [←S.bel.cell (p:=⟨bd,od+k * 4+3,none⟩) hb1] at e3
 have l1:=below_lt S.bel hb1
 clear hM hbd hports hpn hmd S hb1 hk ih
 have HS1:=Lib.hid (HS.out.consBlkQ #[.slice SA sn sc,.slice AA an ac,.slice JA jn jc,.slice MA mn mc] 108)
 go_enter Tryz.func107,Tryz.ntmps107
 go_upto_region 2 with fail
 obtain ⟨gM,hgM⟩:∃g,w.heap.size=g:=⟨_,rfl⟩
 rw [hgM] at HS1
 (try rw [hgM])
 generalize w.alloc (.cells #[.slice SA sn sc,.slice AA an ac,.slice JA jn jc,.slice MA mn mc] 108)=W1 at *
 clear e0 e1 e2 e3 l1 b0 lb hgM HS
 have x0:=cell_heap (k:=0) (HS1.out.blk 0 rfl).1 rfl
 have lx:=heap_lt0 (HS1.out.blk 0 rfl).1
 have HS2:=Lib.hid (HS1.out.consZ sn (by omega))
 go_upto_region 3 with fail
 obtain ⟨gP,hgP⟩:∃g,W1.heap.size=g:=⟨_,rfl⟩
 rw [hgP] at HS2
 (try rw [hgP])
 generalize W1.alloc (zObj sn)=W2 at *
 clear x0 lx hgP HS1 hmk
 have x0:=cell_heap (k:=0) (HS2.out.blk 1 rfl).1 rfl
 have x1:=cell_heap (k:=1) (HS2.out.blk 1 rfl).1 rfl
 have x2:=cell_heap (k:=2) (HS2.out.blk 1 rfl).1 rfl
 have x3:=cell_heap (k:=3) (HS2.out.blk 1 rfl).1 rfl
 have lx:=heap_lt0 (HS2.out.blk 1 rfl).1
 go_wp2_with fail
 refine (portsOf_any m SA AA JA MA sn sc an ac jn jc mn mc _ (HM.out.below HS2.out.bel)).mono ?_
 rw [HPQ.out]
 rintro _ w3 ⟨LA,lc,rfl,S3⟩
 have HS3:=Lib.hid (HS2.out.joinF S3)
 clear S3 x0 x1 x2 x3 lx HS2
 have x0:=cell_heap (k:=0) (HS3.out.blk 2 rfl).1 rfl
 have lx:=heap_lt0 (HS3.out.blk 2 rfl).1
 go_wp2_with fail
 have HS4:Hid (Sepa W w3 (.blk gM #[.slice SA sn sc,.slice AA an ac,.slice JA jn jc,.slice MA mn mc] 108 :: .cel (celI (plR [] sn)) (.slice (some ⟨gP,0,none⟩) sn sn) :: .cel (celI (portsTo m.sigs sn)) (.slice LA (portsTo m.sigs sn).length lc) :: .blk gF #[.slice (some ⟨bd,od,none⟩) dn dc,.slice SF fl.sigs.length sfc,.slice AF fl.asgs.length afc,.slice none 0 0,.slice MF fl.mems.length mfc] 165 :: sgP fl.sigs SF sfc :: .cel (celI ports) (.slice PA pn pc) :: asP fl.asgs AF afc :: mmP fl.mems MF mfc :: rs)):=by have h:=((((((((HS3.out.moveQ 6 rfl).moveQ 6 rfl).moveQ 7 rfl).moveQ 7 rfl).moveQ 7 rfl).moveQ 5 rfl).moveQ 6 rfl).moveQ 7 rfl);rw [plR_nil];exact h
 clear x0 lx HS3
 refine add_lp1 W m SA AA JA MA sn sc an ac jn jc mn mc gF gM p top ports PA LA (some ⟨gP,0,none⟩) SF pn pc _ lc sn sfc fl.sigs _ _ _ _ w3 HM.out hs30 hp1 hp4 HPI.out (fun ht=>by rw [HPN.out ht,HPQ.out]) HBD.out.sg HS4.out ?_ ?_
 rotate_left
 ·intros
  rename_i w4 h4
  have HNO:=Lib.hid h4.1
  have HB4:=Lib.hid h4.2.tail.tail
  have HR:Hid (addM d (f+1) top k p ports fl=none):=by show _=_;rw [HADD.out,HNO.out]
  clear h4
  go_ret
  exact .inr ⟨HR.out,rfl,HB4.out⟩
 intro fl1 pl SF1 sfc1
 intros
 rename_i w4 h4
 obtain ⟨hsg,hpln,hpli,hlo,h60,hS4⟩:=h4
 rw [plR_done hpln] at hS4
 have HSG:=Lib.hid hsg
 have HPLN:=Lib.hid hpln
 have HPLI:=Lib.hid hpli
 have HS5:=Lib.hid (((((((((hS4.moveQ 7 rfl).moveQ 6 rfl).moveQ 6 rfl).moveQ 5 rfl).moveQ 7 rfl).moveQ 7 rfl).moveQ 7 rfl).moveQ 7 rfl))
 clear hsg hpln hpli hS4 HS4
 have x1:=cell_heap (k:=1) (HS5.out.blk 0 rfl).1 rfl
 have lx:=heap_lt0 (HS5.out.blk 0 rfl).1
 go_wp2_with fail
 clear x1 lx
 refine add_lp2 W m SA AA JA MA sn sc an ac jn jc mn mc gF gM p pl (some ⟨gP,0,none⟩) AF sn afc fl.asgs _ _ _ _ w4 HM.out ha30 HAF.out HBD.out.as_ HS5.out ?_
 intro AF2 afc2
 intros
 rename_i w5 hS5
 have HS6:=Lib.hid (((((((((hS5.moveQ 6 rfl).moveQ 6 rfl).moveQ 6 rfl).moveQ 6 rfl).moveQ 7 rfl).moveQ 7 rfl).moveQ 7 rfl).moveQ 7 rfl))
 clear hS5 HS5
 have x3:=cell_heap (k:=3) (HS6.out.blk 0 rfl).1 rfl
 have lx:=heap_lt0 (HS6.out.blk 0 rfl).1
 go_wp2_with fail
 clear x3 lx
 refine add_lp3 W m SA AA JA MA sn sc an ac jn jc mn mc gF gM pl (some ⟨gP,0,none⟩) MF sn mfc fl.mems _ _ _ _ w5 HM.out hm2 HMF.out HBD.out.mm HS6.out ?_
 intro MF2 mfc2
 intros
 rename_i w6 hS6
 have HS7:=Lib.hid (((((((((hS6.moveQ 7 rfl).moveQ 6 rfl).moveQ 3 rfl).moveQ 3 rfl).moveQ 5 rfl).moveQ 6 rfl).moveQ 7 rfl).moveQ 7 rfl))
 clear hS6 HS6
 have b1:=cell_heap (k:=1) (HS7.out.blk 0 rfl).1 rfl
 have b2:=cell_heap (k:=2) (HS7.out.blk 0 rfl).1 rfl
 have b4:=cell_heap (k:=4) (HS7.out.blk 0 rfl).1 rfl
 have lb:=heap_lt0 (HS7.out.blk 0 rfl).1
 have HA2:Hid (addM d (f+1) top k p ports fl=if fl1.length≤30∧(fl.asgs++m.asgs.map (mapAs p pl)).length≤30∧(fl.mems++m.mems.map (mapMm pl)).length≤2 then addIn (addM d f false) p pl m.insts ⟨fl1,(fl.asgs++m.asgs.map (mapAs p pl)),fl.insts,(fl.mems++m.mems.map (mapMm pl))⟩ else none):=by show _=_;rw [HADD.out,HSG.out]
 have hla:(fl.asgs++m.asgs.map (mapAs p pl)).length≤60:=by have h1:=HBD.out.as_;have h2:=HM.out.lens.2.1;rw [List.length_append,List.length_map];omega
 have hlm:(fl.mems++m.mems.map (mapMm pl)).length≤4:=by have h1:=HBD.out.mm;have h2:=HM.out.lens.2.2.2;rw [List.length_append,List.length_map];omega
 generalize (fl.asgs++m.asgs.map (mapAs p pl))=as2 at *
 generalize (fl.mems++m.mems.map (mapMm pl))=mm2 at *
 by_cases hB:fl1.length≤30∧as2.length≤30∧mm2.length≤2
 ·have d1:decide ((30:Int)<(fl1.length:Int))=false:=decide_eq_false (by omega)
  have d2:decide ((30:Int)<(as2.length:Int))=false:=decide_eq_false (by omega)
  have d3:decide ((2:Int)<(mm2.length:Int))=false:=decide_eq_false (by omega)
  rw [if_pos hB] at HA2
  have HBD2:Hid (FlBd ⟨fl1,as2,fl.insts,mm2⟩):=⟨hB.1,hB.2.1,hB.2.2,HBD.out.ins⟩
  clear hB
  have x2:=cell_heap (k:=2) (HS7.out.blk 4 rfl).1 rfl
  have lx:=heap_lt0 (HS7.out.blk 4 rfl).1
  go_wp2_with fail
  clear b1 b2 b4 lb x2 lx
  refine add_lp4 W d m SA AA JA MA sn sc an ac jn jc mn mc gF gM f k p pl (some ⟨gP,0,none⟩) SF1 AF2 MF2 sn sfc1 afc2 mfc2 ⟨fl1,as2,fl.insts,mm2⟩ _ _ w6 HM.out HIH.out hp1 hp4 hkf (by omega) hj3 HIM.out HPLI.out HPLN.out HBD2.out HS7.out ?_ ?_
  ·intro fl3 SF3 AF3 MF3 sfc3 afc3 mfc3
   intros
   rename_i w7 h7
   have HR:Hid (addM d (f+1) top k p ports fl=some fl3):=by show _=_;rw [HA2.out,h7.1]
   have HS8:=Lib.hid (h7.2.sub (qs:=flP gF _ fl3 SF3 sfc3 AF3 afc3 MF3 mfc3 (.cel (celI ports) (.slice PA pn pc) :: rs)) (.cons_cons _ (.cons_cons _ (.cons_cons _ (.cons_cons _ (.cons _ (.cons _ (.cons _ (List.Sublist.refl _)))))))))
   clear h7 HS7
   go_wp2_with fail
   go_ret
   exact .inl ⟨fl3,_,_,_,_,_,_,HR.out,rfl,HS8.out⟩
  ·intros
   rename_i w7 h7
   have HR:Hid (addM d (f+1) top k p ports fl=none):=by show _=_;rw [HA2.out,h7.1]
   have HB7:=Lib.hid h7.2.tail.tail
   clear h7 HS7
   go_ret
   exact .inr ⟨HR.out,rfl,HB7.out⟩
 ·rw [if_neg hB] at HA2
  have HB7:=Lib.hid (HS7.out.sub (qs:=rs) (.cons _ (.cons _ (.cons _ (.cons _ (.cons _ (.cons _ (.cons _ (.cons _ (List.Sublist.refl _))))))))))
  by_cases h1:fl1.length≤30
  ·have d1:decide ((30:Int)<(fl1.length:Int))=false:=decide_eq_false (by omega)
   by_cases h2:as2.length≤30
   ·have d2:decide ((30:Int)<(as2.length:Int))=false:=decide_eq_false (by omega)
    have d3:decide ((2:Int)<(mm2.length:Int))=true:=decide_eq_true (by omega)
    clear hB h1 h2
    go_wp2_with fail
    go_ret
    exact .inr ⟨HA2.out,rfl,HB7.out⟩
   ·have d2:decide ((30:Int)<(as2.length:Int))=true:=decide_eq_true (by omega)
    clear hB h1 h2
    go_wp2_with fail
    go_ret
    exact .inr ⟨HA2.out,rfl,HB7.out⟩
  ·have d1:decide ((30:Int)<(fl1.length:Int))=true:=decide_eq_true (by omega)
   clear hB h1
   go_wp2_with fail
   go_ret
   exact .inr ⟨HA2.out,rfl,HB7.out⟩
theorem add_any {W:World} {d:List MdT} (hd:DsFit d) {bd od dn dc gF:Nat} (hD:RdC W W.heap.size (celMd d) (.slice (some ⟨bd,od,none⟩) dn dc)):∀f,AddC Tryz.prog 107 W d (.slice (some ⟨bd,od,none⟩) dn dc) gF f
 | 0=>fun k _ _ _ _ _ _ _ _ _ _ _ _ _ _ _ hk=>absurd hk (Nat.not_lt_zero k)
 | f+1=>add_step hd hD (add_any hd hD f)
end Go.Proofs.YtlinbdkbbhpdpaaGreat

namespace Go.Proofs.YtlinbdkbbhpdpaaGreat
set_option maxRecDepth 100000
open Go.RowKit

set_option maxHeartbeats 4000000 in
theorem flatten_any (d:List MdT) (DA:Option Addr) (dn dc:Nat) (p:Int) (w:World) (h:RdC w w.heap.size (celMd d) (.slice DA dn dc)) (hdn:dn≤1048576) :
  Calls Tryz.prog 59 #[.agg #[.slice DA dn dc],.int .i64 p] w fun e w'=>(∃fl SA sc AA ac MA mc,flatD d p=some fl∧e = .returned (.tuple #[.agg #[.slice SA fl.sigs.length sc,.slice AA fl.asgs.length ac,.slice none 0 0,.slice MA fl.mems.length mc],.bool true])∧Sepa w w' [sgP fl.sigs SA sc,asP fl.asgs AA ac,mmP fl.mems MA mc])∨(flatD d p=none∧e = .returned (.tuple #[.agg #[.slice none 0 0,.slice none 0 0,.slice none 0 0,.slice none 0 0],.bool false])∧Below w.heap.size w w'):=by
 have HD:=Lib.hid h
 have HDL:=Lib.hid h.mdN
 clear h
 have h0:=((Sepa.refl w).pushBlk #[.slice DA dn dc] 48).pushBlk #[.slice none 0 0,.slice none 0 0,.slice none 0 0,.slice none 0 0] 108
 simp only [World.size_alloc] at h0
 go_enter Tryz.func59,Tryz.ntmps59
 go_upto_region 1 with fail
 obtain ⟨gB,hgB⟩:∃g,w.heap.size=g:=⟨_,rfl⟩
 obtain ⟨gR,hgR⟩:∃g,w.heap.size+1=g:=⟨_,rfl⟩
 rw [hgR] at h0
 (try rw [hgR])
 rw [hgB] at h0
 (try rw [hgB])
 clear hgB hgR
 have HS0:=Lib.hid h0
 clear h0
 generalize (w.alloc (.cells #[.slice DA dn dc] 48)).alloc (.cells #[.slice none 0 0,.slice none 0 0,.slice none 0 0,.slice none 0 0] 108)=W9 at *
 have x0:=cell_heap (k:=0) (HS0.out.blk 0 rfl).1 rfl
 have lx:=heap_lt0 (HS0.out.blk 0 rfl).1
 go_wp2_with fail
 refine (designOk_any d DA dn dc _ (HD.out.below HS0.out.bel) hdn).mono ?_
 rintro _ w1 ⟨rfl,b1⟩
 replace HS0:=Lib.hid (HS0.out.below b1)
 clear b1 x0 lx
 by_cases hds:DsFit d
 rotate_left
 ·have HNO:Hid (flatD d p=none):=flatD_off (.inl hds)
  rw [tb_false hds]
  clear hds
  have e0:=cell_heap (k:=0) (HS0.out.blk 1 rfl).1 rfl
  have e1:=cell_heap (k:=1) (HS0.out.blk 1 rfl).1 rfl
  have e2:=cell_heap (k:=2) (HS0.out.blk 1 rfl).1 rfl
  have e3:=cell_heap (k:=3) (HS0.out.blk 1 rfl).1 rfl
  have ef:=fun k=>frozen_heap (HS0.out.blk 1 rfl).1 k
  have le:=heap_lt0 (HS0.out.blk 1 rfl).1
  have HP:=Lib.hid ((((HS0.out.put 1 rfl 0 (.slice none 0 0)).put 1 rfl 1 (.slice none 0 0)).put 1 rfl 2 (.slice none 0 0)).put 1 rfl 3 (.slice none 0 0))
  go_wp2_with fail
  generalize (((w1.setCell ⟨gR,0,none⟩ (.slice none 0 0)).setCell ⟨gR,1,none⟩ (.slice none 0 0)).setCell ⟨gR,2,none⟩ (.slice none 0 0)).setCell ⟨gR,3,none⟩ (.slice none 0 0)=WF at *
  have hb:WF.heap[gR]?=some (.cells #[.slice none 0 0,.slice none 0 0,.slice none 0 0,.slice none 0 0] 108 (0,0)):=(HP.out.blk 1 rfl).1
  exact bodyPost_ret (v := .tuple #[.agg #[.slice none 0 0,.slice none 0 0,.slice none 0 0,.slice none 0 0],.bool false]) (results_cell2 Tryz.results59 rfl hb Tryz.underlying108 (by kernel_rfl)) rfl (.inr ⟨HNO.out,rfl,HP.out.bel⟩)
 rw [tb_true hds]
 go_wp2_with fail
 refine (inRange_any p 1 4 _).mono ?_
 rintro _ w' ⟨rfl,rfl⟩
 by_cases hp:1≤p∧p≤4
 rotate_left
 ·have HNO:Hid (flatD d p=none):=flatD_off (.inr hp)
  rw [show inR p 1 4=false from Bool.eq_false_iff.2 fun hx=>hp (inR_iff.1 hx)]
  clear hds hp
  have e0:=cell_heap (k:=0) (HS0.out.blk 1 rfl).1 rfl
  have e1:=cell_heap (k:=1) (HS0.out.blk 1 rfl).1 rfl
  have e2:=cell_heap (k:=2) (HS0.out.blk 1 rfl).1 rfl
  have e3:=cell_heap (k:=3) (HS0.out.blk 1 rfl).1 rfl
  have ef:=fun k=>frozen_heap (HS0.out.blk 1 rfl).1 k
  have le:=heap_lt0 (HS0.out.blk 1 rfl).1
  have HP:=Lib.hid ((((HS0.out.put 1 rfl 0 (.slice none 0 0)).put 1 rfl 1 (.slice none 0 0)).put 1 rfl 2 (.slice none 0 0)).put 1 rfl 3 (.slice none 0 0))
  go_wp2_with fail
  generalize (((w1.setCell ⟨gR,0,none⟩ (.slice none 0 0)).setCell ⟨gR,1,none⟩ (.slice none 0 0)).setCell ⟨gR,2,none⟩ (.slice none 0 0)).setCell ⟨gR,3,none⟩ (.slice none 0 0)=WF at *
  have hb:WF.heap[gR]?=some (.cells #[.slice none 0 0,.slice none 0 0,.slice none 0 0,.slice none 0 0] 108 (0,0)):=(HP.out.blk 1 rfl).1
  exact bodyPost_ret (v := .tuple #[.agg #[.slice none 0 0,.slice none 0 0,.slice none 0 0,.slice none 0 0],.bool false]) (results_cell2 Tryz.results59 rfl hb Tryz.underlying108 (by kernel_rfl)) rfl (.inr ⟨HNO.out,rfl,HP.out.bel⟩)
 rw [inR_iff.2 hp]
 have HDS:=Lib.hid hds
 have HPR:=Lib.hid hp
 have hd1:=hds.pos
 have hd4:=hds.le
 rw [HDL.out] at hd1 hd4
 obtain ⟨bd,od,-,-,-,-,-,-,-,-,-,-,-,-,hDA,-⟩:=HD.out.md (k:=0) (by omega)
 subst hDA
 have hp1:=hp.1
 have hp4:=hp.2
 clear hds hp
 have x0:=cell_heap (k:=0) (HS0.out.blk 0 rfl).1 rfl
 have lx:=heap_lt0 (HS0.out.blk 0 rfl).1
 have HS1:=Lib.hid (((((HS0.out.consNilQ 3 1).consNilQ 200 4).consNilQ 196 2).consNilQ 155 3).consBlkQ #[.slice (some ⟨bd,od,none⟩) dn dc,.slice none 0 0,.slice none 0 0,.slice none 0 0,.slice none 0 0] 165)
 go_upto_region 4 with fail
 obtain ⟨gF,hgF⟩:∃g,w1.heap.size=g:=⟨_,rfl⟩
 rw [hgF] at HS1
 (try rw [hgF])
 generalize w1.alloc (.cells #[.slice (some ⟨bd,od,none⟩) dn dc,.slice none 0 0,.slice none 0 0,.slice none 0 0,.slice none 0 0] 165)=W2 at *
 clear hgF x0 lx HS0
 have HS2:Hid (Sepa w W2 (flP gF (.slice (some ⟨bd,od,none⟩) dn dc) MdT.zero none 0 none 0 none 0 (.cel (celI []) (.slice none 0 0) :: [.blk gB #[.slice (some ⟨bd,od,none⟩) dn dc] 48,.blk gR #[.slice none 0 0,.slice none 0 0,.slice none 0 0,.slice none 0 0] 108]))):=HS1
 have HADD:=Lib.hid (add_any HDS.out HD.out 5 (dn - 1) true p [] MdT.zero none none none none 0 0 0 0 0 [.blk gB #[.slice (some ⟨bd,od,none⟩) dn dc] 48,.blk gR #[.slice none 0 0,.slice none 0 0,.slice none 0 0,.slice none 0 0] 108] W2 (by omega) (by rw [HDL.out];omega) hp1 hp4 ⟨by simp [MdT.zero],by simp [MdT.zero],by simp [MdT.zero],rfl⟩ (PlIn.nil _) (fun h=>by cases h) HS2.out)
 clear HS1
 have x0:=cell_heap (k:=0) (HS2.out.blk 5 rfl).1 rfl
 have lx:=heap_lt0 (HS2.out.blk 5 rfl).1
 go_wp2_with fail
 refine (calls_eq HADD.out (show _=(#[.pointer (some ⟨gF,0,none⟩),.int .i64 ((dn:Int) - 1),.int .i64 p,.slice none 0 0,.bool true]:Array Value) from by rw [show ((dn:Int) - 1)=((dn - 1:Nat):Int) from by omega])).mono ?_
 rw [←HDL.out]
 rintro _ w3 (⟨fl,SA,sc,AA,ac,MA,mc,hfl,rfl,S3⟩|⟨hfl,rfl,b3⟩)
 rotate_left
 ·have HNO:Hid (flatD d p=none):=flatD_none HDS.out HPR.out hfl
  have HS5:=Lib.hid b3
  clear hfl b3 x0 lx HS2 HADD
  have e0:=cell_heap (k:=0) (HS5.out.blk 1 rfl).1 rfl
  have e1:=cell_heap (k:=1) (HS5.out.blk 1 rfl).1 rfl
  have e2:=cell_heap (k:=2) (HS5.out.blk 1 rfl).1 rfl
  have e3:=cell_heap (k:=3) (HS5.out.blk 1 rfl).1 rfl
  have ef:=fun k=>frozen_heap (HS5.out.blk 1 rfl).1 k
  have le:=heap_lt0 (HS5.out.blk 1 rfl).1
  have HP:=Lib.hid ((((HS5.out.put 1 rfl 0 (.slice none 0 0)).put 1 rfl 1 (.slice none 0 0)).put 1 rfl 2 (.slice none 0 0)).put 1 rfl 3 (.slice none 0 0))
  go_wp2_with fail
  generalize (((w3.setCell ⟨gR,0,none⟩ (.slice none 0 0)).setCell ⟨gR,1,none⟩ (.slice none 0 0)).setCell ⟨gR,2,none⟩ (.slice none 0 0)).setCell ⟨gR,3,none⟩ (.slice none 0 0)=WF at *
  have hb:WF.heap[gR]?=some (.cells #[.slice none 0 0,.slice none 0 0,.slice none 0 0,.slice none 0 0] 108 (0,0)):=(HP.out.blk 1 rfl).1
  exact bodyPost_ret (v := .tuple #[.agg #[.slice none 0 0,.slice none 0 0,.slice none 0 0,.slice none 0 0],.bool false]) (results_cell2 Tryz.results59 rfl hb Tryz.underlying108 (by kernel_rfl)) rfl (.inr ⟨HNO.out,rfl,HP.out.bel⟩)
 have HFL:=Lib.hid hfl
 have HBD:=Lib.hid (addM_low hfl rfl).1
 have HS3:=Lib.hid S3
 have HMD:Hid (MdRd w3 fl SA AA none MA fl.sigs.length sc fl.asgs.length ac 0 0 fl.mems.length mc):=⟨S3.rd 1 rfl,S3.rd 2 rfl,by rw [HBD.out.ins];exact ((Sepa.refl w3).pushNil 202 3).rd 0 rfl,S3.rd 3 rfl⟩
 clear hfl S3 x0 lx HS2 HADD
 have b1:=cell_heap (k:=1) (HS3.out.blk 0 rfl).1 rfl
 have b2:=cell_heap (k:=2) (HS3.out.blk 0 rfl).1 rfl
 have b3:=cell_heap (k:=3) (HS3.out.blk 0 rfl).1 rfl
 have b4:=cell_heap (k:=4) (HS3.out.blk 0 rfl).1 rfl
 have lb:=heap_lt0 (HS3.out.blk 0 rfl).1
 go_wp2_with fail
 refine (flatOk_any fl SA AA none MA fl.sigs.length sc fl.asgs.length ac 0 0 fl.mems.length mc _ HMD.out).mono ?_
 rintro _ w4 ⟨rfl,b4⟩
 have HS4:=Lib.hid (HS3.out.below b4)
 clear b4 b1 b2 b3 lb HS3
 by_cases hff:FlatFit fl
 ·have HYES:Hid (flatD d p=some fl):=flatD_some HDS.out HPR.out HFL.out hff
  rw [tb_true hff]
  clear hff
  have b1:=cell_heap (k:=1) (HS4.out.blk 0 rfl).1 rfl
  have b2:=cell_heap (k:=2) (HS4.out.blk 0 rfl).1 rfl
  have b3:=cell_heap (k:=3) (HS4.out.blk 0 rfl).1 rfl
  have b4:=cell_heap (k:=4) (HS4.out.blk 0 rfl).1 rfl
  have lb:=heap_lt0 (HS4.out.blk 0 rfl).1
  have e0:=cell_heap (k:=0) (HS4.out.blk 6 rfl).1 rfl
  have e1:=cell_heap (k:=1) (HS4.out.blk 6 rfl).1 rfl
  have e2:=cell_heap (k:=2) (HS4.out.blk 6 rfl).1 rfl
  have e3:=cell_heap (k:=3) (HS4.out.blk 6 rfl).1 rfl
  have ef:=fun k=>frozen_heap (HS4.out.blk 6 rfl).1 k
  have le:=heap_lt0 (HS4.out.blk 6 rfl).1
  have HP:=Lib.hid ((((HS4.out.put 6 rfl 0 (.slice SA fl.sigs.length sc)).put 6 rfl 1 (.slice AA fl.asgs.length ac)).put 6 rfl 2 (.slice none 0 0)).put 6 rfl 3 (.slice MA fl.mems.length mc))
  go_wp2_with fail
  generalize ((((w4.setCell ⟨gR,0,none⟩ (.slice SA fl.sigs.length sc)).setCell ⟨gR,1,none⟩ (.slice AA fl.asgs.length ac)).setCell ⟨gR,2,none⟩ (.slice none 0 0)).setCell ⟨gR,3,none⟩ (.slice MA fl.mems.length mc))=WF at *
  have hb:WF.heap[gR]?=some (.cells #[.slice SA fl.sigs.length sc,.slice AA fl.asgs.length ac,.slice none 0 0,.slice MA fl.mems.length mc] 108 (0,0)):=(HP.out.blk 6 rfl).1
  exact bodyPost_ret (v := .tuple #[.agg #[.slice SA fl.sigs.length sc,.slice AA fl.asgs.length ac,.slice none 0 0,.slice MA fl.mems.length mc],.bool true]) (results_cell2 Tryz.results59 rfl hb Tryz.underlying108 (by kernel_rfl)) rfl (.inl ⟨fl,_,_,_,_,_,_,HYES.out,rfl,HP.out.sub (qs:=[_,_,_]) (.cons _ (.cons_cons _ (.cons_cons _ (.cons_cons _ (.cons _ (.cons _ (.cons _ .slnil)))))))⟩)
 ·have HNO:Hid (flatD d p=none):=flatD_bad HDS.out HPR.out HFL.out hff
  rw [tb_false hff]
  clear hff
  have e0:=cell_heap (k:=0) (HS4.out.blk 6 rfl).1 rfl
  have e1:=cell_heap (k:=1) (HS4.out.blk 6 rfl).1 rfl
  have e2:=cell_heap (k:=2) (HS4.out.blk 6 rfl).1 rfl
  have e3:=cell_heap (k:=3) (HS4.out.blk 6 rfl).1 rfl
  have ef:=fun k=>frozen_heap (HS4.out.blk 6 rfl).1 k
  have le:=heap_lt0 (HS4.out.blk 6 rfl).1
  have HP:=Lib.hid ((((HS4.out.put 6 rfl 0 (.slice none 0 0)).put 6 rfl 1 (.slice none 0 0)).put 6 rfl 2 (.slice none 0 0)).put 6 rfl 3 (.slice none 0 0))
  go_wp2_with fail
  generalize (((w4.setCell ⟨gR,0,none⟩ (.slice none 0 0)).setCell ⟨gR,1,none⟩ (.slice none 0 0)).setCell ⟨gR,2,none⟩ (.slice none 0 0)).setCell ⟨gR,3,none⟩ (.slice none 0 0)=WF at *
  have hb:WF.heap[gR]?=some (.cells #[.slice none 0 0,.slice none 0 0,.slice none 0 0,.slice none 0 0] 108 (0,0)):=(HP.out.blk 6 rfl).1
  exact bodyPost_ret (v := .tuple #[.agg #[.slice none 0 0,.slice none 0 0,.slice none 0 0,.slice none 0 0],.bool false]) (results_cell2 Tryz.results59 rfl hb Tryz.underlying108 (by kernel_rfl)) rfl (.inr ⟨HNO.out,rfl,HP.out.bel⟩)
end Go.Proofs.YtlinbdkbbhpdpaaGreat
