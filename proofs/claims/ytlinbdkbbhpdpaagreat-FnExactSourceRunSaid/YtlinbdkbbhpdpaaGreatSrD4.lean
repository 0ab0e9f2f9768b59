/- The contract of the reference's l06Add. The instances of a module are added to a flat one, in the reference (printed by mkas4.py). -/
import Derived.Test.YtlinbdkbbhpdpaaGreatSrO
import Derived.Test.YtlinbdkbbhpdpaaGreatSrZ
namespace Go.Proofs.YtlinbdkbbhpdpaaGreat
set_option maxRecDepth 100000
open Go.RowKit

abbrev rowsP (fl:MdT) (SA:Option Addr) (sc:Nat) (AA:Option Addr) (ac:Nat) (MA:Option Addr) (mc:Nat) (rest:List Pc):List Pc:=sgP fl.sigs SA sc :: asP fl.asgs AA ac :: mmP fl.mems MA mc :: rest
/-- The contract of the reference's l06Add, for the modules below a number. -/
def SAddC (P:Program) (F:FuncId) (W:World) (d:List MdT) (DV:Value) (f:Nat):Prop :=
 ∀(k:Nat) (cp:Bool) (p:Int) (ports:List Int) (fl:MdT) (SA AA MA PA:Option Addr) (sc ac mc pn pc:Nat) (rs:List Pc) (w:World),
  k<f→k<d.length→1≤p→p≤4→FlBd fl→PlIn ports fl.sigs.length→(cp=true→ports.length=(portsOf (mdK d k)).length) →
  Sepa W w (rowsP fl SA sc AA ac MA mc (.cel (celI ports) (.slice PA pn pc) :: rs)) →
  Calls P F #[.agg #[DV],.int .i64 (k:Int),.int .i64 p,.bool cp,.slice PA pn pc,.agg #[.slice SA fl.sigs.length sc,.slice AA fl.asgs.length ac,.slice none 0 0,.slice MA fl.mems.length mc]] w fun e w' =>
   (∃fl' SA' sc' AA' ac' MA' mc',addM d f (!cp) k p ports fl=some fl'∧e = .returned (.tuple #[.agg #[.slice SA' fl'.sigs.length sc',.slice AA' fl'.asgs.length ac',.slice none 0 0,.slice MA' fl'.mems.length mc'],.bool true])∧Sepa W w' (rowsP fl' SA' sc' AA' ac' MA' mc' (.cel (celI ports) (.slice PA pn pc) :: rs))) ∨
   (addM d f (!cp) k p ports fl=none∧(∃(qA qB qC qD:Option Addr) (q1 q2 q3 q4 q5 q6 q7 q8:Nat),e = .returned (.tuple #[.agg #[.slice qA q1 q2,.slice qB q3 q4,.slice qC q5 q6,.slice qD q7 q8],.bool false]))∧Sepa W w' rs)
end Go.Proofs.YtlinbdkbbhpdpaaGreat

namespace Go.Proofs.YtlinbdkbbhpdpaaGreat
set_option maxRecDepth 100000
open Go.RowKit

set_option maxRecDepth 100000 in
set_option maxHeartbeats 8000000 in
theorem sadd_lp4 (W:World) (d:List MdT) (m:MdT) (DA SA AA JA MA:Option Addr) (dn dc sn sc an ac jn jc mn mc:Nat) (gD gR gG gM f kk:Nat) (p:Int) (pl:List Int) (PLA SF0 AF0 MF0:Option Addr) (plc sfc0 afc0 mfc0:Nat) (fl0:MdT) (rs:List Pc) {v0 v1 v3 v4 v5 v7 v8 v9 v10 v13 v16 v17 v18 v19 v20 v21 v22 v23 v24 v26 v27 v28 v29 v30 v31 v32 v33 v34 v35 v36 v37 v38 v39 v40 v41 v42 v43 v44 v45 v46 v47 v48 v49 v50 v51 v52 v53 v54 v55 v56 v57 v58 v59 v60 v61 v62 v63 v64 v65 v66 v67 v68 v69 v70 v71 v72 v73 v74 v75 v76 v77 v78 v79 v80 v81 v82 v83 v84 v85 v86 v87 v88 v89 v90 v91 v92 v93 v94 v95 v96 v97 v98 v99 v100 v101 v102 v103 v104 v105 v106 v107 v108 v109 v110 v111 v112 v113 v114 v115 v116 v117 v118 v119 v120 v121 v122 v123 v124 v125 v126 v127 v128 v129 v130 v131 v132 v133 v134 v135 v136 v137 v138 v139 v140 v141 v142 v143 v144 v145 v146 v147 v148 v149 v150 v151 v152 v153 v154 v155 v156 v157 v158 v159 v160 v161 v162 v163 v164 v165 v166 v167 v168 v169 v170 v171 v172 v173 v174 v175 v176 v177 v178 v179 v180 v181 v182 v183 v184 v185 v186 v187 v188 v189 v190 v191 v192 v193 v194 v195 v196 v197 v198 v199 v200 v201 v202 v203 v204 v205 v206 v207 v208 v209 v210 v211 v212 v213 v214 v215 v216 v217 v218 v219 v220 v221 v222 v223 v224 v225 v226 v227 v228 v229 v230 v231 v232 v233 v234 v235 v236 v237 v238 v239 v240 v241 v242 v243 v244 v245 v246 v247 v248 v249 v250 v251 v252 v253 v254 v255 v256 v257 v258 v259 v260 v261 v262 v263 v264 v265 v266 v267 v268 v269:Value} {Q0:Exit→Act→World→Prop} (w:World) (hM:MdRd W m SA AA JA MA sn sc an ac jn jc mn mc) (hrec:SAddC Tryz.prog 99 W d (.slice DA dn dc) f) (hp1:1≤p) (hp4:p≤4) (hkf:kk≤f) (hkd:kk≤d.length) (hj3:jn≤3) (him:∀i,i<m.insts.length→((0≤(m.insts[i]?.getD InT.zero).module∧(m.insts[i]?.getD InT.zero).module<kk)∧(0≤(m.insts[i]?.getD InT.zero).param∧(m.insts[i]?.getD InT.zero).param≤4))∧(m.insts[i]?.getD InT.zero).ports.length=(portsOf (mdK d (m.insts[i]?.getD InT.zero).module.toNat)).length∧PlIn (m.insts[i]?.getD InT.zero).ports sn) (hpl:PlIn pl fl0.sigs.length) (hpln:pl.length=sn) (hbd:FlBd fl0) (S:Sepa W w (sgP fl0.sigs SF0 sfc0 :: asP fl0.asgs AF0 afc0 :: mmP fl0.mems MF0 mfc0 :: .blk gR #[.slice none 0 0,.slice none 0 0,.slice none 0 0,.slice none 0 0] 108 :: .blk gD #[.slice DA dn dc] 48 :: .blk gM #[.slice SA sn sc,.slice AA an ac,.slice JA jn jc,.slice MA mn mc] 108 :: .cel (celI pl) (.slice PLA sn plc) :: .blk gG #[.slice SF0 fl0.sigs.length sfc0,.slice AF0 fl0.asgs.length afc0,.slice none 0 0,.slice MF0 fl0.mems.length mfc0] 108 :: rs))
  (hexit:∀(fl:MdT) (SF AF MF:Option Addr) (sfc afc mfc:Nat) (y13 y25 y26 y27 y28 y29 y30 y31 y219 y220 y221 y222 y223 y224 y225 y226 y227 y228 y229 y230 y231 y232 y233 y234 y235 y236 y237 y238 y239 y240 y241 y242 y243 y244 y245 y246 y247 y248 y249 y250 y251 y252 y253 y254 y255 y256 y257 y258 y259 y260 y261 y262 y263 y264 y265 y266 y267 y268:Value) (w':World),(addIn (addM d f false) p pl m.insts fl0=some fl∧Sepa W w' (sgP fl.sigs SF sfc :: asP fl.asgs AF afc :: mmP fl.mems MF mfc :: .blk gR #[.slice none 0 0,.slice none 0 0,.slice none 0 0,.slice none 0 0] 108 :: .blk gD #[.slice DA dn dc] 48 :: .blk gM #[.slice SA sn sc,.slice AA an ac,.slice JA jn jc,.slice MA mn mc] 108 :: .cel (celI pl) (.slice PLA sn plc) :: .blk gG #[.slice SF fl.sigs.length sfc,.slice AF fl.asgs.length afc,.slice none 0 0,.slice MF fl.mems.length mfc] 108 :: rs))→Q0 (.exit 9) ⟨List.toArray (v0 :: v1 :: .int .i64 p :: v3 :: v4 :: v5 :: .pointer (some ⟨gD,0,none⟩) :: v7 :: v8 :: v9 :: v10 :: .pointer (some ⟨gG,0,none⟩) :: .pointer (some ⟨gR,0,none⟩) :: y13 :: .pointer (some ⟨gM,0,none⟩) :: .slice PLA sn plc :: v16 :: v17 :: v18 :: v19 :: v20 :: v21 :: v22 :: v23 :: v24 :: y25 :: y26 :: y27 :: y28 :: y29 :: y30 :: y31 :: v32 :: v33 :: v34 :: v35 :: v36 :: v37 :: v38 :: v39 :: v40 :: v41 :: v42 :: v43 :: v44 :: v45 :: v46 :: v47 :: v48 :: v49 :: v50 :: v51 :: v52 :: v53 :: v54 :: v55 :: v56 :: v57 :: v58 :: v59 :: v60 :: v61 :: v62 :: v63 :: v64 :: v65 :: v66 :: v67 :: v68 :: v69 :: v70 :: v71 :: v72 :: v73 :: v74 :: v75 :: v76 :: v77 :: v78 :: v79 :: v80 :: v81 :: v82 :: v83 :: v84 :: v85 :: v86 :: v87 :: v88 :: v89 :: v90 :: v91 :: v92 :: v93 :: v94 :: v95 :: v96 :: v97 :: v98 :: v99 :: v100 :: v101 :: v102 :: v103 :: v104 :: v105 :: v106 :: v107 :: v108 :: v109 :: v110 :: v111 :: v112 :: v113 :: v114 :: v115 :: v116 :: v117 :: v118 :: v119 :: v120 :: v121 :: v122 :: v123 :: v124 :: v125 :: v126 :: v127 :: v128 :: v129 :: v130 :: v131 :: v132 :: v133 :: v134 :: v135 :: v136 :: v137 :: v138 :: v139 :: v140 :: v141 :: v142 :: v143 :: v144 :: v145 :: v146 :: v147 :: v148 :: v149 :: v150 :: v151 :: v152 :: v153 :: v154 :: v155 :: v156 :: v157 :: v158 :: v159 :: v160 :: v161 :: v162 :: v163 :: v164 :: v165 :: v166 :: v167 :: v168 :: v169 :: v170 :: v171 :: v172 :: v173 :: v174 :: v175 :: v176 :: v177 :: v178 :: v179 :: v180 :: v181 :: v182 :: v183 :: v184 :: v185 :: v186 :: v187 :: v188 :: v189 :: v190 :: v191 :: v192 :: v193 :: v194 :: v195 :: v196 :: v197 :: v198 :: v199 :: v200 :: v201 :: v202 :: v203 :: v204 :: v205 :: v206 :: v207 :: v208 :: v209 :: v210 :: v211 :: v212 :: v213 :: v214 :: v215 :: v216 :: v217 :: v218 :: y219 :: y220 :: y221 :: y222 :: y223 :: y224 :: y225 :: y226 :: y227 :: y228 :: y229 :: y230 :: y231 :: y232 :: y233 :: y234 :: y235 :: y236 :: y237 :: y238 :: y239 :: y240 :: y241 :: y242 :: y243 :: y244 :: y245 :: y246 :: y247 :: y248 :: y249 :: y250 :: y251 :: y252 :: y253 :: y254 :: y255 :: y256 :: y257 :: y258 :: y259 :: y260 :: y261 :: y262 :: y263 :: y264 :: y265 :: y266 :: y267 :: y268 :: v269 :: []),[]⟩ w')
  (hret:∀(qA qB qC qD:Option Addr) (q1 q2 q3 q4 q5 q6 q7 q8:Nat) (y25 y26 y27 y28 y29 y30 y31 y219 y220 y221 y222 y223 y224 y225 y226 y227 y228 y229 y230 y231 y232 y233 y234 y235 y236 y237 y238 y239 y240 y241 y242 y243 y244 y245 y246 y247 y248 y249 y250 y251 y252 y253 y254 y255 y256 y257 y258 y259 y260 y261 y262 y263 y264 y265 y266 y267 y268:Value) (w':World),(addIn (addM d f false) p pl m.insts fl0=none∧Sepa W w' (.blk gR #[.slice qA q1 q2,.slice qB q3 q4,.slice qC q5 q6,.slice qD q7 q8] 108 :: rs))→Q0 .ret ⟨List.toArray (v0 :: v1 :: .int .i64 p :: v3 :: v4 :: v5 :: .pointer (some ⟨gD,0,none⟩) :: v7 :: v8 :: v9 :: v10 :: .pointer (some ⟨gG,0,none⟩) :: .pointer (some ⟨gR,0,none⟩) :: .bool false :: .pointer (some ⟨gM,0,none⟩) :: .slice PLA sn plc :: v16 :: v17 :: v18 :: v19 :: v20 :: v21 :: v22 :: v23 :: v24 :: y25 :: y26 :: y27 :: y28 :: y29 :: y30 :: y31 :: v32 :: v33 :: v34 :: v35 :: v36 :: v37 :: v38 :: v39 :: v40 :: v41 :: v42 :: v43 :: v44 :: v45 :: v46 :: v47 :: v48 :: v49 :: v50 :: v51 :: v52 :: v53 :: v54 :: v55 :: v56 :: v57 :: v58 :: v59 :: v60 :: v61 :: v62 :: v63 :: v64 :: v65 :: v66 :: v67 :: v68 :: v69 :: v70 :: v71 :: v72 :: v73 :: v74 :: v75 :: v76 :: v77 :: v78 :: v79 :: v80 :: v81 :: v82 :: v83 :: v84 :: v85 :: v86 :: v87 :: v88 :: v89 :: v90 :: v91 :: v92 :: v93 :: v94 :: v95 :: v96 :: v97 :: v98 :: v99 :: v100 :: v101 :: v102 :: v103 :: v104 :: v105 :: v106 :: v107 :: v108 :: v109 :: v110 :: v111 :: v112 :: v113 :: v114 :: v115 :: v116 :: v117 :: v118 :: v119 :: v120 :: v121 :: v122 :: v123 :: v124 :: v125 :: v126 :: v127 :: v128 :: v129 :: v130 :: v131 :: v132 :: v133 :: v134 :: v135 :: v136 :: v137 :: v138 :: v139 :: v140 :: v141 :: v142 :: v143 :: v144 :: v145 :: v146 :: v147 :: v148 :: v149 :: v150 :: v151 :: v152 :: v153 :: v154 :: v155 :: v156 :: v157 :: v158 :: v159 :: v160 :: v161 :: v162 :: v163 :: v164 :: v165 :: v166 :: v167 :: v168 :: v169 :: v170 :: v171 :: v172 :: v173 :: v174 :: v175 :: v176 :: v177 :: v178 :: v179 :: v180 :: v181 :: v182 :: v183 :: v184 :: v185 :: v186 :: v187 :: v188 :: v189 :: v190 :: v191 :: v192 :: v193 :: v194 :: v195 :: v196 :: v197 :: v198 :: v199 :: v200 :: v201 :: v202 :: v203 :: v204 :: v205 :: v206 :: v207 :: v208 :: v209 :: v210 :: v211 :: v212 :: v213 :: v214 :: v215 :: v216 :: v217 :: v218 :: y219 :: y220 :: y221 :: y222 :: y223 :: y224 :: y225 :: y226 :: y227 :: y228 :: y229 :: y230 :: y231 :: y232 :: y233 :: y234 :: y235 :: y236 :: y237 :: y238 :: y239 :: y240 :: y241 :: y242 :: y243 :: y244 :: y245 :: y246 :: y247 :: y248 :: y249 :: y250 :: y251 :: y252 :: y253 :: y254 :: y255 :: y256 :: y257 :: y258 :: y259 :: y260 :: y261 :: y262 :: y263 :: y264 :: y265 :: y266 :: y267 :: y268 :: v269 :: []),[]⟩ w')
  : Code.wp Tryz.prog (loopAt Tryz.f99 3) Q0 ⟨List.toArray (v0 :: v1 :: .int .i64 p :: v3 :: v4 :: v5 :: .pointer (some ⟨gD,0,none⟩) :: v7 :: v8 :: v9 :: v10 :: .pointer (some ⟨gG,0,none⟩) :: .pointer (some ⟨gR,0,none⟩) :: v13 :: .pointer (some ⟨gM,0,none⟩) :: .slice PLA sn plc :: v16 :: v17 :: v18 :: v19 :: v20 :: v21 :: v22 :: v23 :: v24 :: .int .i64 0 :: v26 :: v27 :: v28 :: v29 :: v30 :: v31 :: v32 :: v33 :: v34 :: v35 :: v36 :: v37 :: v38 :: v39 :: v40 :: v41 :: v42 :: v43 :: v44 :: v45 :: v46 :: v47 :: v48 :: v49 :: v50 :: v51 :: v52 :: v53 :: v54 :: v55 :: v56 :: v57 :: v58 :: v59 :: v60 :: v61 :: v62 :: v63 :: v64 :: v65 :: v66 :: v67 :: v68 :: v69 :: v70 :: v71 :: v72 :: v73 :: v74 :: v75 :: v76 :: v77 :: v78 :: v79 :: v80 :: v81 :: v82 :: v83 :: v84 :: v85 :: v86 :: v87 :: v88 :: v89 :: v90 :: v91 :: v92 :: v93 :: v94 :: v95 :: v96 :: v97 :: v98 :: v99 :: v100 :: v101 :: v102 :: v103 :: v104 :: v105 :: v106 :: v107 :: v108 :: v109 :: v110 :: v111 :: v112 :: v113 :: v114 :: v115 :: v116 :: v117 :: v118 :: v119 :: v120 :: v121 :: v122 :: v123 :: v124 :: v125 :: v126 :: v127 :: v128 :: v129 :: v130 :: v131 :: v132 :: v133 :: v134 :: v135 :: v136 :: v137 :: v138 :: v139 :: v140 :: v141 :: v142 :: v143 :: v144 :: v145 :: v146 :: v147 :: v148 :: v149 :: v150 :: v151 :: v152 :: v153 :: v154 :: v155 :: v156 :: v157 :: v158 :: v159 :: v160 :: v161 :: v162 :: v163 :: v164 :: v165 :: v166 :: v167 :: v168 :: v169 :: v170 :: v171 :: v172 :: v173 :: v174 :: v175 :: v176 :: v177 :: v178 :: v179 :: v180 :: v181 :: v182 :: v183 :: v184 :: v185 :: v186 :: v187 :: v188 :: v189 :: v190 :: v191 :: v192 :: v193 :: v194 :: v195 :: v196 :: v197 :: v198 :: v199 :: v200 :: v201 :: v202 :: v203 :: v204 :: v205 :: v206 :: v207 :: v208 :: v209 :: v210 :: v211 :: v212 :: v213 :: v214 :: v215 :: v216 :: v217 :: v218 :: v219 :: v220 :: v221 :: v222 :: v223 :: v224 :: v225 :: v226 :: v227 :: v228 :: v229 :: v230 :: v231 :: v232 :: v233 :: v234 :: v235 :: v236 :: v237 :: v238 :: v239 :: v240 :: v241 :: v242 :: v243 :: v244 :: v245 :: v246 :: v247 :: v248 :: v249 :: v250 :: v251 :: v252 :: v253 :: v254 :: v255 :: v256 :: v257 :: v258 :: v259 :: v260 :: v261 :: v262 :: v263 :: v264 :: v265 :: v266 :: v267 :: v268 :: v269 :: []),[]⟩ w:=by
 have HL3:=Lib.hid hM.lens.2.2.1
 have HM:=Lib.hid hM
 have HIM:=Lib.hid him
 have HREC:=Lib.hid hrec
 have HPL:=Lib.hid hpl
 have HPLN:=Lib.hid hpln
 have HS0:=Lib.hid S
 have HX:=Lib.hid hexit
 have HZ:=Lib.hid hret
 have HB0:=Lib.hid hbd
 clear hM him hrec hpl hpln S hexit hret hbd
 conv=>arg 2;whnf
 go_loopw [25] (fun i wr=>∃(k:Nat) (fl:MdT) (SF AF MF:Option Addr) (sfc afc mfc:Nat),k≤jn∧i = .int .i64 (k:Int)∧addIn (addM d f false) p pl (m.insts.drop k) fl=addIn (addM d f false) p pl m.insts fl0∧FlBd fl∧fl0.sigs.length≤fl.sigs.length∧Sepa W wr (sgP fl.sigs SF sfc :: asP fl.asgs AF afc :: mmP fl.mems MF mfc :: .blk gR #[.slice none 0 0,.slice none 0 0,.slice none 0 0,.slice none 0 0] 108 :: .blk gD #[.slice DA dn dc] 48 :: .blk gM #[.slice SA sn sc,.slice AA an ac,.slice JA jn jc,.slice MA mn mc] 108 :: .cel (celI pl) (.slice PLA sn plc) :: .blk gG #[.slice SF fl.sigs.length sfc,.slice AF fl.asgs.length afc,.slice none 0 0,.slice MF fl.mems.length mfc] 108 :: rs)) (fun i _=>jn - (intOf i).toNat)
 case atStart=>exact ⟨0,fl0,_,_,_,_,_,_,by omega,rfl,by rw [List.drop_zero],HB0.out,Nat.le_refl _,HS0.out⟩
 case round =>
  obtain ⟨k,fl,SF,AF,MF,sfc,afc,mfc,hk,rfl,ha,hbd,hlo,hs⟩:=hrel
  have HS:=Lib.hid hs
  have HA:=Lib.hid ha
  have HBD:=Lib.hid hbd
  clear hs ha hbd
  have x2:=cell_heap (k:=2) (HS.out.blk 5 rfl).1 rfl
  have lx:=heap_lt0 (HS.out.blk 5 rfl).1
  by_cases hlt:k<jn
  ·have hdk:decide ((k:Int)<(jn:Int))=true:=by simp;omega
   have i0:(0:Int)≤(k:Int):=by omega
   have i1:(k:Int)<(jn:Int):=by omega
   have hkl:k<m.insts.length:=by rw [HL3.out];exact hlt
   obtain ⟨bi,oi,PA,pn,pc,hJA,hbi,c0,c1,c2,r0⟩:=HM.out.ins.inE (k:=k) hkl
   subst hJA
   rw [←HS.out.bel.cell (p:=⟨bi,oi+k * 3,none⟩) hbi] at c0
   rw [←HS.out.bel.cell (p:=⟨bi,oi+k * 3+1,none⟩) hbi] at c1
   rw [←HS.out.bel.cell (p:=⟨bi,oi+k * 3+2,none⟩) hbi] at c2
   have lbi:=below_lt HS.out.bel hbi
   obtain ⟨⟨hm1,hm2⟩,hpq,hip⟩:=HIM.out k hkl
   have HAD0:Hid (_=addIn (addM d f false) p pl m.insts fl0):=(addIn_cons (g:=addM d f false) (p:=p) (pl:=pl) (l:=m.insts) (fl:=fl) hkl).symm.trans HA.out
   generalize m.insts[k]?.getD InT.zero=q at *
   obtain ⟨mo,pa,po⟩:=q
   simp only at c0 c1 r0 hm1 hm2 hpq hip HAD0
   obtain ⟨M,rfl⟩:∃M:Nat,mo=(M:Int):=⟨mo.toNat,by omega⟩
   rw [Int.toNat_natCast] at hpq HAD0
   have HPR:=Lib.hid r0.ints
   have HPN:Hid (po.length=pn):=HPR.out.1
   have HIP:=Lib.hid hip
   have HPQ:=Lib.hid hpq
   have hpn30:pn≤30:=by rw [←HPN.out,hpq];exact portsOf_len _
   have hMf:M<f:=by omega
   have hMd:M<d.length:=by omega
   have HPP:Hid (PlIn (po.map (atI pl)) fl.sigs.length):=fun y hy=>by
    obtain ⟨x,hx,rfl⟩:=List.mem_map.1 hy
    have h1:=HIP.out x hx
    exact (HPL.out.mono hlo).atI_ h1.1 (by rw [HPLN.out];exact h1.2)
   clear hkl hbi r0 hpq hip
   have HS5:=Lib.hid (HS.out.consBlkQ #[.int .i64 (M:Int),.int .i64 pa,.slice PA pn pc] 202)
   go_upto_region 44 with fail
   obtain ⟨gJ,hgJ⟩:∃g,wr.heap.size=g:=⟨_,rfl⟩
   rw [hgJ] at HS5
   (try rw [hgJ])
   generalize wr.alloc (.cells #[.int .i64 (M:Int),.int .i64 pa,.slice PA pn pc] 202)=W5 at *
   clear c0 c1 c2 lbi hgJ HS x2 lx
   have HS7:=Lib.hid ((HS5.out.pushNew 3 1).permQ (List.perm_append_comm (l₂:=[_])))
   go_upto_region 45 with fail
   generalize W5.alloc (.cells #[] 3)=W7 at *
   go_wp2_with fail
   clear HS5
   go_loopw [27,28] (fun a i wr=>∃(j:Nat) (OA:Option Addr) (oc:Nat),j≤pn∧i = .int .i64 (j:Int)∧a = .slice OA j oc∧Sepa W wr (.cel (celI ((po.take j).map (atI pl))) (.slice OA j oc) :: .blk gJ #[.int .i64 (M:Int),.int .i64 pa,.slice PA pn pc] 202 :: sgP fl.sigs SF sfc :: asP fl.asgs AF afc :: mmP fl.mems MF mfc :: .blk gR #[.slice none 0 0,.slice none 0 0,.slice none 0 0,.slice none 0 0] 108 :: .blk gD #[.slice DA dn dc] 48 :: .blk gM #[.slice SA sn sc,.slice AA an ac,.slice (some ⟨bi,oi,none⟩) jn jc,.slice MA mn mc] 108 :: .cel (celI pl) (.slice PLA sn plc) :: .blk gG #[.slice SF fl.sigs.length sfc,.slice AF fl.asgs.length afc,.slice none 0 0,.slice MF fl.mems.length mfc] 108 :: rs)) (fun _ i _=>pn - (intOf i).toNat)
   case atStart=>exact ⟨0,_,_,by omega,rfl,rfl,HS7.out⟩
   case round =>
    obtain ⟨j,OA,oc,hj,rfl,rfl,hs⟩:=hrel
    have HS:=Lib.hid hs
    clear hs
    have x2:=cell_heap (k:=2) (HS.out.blk 1 rfl).1 rfl
    have lx:=heap_lt0 (HS.out.blk 1 rfl).1
    by_cases hltj:j<pn
    ·have hdj:decide ((j:Int)<(pn:Int))=true:=by simp;omega
     have j0:(0:Int)≤(j:Int):=by omega
     have j1:(j:Int)<(pn:Int):=by omega
     have hjl:j<po.length:=by rw [HPN.out];exact hltj
     obtain ⟨bq,oq,hPA,hbq,hcq⟩:=HPR.out.2 (by omega)
     have cq:=(HS.out.bel.cell (p:=⟨bq,oq+j,none⟩) hbq).trans (hcq j hltj)
     have lbq:=below_lt HS.out.bel hbq
     subst hPA
     have hxi:=HIP.out.at_ hjl
     have HTK:Hid ((po.take (j+1)).map (atI pl)=(po.take j).map (atI pl)++[atI pl (po[j]?.getD 0)]):=by show _=_;rw [take_snoc (z:=(0:Int)) hjl,List.map_append,List.map_singleton]
     generalize po[j]?.getD 0=x at *
     obtain ⟨X,rfl⟩:∃X:Nat,x=(X:Int):=⟨x.toNat,by omega⟩
     obtain ⟨bp,op,hPLA,hbp,hcp⟩:=(HS.out.ints 8 rfl).2 (by omega)
     have cp:=hcp X (by omega)
     have lbp:bp<wr.heap.size:=hbp
     subst hPLA
     have HAT:Hid (atI pl (X:Int)=pl[X]?.getD 0):=by show _=_;unfold atI;rw [Int.toNat_natCast]
     rw [HAT.out] at HTK
     generalize pl[X]?.getD 0=xv at *
     have X0:(0:Int)≤(X:Int):=by omega
     have X1:(X:Int)<(sn:Int):=by omega
     have hjb:j≤1048576:=by omega
     clear hjl hcq hbq hcp hbp
     go_upto_region 47 with (at_builtin;refine wpList_sepPush rfl _ _ rfl _ (HS.out.alloc _) 0 OA j oc ((po.take j).map (atI pl)) xv _ (0,0) rfl rfl rfl (heap_new _ _) (by omega) ?_;intro g9 cap w9 S9 hz9;have HS9:=Lib.hid S9;clear S9 hz9)
     go_wp2_with fail
     go_roundw
     case rel=>exact ⟨j+1,_,_,by omega,by go_num,rfl,by rw [HTK.out];exact HS9.out⟩
     case measure=>simp [intOf];omega
    ·have hjn:j=pn:=by omega
     have hdj:decide ((j:Int)<(pn:Int))=false:=by simp;omega
     clear hltj
     subst j
     have HE:Hid ((po.take pn).map (atI pl)=po.map (atI pl)):=by show _=_;rw [List.take_of_length_le (by rw [HPN.out];exact Nat.le_refl _)]
     have h9:=HS.out
     rw [HE.out] at h9
     go_upto_region 49 with fail
     have HS9:=Lib.hid (h9.permQ ((List.perm_append_comm (l₁:=[_,_]) (l₂:=[_,_,_])).append_right _))
     clear HS h9 x2 lx
     have y1:=cell_heap (k:=1) (HS9.out.blk 4 rfl).1 rfl
     have ly:=heap_lt0 (HS9.out.blk 4 rfl).1
     go_upto_if 253 with fail
     go_cut [29] from 219 to 268 (fun v w'=>v = .int .i64 (if pa=0 then p else pa)∧wr=w')
     case first =>
      by_cases h0:pa=0
      ·have d0:(pa==0)=true:=by simp [h0]
       go_upto_region 52 with fail
       go_meet
       exact ⟨by rw [if_pos h0],rfl⟩
      ·have d0:(pa==0)=false:=by simp [h0]
       go_upto_region 52 with fail
       go_meet
       exact ⟨by rw [if_neg h0],rfl⟩
     obtain ⟨rfl,rfl⟩:=hcut
     have hinn:1≤(if pa=0 then p else pa)∧(if pa=0 then p else pa)≤4:=by split <;> omega
     generalize (if pa=0 then p else pa)=inn at *
     have hi1:=hinn.1
     have hi4:=hinn.2
     clear hinn y1 ly
     have HAD:=HAD0
     clear HAD0
     have y0:=cell_heap (k:=0) (HS9.out.blk 4 rfl).1 rfl
     have ly:=heap_lt0 (HS9.out.blk 4 rfl).1
     have dd0:=cell_heap (k:=0) (HS9.out.blk 6 rfl).1 rfl
     have ldd:=heap_lt0 (HS9.out.blk 6 rfl).1
     have g0:=cell_heap (k:=0) (HS9.out.blk 9 rfl).1 rfl
     have g1:=cell_heap (k:=1) (HS9.out.blk 9 rfl).1 rfl
     have g2:=cell_heap (k:=2) (HS9.out.blk 9 rfl).1 rfl
     have g3:=cell_heap (k:=3) (HS9.out.blk 9 rfl).1 rfl
     have lg:=heap_lt0 (HS9.out.blk 9 rfl).1
     go_wp2_with fail
     refine (HREC.out M true inn (po.map (atI pl)) fl SF AF MF OA sfc afc mfc pn oc _ _ hMf hMd hi1 hi4 HBD.out HPP.out (fun _=>by rw [List.length_map];exact HPQ.out) HS9.out).mono ?_
     clear y0 ly dd0 ldd g0 g1 g2 g3 lg
     rintro _ w9 (⟨fl2,SF2,sfc2,AF2,afc2,MF2,mfc2,hs2,rfl,S9⟩|⟨hs2,⟨qA,qB,qC,qD,q1,q2,q3,q4,q5,q6,q7,q8,rfl⟩,b9⟩)
     ·have HAD2:Hid (addIn (addM d f false) p pl (m.insts.drop (k+1)) fl2=addIn (addM d f false) p pl m.insts fl0):=by have h:=HAD.out;rw [show addM d f false M inn (po.map (atI pl)) fl=_ from hs2] at h;exact h
      have hl2:=addM_low hs2 HBD.out.ins
      have HBD2:=Lib.hid hl2.1
      have hlw:=hl2.2
      have HS10:=Lib.hid (S9.consBlkQ #[.slice SF2 fl2.sigs.length sfc2,.slice AF2 fl2.asgs.length afc2,.slice none 0 0,.slice MF2 fl2.mems.length mfc2] 108)
      clear S9 hs2 HS9 hl2
      go_upto_region 53 with fail
      obtain ⟨gN,hgN⟩:∃g,w9.heap.size=g:=⟨_,rfl⟩
      rw [hgN] at HS10
      (try rw [hgN])
      generalize w9.alloc (.cells #[.slice SF2 fl2.sigs.length sfc2,.slice AF2 fl2.asgs.length afc2,.slice none 0 0,.slice MF2 fl2.mems.length mfc2] 108)=W10 at *
      clear hgN
      have n0:=cell_heap (k:=0) (HS10.out.blk 0 rfl).1 rfl
      have n1:=cell_heap (k:=1) (HS10.out.blk 0 rfl).1 rfl
      have n2:=cell_heap (k:=2) (HS10.out.blk 0 rfl).1 rfl
      have n3:=cell_heap (k:=3) (HS10.out.blk 0 rfl).1 rfl
      have ln:=heap_lt0 (HS10.out.blk 0 rfl).1
      have g0:=cell_heap (k:=0) (HS10.out.blk 10 rfl).1 rfl
      have g1:=cell_heap (k:=1) (HS10.out.blk 10 rfl).1 rfl
      have g2:=cell_heap (k:=2) (HS10.out.blk 10 rfl).1 rfl
      have g3:=cell_heap (k:=3) (HS10.out.blk 10 rfl).1 rfl
      have gf:=fun k=>frozen_heap (HS10.out.blk 10 rfl).1 k
      have lg:=heap_lt0 (HS10.out.blk 10 rfl).1
      have HP:=Lib.hid (((((HS10.out.put 10 rfl 0 (.slice SF2 fl2.sigs.length sfc2)).put 10 rfl 1 (.slice AF2 fl2.asgs.length afc2)).put 10 rfl 2 (.slice none 0 0)).put 10 rfl 3 (.slice MF2 fl2.mems.length mfc2)).sub (qs:=sgP fl2.sigs SF2 sfc2 :: asP fl2.asgs AF2 afc2 :: mmP fl2.mems MF2 mfc2 :: .blk gR #[.slice none 0 0,.slice none 0 0,.slice none 0 0,.slice none 0 0] 108 :: .blk gD #[.slice DA dn dc] 48 :: .blk gM #[.slice SA sn sc,.slice AA an ac,.slice (some ⟨bi,oi,none⟩) jn jc,.slice MA mn mc] 108 :: .cel (celI pl) (.slice PLA sn plc) :: .blk gG #[.slice SF2 fl2.sigs.length sfc2,.slice AF2 fl2.asgs.length afc2,.slice none 0 0,.slice MF2 fl2.mems.length mfc2] 108 :: rs) (.cons _ (.cons_cons _ (.cons_cons _ (.cons_cons _ (.cons _ (.cons _ (.cons_cons _ (.cons_cons _ (.cons_cons _ (.cons_cons _ (.cons_cons _ (List.Sublist.refl _)))))))))))))
      go_wp2_with fail
      go_roundw
      case rel=>exact ⟨k+1,_,_,_,_,_,_,_,by omega,by go_num,HAD2.out,HBD2.out,by omega,HP.out⟩
      case measure=>simp [intOf];omega
     ·have HNO:Hid (addIn (addM d f false) p pl m.insts fl0=none):=by have h:=HAD.out;rw [show addM d f false M inn (po.map (atI pl)) fl=_ from hs2] at h;exact h.symm
      have HS10:=Lib.hid (b9.consBlkQ #[.slice qA q1 q2,.slice qB q3 q4,.slice qC q5 q6,.slice qD q7 q8] 108)
      clear hs2 b9 HS9
      go_upto_region 53 with fail
      generalize w9.alloc (.cells #[.slice qA q1 q2,.slice qB q3 q4,.slice qC q5 q6,.slice qD q7 q8] 108)=W10 at *
      have g0:=cell_heap (k:=0) (HS10.out.blk 6 rfl).1 rfl
      have g1:=cell_heap (k:=1) (HS10.out.blk 6 rfl).1 rfl
      have g2:=cell_heap (k:=2) (HS10.out.blk 6 rfl).1 rfl
      have g3:=cell_heap (k:=3) (HS10.out.blk 6 rfl).1 rfl
      have lg:=heap_lt0 (HS10.out.blk 6 rfl).1
      have e0:=cell_heap (k:=0) (HS10.out.blk 2 rfl).1 rfl
      have e1:=cell_heap (k:=1) (HS10.out.blk 2 rfl).1 rfl
      have e2:=cell_heap (k:=2) (HS10.out.blk 2 rfl).1 rfl
      have e3:=cell_heap (k:=3) (HS10.out.blk 2 rfl).1 rfl
      have ef:=fun k=>frozen_heap (HS10.out.blk 2 rfl).1 k
      have le:=heap_lt0 (HS10.out.blk 2 rfl).1
      have HP:=Lib.hid ((((HS10.out.put 2 rfl 0 (.slice SF fl.sigs.length sfc)).put 2 rfl 1 (.slice AF fl.asgs.length afc)).put 2 rfl 2 (.slice none 0 0)).put 2 rfl 3 (.slice MF fl.mems.length mfc))
      go_wp2_with fail
      apply HZ.out
      exact ⟨HNO.out,HP.out.sub (qs:=_ :: rs) (.cons _ (.cons _ (.cons_cons _ (.cons _ (.cons _ (.cons _ (.cons _ (List.Sublist.refl _))))))))⟩
  ·have hkn:k=jn:=by omega
   have hdk:decide ((k:Int)<(jn:Int))=false:=by simp;omega
   clear hlt
   subst k
   have HE:Hid (addIn (addM d f false) p pl m.insts fl0=some fl):=by show _=_;rw [←HA.out];exact addIn_end HL3.out.symm
   go_wp2_with fail
   apply HX.out
   exact ⟨HE.out,HS.out⟩
end Go.Proofs.YtlinbdkbbhpdpaaGreat
