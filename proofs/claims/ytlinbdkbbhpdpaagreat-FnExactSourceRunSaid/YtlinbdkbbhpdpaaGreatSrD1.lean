/- The signals of a module are added to a flat one, in the reference (printed by mkas1.py). -/
import Derived.Test.YtlinbdkbbhpdpaaGreatHeldT
import Derived.Test.YtlinbdkbbhpdpaaGreatSrO
import Derived.Test.YtlinbdkbbhpdpaaGreatSrZ
namespace Go.Proofs.YtlinbdkbbhpdpaaGreat
set_option maxRecDepth 100000
open Go.RowKit

set_option maxRecDepth 100000 in
set_option maxHeartbeats 8000000 in
theorem sadd_lp1 (W:World) (m:MdT) (SA AA JA MA:Option Addr) (sn sc an ac jn jc mn mc:Nat) (gG gR gM:Nat) (p:Int) (cp:Bool) (ports:List Int) (PA IA0 FA0:Option Addr) (pn pc ic0 fc0:Nat) (fl0:List SgT) (AV0 MV0:Option Addr) (avn avc mvn mvc:Nat) (rs:List Pc) {v0 v1 v5 v6 v7 v8 v9 v10 v13 v18 v19 v20 v21 v22 v23 v24 v25 v26 v27 v28 v29 v30 v31 v32 v33 v34 v35 v36 v37 v38 v39 v40 v41 v42 v43 v44 v45 v46 v47 v48 v49 v50 v51 v52 v53 v54 v55 v56 v57 v58 v59 v60 v61 v62 v63 v64 v65 v66 v67 v68 v69 v70 v71 v72 v73 v74 v75 v76 v77 v78 v79 v80 v81 v82 v83 v84 v85 v86 v87 v88 v89 v90 v91 v92 v93 v94 v95 v96 v97 v98 v99 v100 v101 v102 v103 v104 v105 v106 v107 v108 v109 v110 v111 v112 v113 v114 v115 v116 v117 v118 v119 v120 v121 v122 v123 v124 v125 v126 v127 v128 v129 v130 v131 v132 v133 v134 v135 v136 v137 v138 v139 v140 v141 v142 v143 v144 v145 v146 v147 v148 v149 v150 v151 v152 v153 v154 v155 v156 v157 v158 v159 v160 v161 v162 v163 v164 v165 v166 v167 v168 v169 v170 v171 v172 v173 v174 v175 v176 v177 v178 v179 v180 v181 v182 v183 v184 v185 v186 v187 v188 v189 v190 v191 v192 v193 v194 v195 v196 v197 v198 v199 v200 v201 v202 v203 v204 v205 v206 v207 v208 v209 v210 v211 v212 v213 v214 v215 v216 v217 v218 v219 v220 v221 v222 v223 v224 v225 v226 v227 v228 v229 v230 v231 v232 v233 v234 v235 v236 v237 v238 v239 v240 v241 v242 v243 v244 v245 v246 v247 v248 v249 v250 v251 v252 v253 v254 v255 v256 v257 v258 v259 v260 v261 v262 v263 v264 v265 v266 v267 v268 v269:Value} {Q0:Exit→Act→World→Prop} (w:World) (hM:MdRd W m SA AA JA MA sn sc an ac jn jc mn mc) (hs30:sn≤30) (_hp1:1≤p) (_hp4:p≤4) (hports:PlIn ports fl0.length) (hpn:cp=true→ports.length=(portsTo m.sigs sn).length) (hfl:fl0.length≤30) (S:Sepa W w (.blk gR #[.slice none 0 0,.slice none 0 0,.slice none 0 0,.slice none 0 0] 108 :: .blk gM #[.slice SA sn sc,.slice AA an ac,.slice JA jn jc,.slice MA mn mc] 108 :: .cel (celI []) (.slice IA0 0 ic0) :: .blk gG #[.slice FA0 fl0.length fc0,.slice AV0 avn avc,.slice none 0 0,.slice MV0 mvn mvc] 108 :: sgP fl0 FA0 fc0 :: .cel (celI ports) (.slice PA pn pc) :: rs))
  (hexit:∀(fl:List SgT) (pl:List Int) (FA IA:Option Addr) (fc ic:Nat) (y13 y16 y17 y18 y38 y39 y40 y41 y42 y43 y44 y45 y46 y47 y48 y49 y50 y51 y52 y53 y54 y55 y56 y57 y58 y59 y60 y61 y62 y63 y64 y65 y66 y67 y68 y69 y70 y71 y72 y73 y74 y75 y76 y77 y78 y79 y80 y81 y82 y83 y84 y85 y86 y87 y88 y89 y90 y91 y92 y93 y94 y95 y96 y97 y98 y99:Value) (w':World),(addSg p (!cp) ports m.sigs 0 fl0 []=some (fl,pl)∧pl.length=sn∧PlIn pl fl.length∧fl0.length≤fl.length∧fl.length≤60∧Sepa W w' (.blk gR #[.slice none 0 0,.slice none 0 0,.slice none 0 0,.slice none 0 0] 108 :: .blk gM #[.slice SA sn sc,.slice AA an ac,.slice JA jn jc,.slice MA mn mc] 108 :: .cel (celI pl) (.slice IA sn ic) :: .blk gG #[.slice FA fl.length fc,.slice AV0 avn avc,.slice none 0 0,.slice MV0 mvn mvc] 108 :: sgP fl FA fc :: .cel (celI ports) (.slice PA pn pc) :: rs))→Q0 (.exit 0) ⟨List.toArray (v0 :: v1 :: .int .i64 p :: .bool cp :: .slice PA pn pc :: v5 :: v6 :: v7 :: v8 :: v9 :: v10 :: .pointer (some ⟨gG,0,none⟩) :: .pointer (some ⟨gR,0,none⟩) :: y13 :: .pointer (some ⟨gM,0,none⟩) :: .slice IA sn ic :: y16 :: y17 :: y18 :: v19 :: v20 :: v21 :: v22 :: v23 :: v24 :: v25 :: v26 :: v27 :: v28 :: v29 :: v30 :: v31 :: v32 :: v33 :: v34 :: v35 :: v36 :: v37 :: y38 :: y39 :: y40 :: y41 :: y42 :: y43 :: y44 :: y45 :: y46 :: y47 :: y48 :: y49 :: y50 :: y51 :: y52 :: y53 :: y54 :: y55 :: y56 :: y57 :: y58 :: y59 :: y60 :: y61 :: y62 :: y63 :: y64 :: y65 :: y66 :: y67 :: y68 :: y69 :: y70 :: y71 :: y72 :: y73 :: y74 :: y75 :: y76 :: y77 :: y78 :: y79 :: y80 :: y81 :: y82 :: y83 :: y84 :: y85 :: y86 :: y87 :: y88 :: y89 :: y90 :: y91 :: y92 :: y93 :: y94 :: y95 :: y96 :: y97 :: y98 :: y99 :: v100 :: v101 :: v102 :: v103 :: v104 :: v105 :: v106 :: v107 :: v108 :: v109 :: v110 :: v111 :: v112 :: v113 :: v114 :: v115 :: v116 :: v117 :: v118 :: v119 :: v120 :: v121 :: v122 :: v123 :: v124 :: v125 :: v126 :: v127 :: v128 :: v129 :: v130 :: v131 :: v132 :: v133 :: v134 :: v135 :: v136 :: v137 :: v138 :: v139 :: v140 :: v141 :: v142 :: v143 :: v144 :: v145 :: v146 :: v147 :: v148 :: v149 :: v150 :: v151 :: v152 :: v153 :: v154 :: v155 :: v156 :: v157 :: v158 :: v159 :: v160 :: v161 :: v162 :: v163 :: v164 :: v165 :: v166 :: v167 :: v168 :: v169 :: v170 :: v171 :: v172 :: v173 :: v174 :: v175 :: v176 :: v177 :: v178 :: v179 :: v180 :: v181 :: v182 :: v183 :: v184 :: v185 :: v186 :: v187 :: v188 :: v189 :: v190 :: v191 :: v192 :: v193 :: v194 :: v195 :: v196 :: v197 :: v198 :: v199 :: v200 :: v201 :: v202 :: v203 :: v204 :: v205 :: v206 :: v207 :: v208 :: v209 :: v210 :: v211 :: v212 :: v213 :: v214 :: v215 :: v216 :: v217 :: v218 :: v219 :: v220 :: v221 :: v222 :: v223 :: v224 :: v225 :: v226 :: v227 :: v228 :: v229 :: v230 :: v231 :: v232 :: v233 :: v234 :: v235 :: v236 :: v237 :: v238 :: v239 :: v240 :: v241 :: v242 :: v243 :: v244 :: v245 :: v246 :: v247 :: v248 :: v249 :: v250 :: v251 :: v252 :: v253 :: v254 :: v255 :: v256 :: v257 :: v258 :: v259 :: v260 :: v261 :: v262 :: v263 :: v264 :: v265 :: v266 :: v267 :: v268 :: v269 :: []),[]⟩ w')
  (hret:∀(qA qB qC qD:Option Addr) (q1 q2 q3 q4 q5 q6 q7 q8:Nat) (y15 y16 y17 y18 y38 y39 y40 y41 y42 y43 y44 y45 y46 y47 y48 y49 y50 y51 y52 y53 y54 y55 y56 y57 y58 y59 y60 y61 y62 y63 y64 y65 y66 y67 y68 y69 y70 y71 y72 y73 y74 y75 y76 y77 y78 y79 y80 y81 y82 y83 y84 y85 y86 y87 y88 y89 y90 y91 y92 y93 y94 y95 y96 y97 y98 y99:Value) (w':World),(addSg p (!cp) ports m.sigs 0 fl0 []=none∧Sepa W w' (.blk gR #[.slice qA q1 q2,.slice qB q3 q4,.slice qC q5 q6,.slice qD q7 q8] 108 :: rs))→Q0 .ret ⟨List.toArray (v0 :: v1 :: .int .i64 p :: .bool cp :: .slice PA pn pc :: v5 :: v6 :: v7 :: v8 :: v9 :: v10 :: .pointer (some ⟨gG,0,none⟩) :: .pointer (some ⟨gR,0,none⟩) :: .bool false :: .pointer (some ⟨gM,0,none⟩) :: y15 :: y16 :: y17 :: y18 :: v19 :: v20 :: v21 :: v22 :: v23 :: v24 :: v25 :: v26 :: v27 :: v28 :: v29 :: v30 :: v31 :: v32 :: v33 :: v34 :: v35 :: v36 :: v37 :: y38 :: y39 :: y40 :: y41 :: y42 :: y43 :: y44 :: y45 :: y46 :: y47 :: y48 :: y49 :: y50 :: y51 :: y52 :: y53 :: y54 :: y55 :: y56 :: y57 :: y58 :: y59 :: y60 :: y61 :: y62 :: y63 :: y64 :: y65 :: y66 :: y67 :: y68 :: y69 :: y70 :: y71 :: y72 :: y73 :: y74 :: y75 :: y76 :: y77 :: y78 :: y79 :: y80 :: y81 :: y82 :: y83 :: y84 :: y85 :: y86 :: y87 :: y88 :: y89 :: y90 :: y91 :: y92 :: y93 :: y94 :: y95 :: y96 :: y97 :: y98 :: y99 :: v100 :: v101 :: v102 :: v103 :: v104 :: v105 :: v106 :: v107 :: v108 :: v109 :: v110 :: v111 :: v112 :: v113 :: v114 :: v115 :: v116 :: v117 :: v118 :: v119 :: v120 :: v121 :: v122 :: v123 :: v124 :: v125 :: v126 :: v127 :: v128 :: v129 :: v130 :: v131 :: v132 :: v133 :: v134 :: v135 :: v136 :: v137 :: v138 :: v139 :: v140 :: v141 :: v142 :: v143 :: v144 :: v145 :: v146 :: v147 :: v148 :: v149 :: v150 :: v151 :: v152 :: v153 :: v154 :: v155 :: v156 :: v157 :: v158 :: v159 :: v160 :: v161 :: v162 :: v163 :: v164 :: v165 :: v166 :: v167 :: v168 :: v169 :: v170 :: v171 :: v172 :: v173 :: v174 :: v175 :: v176 :: v177 :: v178 :: v179 :: v180 :: v181 :: v182 :: v183 :: v184 :: v185 :: v186 :: v187 :: v188 :: v189 :: v190 :: v191 :: v192 :: v193 :: v194 :: v195 :: v196 :: v197 :: v198 :: v199 :: v200 :: v201 :: v202 :: v203 :: v204 :: v205 :: v206 :: v207 :: v208 :: v209 :: v210 :: v211 :: v212 :: v213 :: v214 :: v215 :: v216 :: v217 :: v218 :: v219 :: v220 :: v221 :: v222 :: v223 :: v224 :: v225 :: v226 :: v227 :: v228 :: v229 :: v230 :: v231 :: v232 :: v233 :: v234 :: v235 :: v236 :: v237 :: v238 :: v239 :: v240 :: v241 :: v242 :: v243 :: v244 :: v245 :: v246 :: v247 :: v248 :: v249 :: v250 :: v251 :: v252 :: v253 :: v254 :: v255 :: v256 :: v257 :: v258 :: v259 :: v260 :: v261 :: v262 :: v263 :: v264 :: v265 :: v266 :: v267 :: v268 :: v269 :: []),[]⟩ w')
  : Code.wp Tryz.prog (loopAt Tryz.f99 0) Q0 ⟨List.toArray (v0 :: v1 :: .int .i64 p :: .bool cp :: .slice PA pn pc :: v5 :: v6 :: v7 :: v8 :: v9 :: v10 :: .pointer (some ⟨gG,0,none⟩) :: .pointer (some ⟨gR,0,none⟩) :: v13 :: .pointer (some ⟨gM,0,none⟩) :: .slice IA0 0 ic0 :: .int .i64 0 :: .int .i64 0 :: v18 :: v19 :: v20 :: v21 :: v22 :: v23 :: v24 :: v25 :: v26 :: v27 :: v28 :: v29 :: v30 :: v31 :: v32 :: v33 :: v34 :: v35 :: v36 :: v37 :: v38 :: v39 :: v40 :: v41 :: v42 :: v43 :: v44 :: v45 :: v46 :: v47 :: v48 :: v49 :: v50 :: v51 :: v52 :: v53 :: v54 :: v55 :: v56 :: v57 :: v58 :: v59 :: v60 :: v61 :: v62 :: v63 :: v64 :: v65 :: v66 :: v67 :: v68 :: v69 :: v70 :: v71 :: v72 :: v73 :: v74 :: v75 :: v76 :: v77 :: v78 :: v79 :: v80 :: v81 :: v82 :: v83 :: v84 :: v85 :: v86 :: v87 :: v88 :: v89 :: v90 :: v91 :: v92 :: v93 :: v94 :: v95 :: v96 :: v97 :: v98 :: v99 :: v100 :: v101 :: v102 :: v103 :: v104 :: v105 :: v106 :: v107 :: v108 :: v109 :: v110 :: v111 :: v112 :: v113 :: v114 :: v115 :: v116 :: v117 :: v118 :: v119 :: v120 :: v121 :: v122 :: v123 :: v124 :: v125 :: v126 :: v127 :: v128 :: v129 :: v130 :: v131 :: v132 :: v133 :: v134 :: v135 :: v136 :: v137 :: v138 :: v139 :: v140 :: v141 :: v142 :: v143 :: v144 :: v145 :: v146 :: v147 :: v148 :: v149 :: v150 :: v151 :: v152 :: v153 :: v154 :: v155 :: v156 :: v157 :: v158 :: v159 :: v160 :: v161 :: v162 :: v163 :: v164 :: v165 :: v166 :: v167 :: v168 :: v169 :: v170 :: v171 :: v172 :: v173 :: v174 :: v175 :: v176 :: v177 :: v178 :: v179 :: v180 :: v181 :: v182 :: v183 :: v184 :: v185 :: v186 :: v187 :: v188 :: v189 :: v190 :: v191 :: v192 :: v193 :: v194 :: v195 :: v196 :: v197 :: v198 :: v199 :: v200 :: v201 :: v202 :: v203 :: v204 :: v205 :: v206 :: v207 :: v208 :: v209 :: v210 :: v211 :: v212 :: v213 :: v214 :: v215 :: v216 :: v217 :: v218 :: v219 :: v220 :: v221 :: v222 :: v223 :: v224 :: v225 :: v226 :: v227 :: v228 :: v229 :: v230 :: v231 :: v232 :: v233 :: v234 :: v235 :: v236 :: v237 :: v238 :: v239 :: v240 :: v241 :: v242 :: v243 :: v244 :: v245 :: v246 :: v247 :: v248 :: v249 :: v250 :: v251 :: v252 :: v253 :: v254 :: v255 :: v256 :: v257 :: v258 :: v259 :: v260 :: v261 :: v262 :: v263 :: v264 :: v265 :: v266 :: v267 :: v268 :: v269 :: []),[]⟩ w:=by
 have HL1:=Lib.hid hM.lens.1
 have HM:=Lib.hid hM
 have HPO:=Lib.hid hports
 have HPNN:=Lib.hid hpn
 have HS0:=Lib.hid S
 have HX:=Lib.hid hexit
 have HZ:=Lib.hid hret
 obtain ⟨tisg,tsg1,tsg2,tsg3,tsg4⟩:=info_parts sgQ_info
 have HIsg:=Lib.hid (And.intro tsg1 (And.intro tsg2 (And.intro tsg3 tsg4)))
 clear tsg1 tsg2 tsg3 tsg4
 clear hM hports hpn S hexit hret
 conv=>arg 2;whnf
 go_loopw [15,16,17] (fun u a i wr=>∃(k nx:Nat) (fl:List SgT) (pl:List Int) (FA IA:Option Addr) (fc ic:Nat),k≤sn∧i = .int .i64 (k:Int)∧a = .int .i64 (nx:Int)∧u = .slice IA k ic∧SgInv m.sigs p (!cp) ports fl0 (addSg p (!cp) ports m.sigs 0 fl0 []) k nx fl pl∧Sepa W wr (.blk gR #[.slice none 0 0,.slice none 0 0,.slice none 0 0,.slice none 0 0] 108 :: .blk gM #[.slice SA sn sc,.slice AA an ac,.slice JA jn jc,.slice MA mn mc] 108 :: .cel (celI pl) (.slice IA k ic) :: .blk gG #[.slice FA fl.length fc,.slice AV0 avn avc,.slice none 0 0,.slice MV0 mvn mvc] 108 :: sgP fl FA fc :: .cel (celI ports) (.slice PA pn pc) :: rs)) (fun _ _ i _=>sn - (intOf i).toNat)
 case atStart=>exact ⟨0,0,fl0,[],_,_,_,_,by omega,rfl,rfl,rfl,SgInv.start _ _ _ _ _,HS0.out⟩
 case round =>
  obtain ⟨k,nx,fl,pl,FA,IA,fc,ic,hk,rfl,rfl,rfl,hv,hs⟩:=hrel
  have HS:=Lib.hid hs
  have HV:=Lib.hid hv
  clear hs hv
  have x0:=cell_heap (k:=0) (HS.out.blk 1 rfl).1 rfl
  have lx:=heap_lt0 (HS.out.blk 1 rfl).1
  by_cases hlt:k<sn
  ·have hdk:decide ((k:Int)<(sn:Int))=true:=by simp;omega
   have i0:(0:Int)≤(k:Int):=by omega
   have i1:(k:Int)<(sn:Int):=by omega
   have hkl:k<m.sigs.length:=by rw [HL1.out];exact hlt
   obtain ⟨bs,os,hSA,hbs,c0,c1,c2⟩:=HM.out.sg.sgE (k:=k) hkl
   subst hSA
   rw [←HS.out.bel.cell (p:=⟨bs,os+k * 3,none⟩) hbs] at c0
   rw [←HS.out.bel.cell (p:=⟨bs,os+k * 3+1,none⟩) hbs] at c1
   rw [←HS.out.bel.cell (p:=⟨bs,os+k * 3+2,none⟩) hbs] at c2
   have lbs:=below_lt HS.out.bel hbs
   have HLEN:=Lib.hid HV.out.len
   have HNT:=Lib.hid HV.out.nxt
   have hfl2:=HV.out.up
   have HPLT:=Lib.hid (fun hp=>port_lt (sg:=m.sigs) (k:=k) (n:=sn) hlt hp)
   have HOWN:=Lib.hid (fun hp=>HV.out.own hkl hp)
   have HPRT:=Lib.hid (fun ht hp hw hin=>HV.out.port hkl ht hp hw hin)
   have HBAD:=Lib.hid (fun ht hp hw=>HV.out.bad hkl ht hp hw)
   have HPIN:=Lib.hid (HPO.out.mono HV.out.low)
   change wr.cell? ⟨bs,os+k * 3,none⟩=some (.int .i64 (sgK m.sigs k).kind) at c0
   change wr.cell? ⟨bs,os+k * 3+1,none⟩=some (.int .i64 (sgK m.sigs k).width) at c1
   change wr.cell? ⟨bs,os+k * 3+2,none⟩=some (.int .i64 (sgK m.sigs k).init) at c2
   generalize sgK m.sigs k=q at *
   obtain ⟨kd,wd,it⟩:=q
   simp only at c0 c1 c2
   have HS5:=Lib.hid (HS.out.consBlkQ #[.int .i64 kd,.int .i64 wd,.int .i64 it] 155)
   clear hkl hbs
   go_upto_region 8 with fail
   obtain ⟨gY,hgY⟩:∃g,wr.heap.size=g:=⟨_,rfl⟩
   rw [hgY] at HS5
   (try rw [hgY])
   generalize wr.alloc (.cells #[.int .i64 kd,.int .i64 wd,.int .i64 it] 155)=W5 at *
   clear c0 c1 c2 lbs hgY HS x0 lx
   have y1:=cell_heap (k:=1) (HS5.out.blk 0 rfl).1 rfl
   have ly:=heap_lt0 (HS5.out.blk 0 rfl).1
   go_upto_if 52 with fail
   go_cut [] from 38 to 99 (fun w'=>Sepa W w' (.blk gY #[.int .i64 kd,.int .i64 (wid ⟨kd,wd,it⟩ p),.int .i64 it] 155 :: .blk gR #[.slice none 0 0,.slice none 0 0,.slice none 0 0,.slice none 0 0] 108 :: .blk gM #[.slice (some ⟨bs,os,none⟩) sn sc,.slice AA an ac,.slice JA jn jc,.slice MA mn mc] 108 :: .cel (celI pl) (.slice IA k ic) :: .blk gG #[.slice FA fl.length fc,.slice AV0 avn avc,.slice none 0 0,.slice MV0 mvn mvc] 108 :: sgP fl FA fc :: .cel (celI ports) (.slice PA pn pc) :: rs))
   case first =>
    by_cases h0:wd=0
    ·have d0:(wd==0)=true:=by simp [h0]
     have f0:=fun k=>frozen_heap (HS5.out.blk 0 rfl).1 k
     have HP:=Lib.hid (HS5.out.put 0 rfl 1 (.int .i64 p))
     have HE:Hid ((wid ⟨kd,wd,it⟩ p)=p):=by show _=_;unfold wid;rw [if_pos h0]
     clear h0
     go_upto_region 10 with fail
     go_meet
     first|(refine ⟨?_,rfl⟩;rw [HE.out];exact HP.out)|(rw [HE.out];exact HP.out)
    ·have d0:(wd==0)=false:=by simp [h0]
     have HE:Hid ((wid ⟨kd,wd,it⟩ p)=wd):=by show _=_;unfold wid;rw [if_neg h0]
     clear h0
     go_upto_region 10 with fail
     go_meet
     first|(refine ⟨?_,rfl⟩;rw [HE.out];exact HS5.out)|(rw [HE.out];exact HS5.out)
   have HS6:=Lib.hid hcut
   clear hcut y1 ly HS5
   obtain ⟨W6,rfl⟩:∃y,y=wc:=⟨wc,rfl⟩
   generalize (wid ⟨kd,wd,it⟩ p)=wv at *
   go_upto_region 10 with fail
   have y0:=cell_heap (k:=0) (HS6.out.blk 0 rfl).1 rfl
   have ly:=heap_lt0 (HS6.out.blk 0 rfl).1
   go_cut [65] from 38 to 99 (fun v w'=>v = .bool (cp && isPort ⟨kd,wd,it⟩)∧W6=w')
   case first =>
    cases cp
    ·clear HPRT HBAD HOWN
     go_wp2_with fail
     go_meet
     first|exact ⟨⟨rfl,rfl⟩,rfl⟩|exact ⟨rfl,rfl⟩
    ·by_cases h0:kd=0
     ·have d0:(kd==0)=true:=by simp [h0]
      have hip:isPort ⟨kd,wd,it⟩=true:=isPort_iff.2 (.inl h0)
      clear HPRT HBAD HOWN h0
      go_wp2_with fail
      go_meet
      first|exact ⟨⟨by rw [hip];rfl,rfl⟩,rfl⟩|exact ⟨by rw [hip];rfl,rfl⟩
     ·have d0:(kd==0)=false:=by simp [h0]
      by_cases h1:kd=1
      ·have d1:(kd==1)=true:=by simp [h1]
       have hip:isPort ⟨kd,wd,it⟩=true:=isPort_iff.2 (.inr h1)
       clear HPRT HBAD HOWN h0 h1
       go_wp2_with fail
       go_meet
       first|exact ⟨⟨by rw [hip];rfl,rfl⟩,rfl⟩|exact ⟨by rw [hip];rfl,rfl⟩
      ·have d1:(kd==1)=false:=by simp [h1]
       have hip:isPort ⟨kd,wd,it⟩=false:=Bool.eq_false_iff.2 fun h=>(isPort_iff.1 h).elim h0 h1
       clear HPRT HBAD HOWN h0 h1
       go_wp2_with fail
       go_meet
       first|exact ⟨⟨by rw [hip];rfl,rfl⟩,rfl⟩|exact ⟨by rw [hip];rfl,rfl⟩
   obtain ⟨rfl,rfl⟩:=hcut
   clear y0 ly
   cases hb:(cp && isPort ⟨kd,wd,it⟩)
   ·have HNX:=Lib.hid (HOWN.out (by rintro ⟨h1,h2⟩;rw [h2] at hb;cases cp <;> simp_all))
    clear HPRT HBAD HOWN hb
    have b0:=cell_heap (k:=0) (HS6.out.blk 4 rfl).1 rfl
    have lb:=heap_lt0 (HS6.out.blk 4 rfl).1
    go_upto_region 16 with (at_builtin;refine wpList_sepPush rfl _ _ rfl _ (HS6.out.alloc _) 3 IA k ic pl (fl.length:Int) _ (0,0) rfl rfl rfl (heap_new _ _) (by omega) ?_;intro g7 cap7 w7 S7 hz7;have HS7:=Lib.hid S7;clear S7 hz7)
    clear b0 lb HS6
    have y0:=cell_heap (k:=0) (HS7.out.blk 0 rfl).1 rfl
    have y1:=cell_heap (k:=1) (HS7.out.blk 0 rfl).1 rfl
    have y2:=cell_heap (k:=2) (HS7.out.blk 0 rfl).1 rfl
    have ly:=heap_lt0 (HS7.out.blk 0 rfl).1
    have b0:=cell_heap (k:=0) (HS7.out.blk 4 rfl).1 rfl
    have lb:=heap_lt0 (HS7.out.blk 4 rfl).1
    go_upto_region 6 with (at_builtin;refine wpList_sepPushG rfl _ _ 103 155 (by rfl) tisg _ 3 24 Tryz.underlying103 HIsg.out.1 HIsg.out.2.1 HIsg.out.2.2.1 HIsg.out.2.2.2 rfl (by decide) (by decide) _ ((HS7.out.alloc _).consSg kd wv it) 6 0 (by decide) fl.length fc _ FA (fl.flatMap SgT.cells) _ #[.int .i64 kd,.int .i64 wv,.int .i64 it] _ rfl rfl (by rfl) (by rfl) (heap_new _ _) rfl (by omega) ?_;intro g8 cap w9 S9 hz9;have HS9:=Lib.hid S9.tail;clear S9 hz9;have c8:=cell_heap (k:=0) (HS9.out.blk 4 rfl).1 rfl;have f8:=frozen_heap (HS9.out.blk 4 rfl).1 0;have q8:=heap_lt0 (HS9.out.blk 4 rfl).1)
    have HP:Hid (Sepa W (w9.setCell ⟨gG,0,none⟩ (.slice (some ⟨g8,0,none⟩) (fl.length+1) cap)) (.blk gR #[.slice none 0 0,.slice none 0 0,.slice none 0 0,.slice none 0 0] 108 :: .blk gM #[.slice (some ⟨bs,os,none⟩) sn sc,.slice AA an ac,.slice JA jn jc,.slice MA mn mc] 108 :: .cel (celI (pl++[(fl.length:Int)])) (.slice (some ⟨g7,0,none⟩) (k+1) cap7) :: .blk gG #[.slice (some ⟨g8,0,none⟩) (fl++[(⟨kd,wv,it⟩:SgT)]).length cap,.slice AV0 avn avc,.slice none 0 0,.slice MV0 mvn mvc] 108 :: sgP (fl++[(⟨kd,wv,it⟩:SgT)]) (some ⟨g8,0,none⟩) cap :: .cel (celI ports) (.slice PA pn pc) :: rs)):=by
     have h:=(HS9.out.put 4 rfl 0 (.slice (some ⟨g8,0,none⟩) (fl.length+1) cap)).tail
     show Sepa _ _ _
     rw [sgP_push,show (fl++[(⟨kd,wv,it⟩:SgT)]).length=fl.length+1 from by simp]
     exact h
    go_wp2_with fail
    go_roundw
    case rel=>exact ⟨k+1,nx,_,_,_,_,_,_,by omega,by go_num,rfl,rfl,HNX.out,HP.out⟩
    case measure=>simp [intOf];omega
   ·have hcp:cp=true:=by cases cp <;> simp_all
    have hpt:isPort ⟨kd,wd,it⟩=true:=by cases cp <;> simp_all
    have htp:(!cp)=false:=by rw [hcp];rfl
    have HN2:Hid (nx=(portsTo m.sigs k).length):=by show _=_;rw [HNT.out,htp];rfl
    have hnb:nx≤k:=by rw [HN2.out];exact portsTo_len _ _
    have hn2:=HPLT.out hpt
    rw [←HN2.out,←HPNN.out hcp] at hn2
    have HPR2:=Lib.hid (fun hw hin=>HPRT.out htp hpt hw hin)
    have HBA2:=Lib.hid (fun hw=>HBAD.out htp hpt hw)
    have hxi:=HPIN.out.at_ hn2
    have HPI:=Lib.hid (HS6.out.ints 6 rfl)
    have HPL:=Lib.hid HPI.out.1
    obtain ⟨bp,op,hPA,hbp,hcp2⟩:=HPI.out.2 (by have:=HPL.out;omega)
    have cp2:=hcp2 nx (by have:=HPL.out;omega)
    generalize ports[nx]?.getD 0=x at *
    obtain ⟨X,rfl⟩:∃X:Nat,x=(X:Int):=⟨x.toNat,by omega⟩
    subst hPA
    have lbp:bp<W6.heap.size:=hbp
    have n0:(0:Int)≤(nx:Int):=by omega
    have n1:(nx:Int)<(pn:Int):=by have:=HPL.out;omega
    clear HPRT HBAD HOWN hb hcp2 hbp hcp htp hpt
    have HRS:=Lib.hid (HS6.out.rd 5 rfl)
    obtain ⟨b2,o2,hFA,hb2,-,z1,-⟩:=HRS.out.sgE (k:=X) (by omega)
    change W6.cell? ⟨b2,o2+X * 3+1,none⟩=some (.int .i64 (sgK fl X).width) at z1
    rw [show ((X:Int)).toNat=X from Int.toNat_natCast X] at HPR2 HBA2
    generalize (sgK fl X).width=wf at *
    have lb2:b2<W6.heap.size:=hb2
    subst hFA
    have X0:(0:Int)≤(X:Int):=by omega
    have X1:(X:Int)<(fl.length:Int):=by omega
    clear hb2 HRS
    have b0:=cell_heap (k:=0) (HS6.out.blk 4 rfl).1 rfl
    have lb:=heap_lt0 (HS6.out.blk 4 rfl).1
    have y1:=cell_heap (k:=1) (HS6.out.blk 0 rfl).1 rfl
    have ly:=heap_lt0 (HS6.out.blk 0 rfl).1
    go_upto_region 11 with fail
    by_cases hw:wf=wv
    ·have dw:(wf != wv)=false:=by simp [hw]
     have HNX:=Lib.hid (HPR2.out hw hxi)
     clear hw HPR2 HBA2
     have hsub:=sub_ne W6
     have hsc:=sub_cell W6
     refine wp_region_below W6 (by kernel_rfl) (by kernel_rfl) (Below.refl _ _) ?_
     repeat (go_big_quiet_step (fail))
     refine wpQuiet_nil ?_
     rintro wq ⟨⟨w5,hD⟩,hw⟩
     replace hw:wq=w5:=hw
     subst hw
     clear hsub hsc
     have HS7:=Lib.hid (HS6.out.below hD)
     have cp3:=(hD.cell lbp).trans cp2
     have lbp3:=below_lt hD lbp
     clear hD b0 lb y1 ly z1 lb2 HS6
     go_upto_region 14 with (at_builtin;refine wpList_sepPush rfl _ _ rfl _ (HS7.out.alloc _) 3 IA k ic pl (X:Int) _ (0,0) rfl rfl rfl (heap_new _ _) (by omega) ?_;intro g7 cap7 w7 S7 hz7;have HS8:=Lib.hid S7.tail;clear S7 hz7)
     go_wp2_with fail
     go_roundw
     case rel=>exact ⟨k+1,nx+1,_,_,_,_,_,_,by omega,by go_num,by go_num,rfl,HNX.out,HS8.out⟩
     case measure=>simp [intOf];omega
    ·have dw:(wf != wv)=true:=by simp [hw]
     have HNX:=Lib.hid (HBA2.out hw)
     clear hw HPR2 HBA2
     have hsub:=sub_ne W6
     have hsc:=sub_cell W6
     refine wp_region_below W6 (by kernel_rfl) (by kernel_rfl) (Below.refl _ _) ?_
     repeat (go_big_quiet_step (fail))
     refine wpQuiet_nil ?_
     rintro wq ⟨⟨w5,hD⟩,hw⟩
     replace hw:wq=w5:=hw
     subst hw
     clear hsub hsc
     have HS7:=Lib.hid (HS6.out.below hD)
     clear hD b0 lb y1 ly z1 lb2 HS6
     have bb0:=cell_heap (k:=0) (HS7.out.blk 4 rfl).1 rfl
     have bb1:=cell_heap (k:=1) (HS7.out.blk 4 rfl).1 rfl
     have bb2:=cell_heap (k:=2) (HS7.out.blk 4 rfl).1 rfl
     have bb3:=cell_heap (k:=3) (HS7.out.blk 4 rfl).1 rfl
     have lb:=heap_lt0 (HS7.out.blk 4 rfl).1
     have e0:=cell_heap (k:=0) (HS7.out.blk 1 rfl).1 rfl
     have e1:=cell_heap (k:=1) (HS7.out.blk 1 rfl).1 rfl
     have e2:=cell_heap (k:=2) (HS7.out.blk 1 rfl).1 rfl
     have e3:=cell_heap (k:=3) (HS7.out.blk 1 rfl).1 rfl
     have ef:=fun k=>frozen_heap (HS7.out.blk 1 rfl).1 k
     have le:=heap_lt0 (HS7.out.blk 1 rfl).1
     have HP:=Lib.hid ((((HS7.out.put 1 rfl 0 (.slice (some ⟨b2,o2,none⟩) fl.length fc)).put 1 rfl 1 (.slice AV0 avn avc)).put 1 rfl 2 (.slice none 0 0)).put 1 rfl 3 (.slice MV0 mvn mvc))
     go_wp2_with fail
     apply HZ.out
     exact ⟨HNX.out,HP.out.sub (qs:=_ :: rs) (.cons _ (.cons_cons _ (.cons _ (.cons _ (.cons _ (.cons _ (.cons _ (List.Sublist.refl _))))))))⟩
  ·have hkn:k=sn:=by omega
   have hdk:decide ((k:Int)<(sn:Int))=false:=by simp;omega
   have hu:=HV.out.up
   have HD:=Lib.hid (HV.out.done (by rw [HL1.out];exact hkn))
   have HE:Hid (pl.length=sn∧PlIn pl fl.length∧fl0.length≤fl.length∧fl.length≤60):=⟨by rw [HV.out.len];exact hkn,HV.out.ok,HV.out.low,by omega⟩
   clear hlt hu
   subst k
   go_wp2_with fail
   apply HX.out
   exact ⟨HD.out,HE.out.1,HE.out.2.1,HE.out.2.2.1,HE.out.2.2.2,HS.out⟩
end Go.Proofs.YtlinbdkbbhpdpaaGreat
