/- The signals of a module are added to a flat one, in the program (printed by mkad1.py). -/
import Derived.Test.YtlinbdkbbhpdpaaGreatHeldT
import Derived.Test.YtlinbdkbbhpdpaaGreatSrO
import Derived.Test.YtlinbdkbbhpdpaaGreatSrZ
namespace Go.Proofs.YtlinbdkbbhpdpaaGreat
set_option maxRecDepth 100000
open Go.RowKit

set_option maxRecDepth 100000 in
set_option maxHeartbeats 8000000 in
theorem add_lp1 (W:World) (m:MdT) (SA AA JA MA:Option Addr) (sn sc an ac jn jc mn mc:Nat) (gF gM:Nat) (p:Int) (top:Bool) (ports:List Int) (PA LA PLA FA0:Option Addr) (pn pc ln lc plc fc0:Nat) (fl0:List SgT) (DV AV MV:Value) (rs:List Pc) {v1 v5 v6 v7 v8 v9 v10 v15 v16 v17 v18 v19 v20 v21 v22 v23 v24 v25 v26 v27 v28 v29 v30 v31 v32 v33 v34 v35 v36 v37 v38 v39 v40 v41 v42 v43 v44 v45 v49 v50 v51 v52 v53 v54 v55 v56 v57 v58 v59 v60 v61 v62 v63 v64 v65 v66 v67 v68 v69 v70 v71 v72 v73 v74 v75 v76 v77 v78 v79 v80 v81 v82 v83 v84 v85 v86 v87 v88 v89 v90 v91 v92 v93 v94 v95 v96 v97 v98 v99 v100 v101 v102 v103 v104 v105 v106 v107 v108 v109 v110 v111 v112 v113 v114 v115 v116 v117 v118 v119 v120 v121 v122 v123 v124 v125 v126 v127 v128 v129 v130 v131 v132 v133 v134 v135 v136 v137 v138 v139 v140 v141 v142 v143 v144 v145 v146 v147 v148 v149 v150 v151 v152 v153 v154 v155 v156 v157 v158 v159 v160 v161 v162 v163 v164 v165 v166 v167 v168 v169 v170 v171 v172 v173 v174 v175 v176 v177 v178 v179 v180 v181 v182 v183 v184 v185 v186 v187 v188 v189 v190 v191 v192 v193 v194 v195 v196 v197 v198 v199 v200 v201 v202 v203 v204 v205 v206 v207 v208 v209 v210 v211 v212 v213 v214 v215 v216 v217 v218 v219 v220 v221 v222 v223 v224 v225 v226 v227 v228 v229 v230 v231 v232 v233 v234 v235 v236 v237 v238 v239 v240 v241 v242 v243 v244 v245 v246 v247 v248 v249 v250 v251 v252 v253 v254 v255 v256 v257 v258 v259 v260 v261 v262 v263 v264 v265 v266 v267 v268 v269 v270 v271 v272 v273 v274 v275 v276 v277 v278:Value} {Q0:Exit→Act→World→Prop} (w:World) (hM:MdRd W m SA AA JA MA sn sc an ac jn jc mn mc) (hs30:sn≤30) (_hp1:1≤p) (_hp4:p≤4) (hports:PlIn ports fl0.length) (hpn:top=false→ports.length=(portsTo m.sigs sn).length) (hfl:fl0.length≤30) (S:Sepa W w (.blk gM #[.slice SA sn sc,.slice AA an ac,.slice JA jn jc,.slice MA mn mc] 108 :: .cel (celI (plR [] sn)) (.slice PLA sn plc) :: .cel (celI (portsTo m.sigs sn)) (.slice LA ln lc) :: .blk gF #[DV,.slice FA0 fl0.length fc0,AV,.slice none 0 0,MV] 165 :: sgP fl0 FA0 fc0 :: .cel (celI ports) (.slice PA pn pc) :: rs))
  (hexit:∀(fl:List SgT) (pl:List Int) (FA:Option Addr) (fc:Nat) (y10 y14 y15 y16 y17 y48 y49 y50 y51 y52 y53 y54 y55 y56 y57 y58 y59 y60 y61 y62 y63 y64 y65 y66 y67 y68 y69 y70 y71 y72 y73 y74 y75 y76 y77 y78 y79 y80 y81 y82 y83 y84 y85 y86 y87 y88 y89 y90 y91 y92 y93 y94 y95 y96 y97 y98 y99 y100 y101 y102 y103 y104 y105 y106 y107 y108 y109 y110 y111 y112 y113 y114 y115 y116 y117 y118 y119 y120 y121 y122 y123:Value) (w':World),(addSg p top ports m.sigs 0 fl0 []=some (fl,pl)∧pl.length=sn∧PlIn pl fl.length∧fl0.length≤fl.length∧fl.length≤60∧Sepa W w' (.blk gM #[.slice SA sn sc,.slice AA an ac,.slice JA jn jc,.slice MA mn mc] 108 :: .cel (celI (plR pl sn)) (.slice PLA sn plc) :: .cel (celI (portsTo m.sigs sn)) (.slice LA ln lc) :: .blk gF #[DV,.slice FA fl.length fc,AV,.slice none 0 0,MV] 165 :: sgP fl FA fc :: .cel (celI ports) (.slice PA pn pc) :: rs))→Q0 (.exit 0) ⟨List.toArray (.pointer (some ⟨gF,0,none⟩) :: v1 :: .int .i64 p :: .slice PA pn pc :: .bool top :: v5 :: v6 :: v7 :: v8 :: v9 :: y10 :: .pointer (some ⟨gM,0,none⟩) :: .slice PLA sn plc :: .slice LA ln lc :: y14 :: y15 :: y16 :: y17 :: v18 :: v19 :: v20 :: v21 :: v22 :: v23 :: v24 :: v25 :: v26 :: v27 :: v28 :: v29 :: v30 :: v31 :: v32 :: v33 :: v34 :: v35 :: v36 :: v37 :: v38 :: v39 :: v40 :: v41 :: v42 :: v43 :: v44 :: v45 :: .slice SA sn sc :: .int .i64 (sn:Int) :: y48 :: y49 :: y50 :: y51 :: y52 :: y53 :: y54 :: y55 :: y56 :: y57 :: y58 :: y59 :: y60 :: y61 :: y62 :: y63 :: y64 :: y65 :: y66 :: y67 :: y68 :: y69 :: y70 :: y71 :: y72 :: y73 :: y74 :: y75 :: y76 :: y77 :: y78 :: y79 :: y80 :: y81 :: y82 :: y83 :: y84 :: y85 :: y86 :: y87 :: y88 :: y89 :: y90 :: y91 :: y92 :: y93 :: y94 :: y95 :: y96 :: y97 :: y98 :: y99 :: y100 :: y101 :: y102 :: y103 :: y104 :: y105 :: y106 :: y107 :: y108 :: y109 :: y110 :: y111 :: y112 :: y113 :: y114 :: y115 :: y116 :: y117 :: y118 :: y119 :: y120 :: y121 :: y122 :: y123 :: v124 :: v125 :: v126 :: v127 :: v128 :: v129 :: v130 :: v131 :: v132 :: v133 :: v134 :: v135 :: v136 :: v137 :: v138 :: v139 :: v140 :: v141 :: v142 :: v143 :: v144 :: v145 :: v146 :: v147 :: v148 :: v149 :: v150 :: v151 :: v152 :: v153 :: v154 :: v155 :: v156 :: v157 :: v158 :: v159 :: v160 :: v161 :: v162 :: v163 :: v164 :: v165 :: v166 :: v167 :: v168 :: v169 :: v170 :: v171 :: v172 :: v173 :: v174 :: v175 :: v176 :: v177 :: v178 :: v179 :: v180 :: v181 :: v182 :: v183 :: v184 :: v185 :: v186 :: v187 :: v188 :: v189 :: v190 :: v191 :: v192 :: v193 :: v194 :: v195 :: v196 :: v197 :: v198 :: v199 :: v200 :: v201 :: v202 :: v203 :: v204 :: v205 :: v206 :: v207 :: v208 :: v209 :: v210 :: v211 :: v212 :: v213 :: v214 :: v215 :: v216 :: v217 :: v218 :: v219 :: v220 :: v221 :: v222 :: v223 :: v224 :: v225 :: v226 :: v227 :: v228 :: v229 :: v230 :: v231 :: v232 :: v233 :: v234 :: v235 :: v236 :: v237 :: v238 :: v239 :: v240 :: v241 :: v242 :: v243 :: v244 :: v245 :: v246 :: v247 :: v248 :: v249 :: v250 :: v251 :: v252 :: v253 :: v254 :: v255 :: v256 :: v257 :: v258 :: v259 :: v260 :: v261 :: v262 :: v263 :: v264 :: v265 :: v266 :: v267 :: v268 :: v269 :: v270 :: v271 :: v272 :: v273 :: v274 :: v275 :: v276 :: v277 :: v278 :: []),[]⟩ w')
  (hret:∀(y14 y15 y16 y17 y48 y49 y50 y51 y52 y53 y54 y55 y56 y57 y58 y59 y60 y61 y62 y63 y64 y65 y66 y67 y68 y69 y70 y71 y72 y73 y74 y75 y76 y77 y78 y79 y80 y81 y82 y83 y84 y85 y86 y87 y88 y89 y90 y91 y92 y93 y94 y95 y96 y97 y98 y99 y100 y101 y102 y103 y104 y105 y106 y107 y108 y109 y110 y111 y112 y113 y114 y115 y116 y117 y118 y119 y120 y121 y122 y123:Value) (w':World),(addSg p top ports m.sigs 0 fl0 []=none∧Sepa W w' rs)→Q0 .ret ⟨List.toArray (.pointer (some ⟨gF,0,none⟩) :: v1 :: .int .i64 p :: .slice PA pn pc :: .bool top :: v5 :: v6 :: v7 :: v8 :: v9 :: .bool false :: .pointer (some ⟨gM,0,none⟩) :: .slice PLA sn plc :: .slice LA ln lc :: y14 :: y15 :: y16 :: y17 :: v18 :: v19 :: v20 :: v21 :: v22 :: v23 :: v24 :: v25 :: v26 :: v27 :: v28 :: v29 :: v30 :: v31 :: v32 :: v33 :: v34 :: v35 :: v36 :: v37 :: v38 :: v39 :: v40 :: v41 :: v42 :: v43 :: v44 :: v45 :: .slice SA sn sc :: .int .i64 (sn:Int) :: y48 :: y49 :: y50 :: y51 :: y52 :: y53 :: y54 :: y55 :: y56 :: y57 :: y58 :: y59 :: y60 :: y61 :: y62 :: y63 :: y64 :: y65 :: y66 :: y67 :: y68 :: y69 :: y70 :: y71 :: y72 :: y73 :: y74 :: y75 :: y76 :: y77 :: y78 :: y79 :: y80 :: y81 :: y82 :: y83 :: y84 :: y85 :: y86 :: y87 :: y88 :: y89 :: y90 :: y91 :: y92 :: y93 :: y94 :: y95 :: y96 :: y97 :: y98 :: y99 :: y100 :: y101 :: y102 :: y103 :: y104 :: y105 :: y106 :: y107 :: y108 :: y109 :: y110 :: y111 :: y112 :: y113 :: y114 :: y115 :: y116 :: y117 :: y118 :: y119 :: y120 :: y121 :: y122 :: y123 :: v124 :: v125 :: v126 :: v127 :: v128 :: v129 :: v130 :: v131 :: v132 :: v133 :: v134 :: v135 :: v136 :: v137 :: v138 :: v139 :: v140 :: v141 :: v142 :: v143 :: v144 :: v145 :: v146 :: v147 :: v148 :: v149 :: v150 :: v151 :: v152 :: v153 :: v154 :: v155 :: v156 :: v157 :: v158 :: v159 :: v160 :: v161 :: v162 :: v163 :: v164 :: v165 :: v166 :: v167 :: v168 :: v169 :: v170 :: v171 :: v172 :: v173 :: v174 :: v175 :: v176 :: v177 :: v178 :: v179 :: v180 :: v181 :: v182 :: v183 :: v184 :: v185 :: v186 :: v187 :: v188 :: v189 :: v190 :: v191 :: v192 :: v193 :: v194 :: v195 :: v196 :: v197 :: v198 :: v199 :: v200 :: v201 :: v202 :: v203 :: v204 :: v205 :: v206 :: v207 :: v208 :: v209 :: v210 :: v211 :: v212 :: v213 :: v214 :: v215 :: v216 :: v217 :: v218 :: v219 :: v220 :: v221 :: v222 :: v223 :: v224 :: v225 :: v226 :: v227 :: v228 :: v229 :: v230 :: v231 :: v232 :: v233 :: v234 :: v235 :: v236 :: v237 :: v238 :: v239 :: v240 :: v241 :: v242 :: v243 :: v244 :: v245 :: v246 :: v247 :: v248 :: v249 :: v250 :: v251 :: v252 :: v253 :: v254 :: v255 :: v256 :: v257 :: v258 :: v259 :: v260 :: v261 :: v262 :: v263 :: v264 :: v265 :: v266 :: v267 :: v268 :: v269 :: v270 :: v271 :: v272 :: v273 :: v274 :: v275 :: v276 :: v277 :: v278 :: []),[]⟩ w')
  : Code.wp Tryz.prog (loopAt Tryz.f107 0) Q0 ⟨List.toArray (.pointer (some ⟨gF,0,none⟩) :: v1 :: .int .i64 p :: .slice PA pn pc :: .bool top :: v5 :: v6 :: v7 :: v8 :: v9 :: v10 :: .pointer (some ⟨gM,0,none⟩) :: .slice PLA sn plc :: .slice LA ln lc :: .int .i64 0 :: v15 :: v16 :: v17 :: v18 :: v19 :: v20 :: v21 :: v22 :: v23 :: v24 :: v25 :: v26 :: v27 :: v28 :: v29 :: v30 :: v31 :: v32 :: v33 :: v34 :: v35 :: v36 :: v37 :: v38 :: v39 :: v40 :: v41 :: v42 :: v43 :: v44 :: v45 :: .slice SA sn sc :: .int .i64 (sn:Int) :: .int .i64 0 :: v49 :: v50 :: v51 :: v52 :: v53 :: v54 :: v55 :: v56 :: v57 :: v58 :: v59 :: v60 :: v61 :: v62 :: v63 :: v64 :: v65 :: v66 :: v67 :: v68 :: v69 :: v70 :: v71 :: v72 :: v73 :: v74 :: v75 :: v76 :: v77 :: v78 :: v79 :: v80 :: v81 :: v82 :: v83 :: v84 :: v85 :: v86 :: v87 :: v88 :: v89 :: v90 :: v91 :: v92 :: v93 :: v94 :: v95 :: v96 :: v97 :: v98 :: v99 :: v100 :: v101 :: v102 :: v103 :: v104 :: v105 :: v106 :: v107 :: v108 :: v109 :: v110 :: v111 :: v112 :: v113 :: v114 :: v115 :: v116 :: v117 :: v118 :: v119 :: v120 :: v121 :: v122 :: v123 :: v124 :: v125 :: v126 :: v127 :: v128 :: v129 :: v130 :: v131 :: v132 :: v133 :: v134 :: v135 :: v136 :: v137 :: v138 :: v139 :: v140 :: v141 :: v142 :: v143 :: v144 :: v145 :: v146 :: v147 :: v148 :: v149 :: v150 :: v151 :: v152 :: v153 :: v154 :: v155 :: v156 :: v157 :: v158 :: v159 :: v160 :: v161 :: v162 :: v163 :: v164 :: v165 :: v166 :: v167 :: v168 :: v169 :: v170 :: v171 :: v172 :: v173 :: v174 :: v175 :: v176 :: v177 :: v178 :: v179 :: v180 :: v181 :: v182 :: v183 :: v184 :: v185 :: v186 :: v187 :: v188 :: v189 :: v190 :: v191 :: v192 :: v193 :: v194 :: v195 :: v196 :: v197 :: v198 :: v199 :: v200 :: v201 :: v202 :: v203 :: v204 :: v205 :: v206 :: v207 :: v208 :: v209 :: v210 :: v211 :: v212 :: v213 :: v214 :: v215 :: v216 :: v217 :: v218 :: v219 :: v220 :: v221 :: v222 :: v223 :: v224 :: v225 :: v226 :: v227 :: v228 :: v229 :: v230 :: v231 :: v232 :: v233 :: v234 :: v235 :: v236 :: v237 :: v238 :: v239 :: v240 :: v241 :: v242 :: v243 :: v244 :: v245 :: v246 :: v247 :: v248 :: v249 :: v250 :: v251 :: v252 :: v253 :: v254 :: v255 :: v256 :: v257 :: v258 :: v259 :: v260 :: v261 :: v262 :: v263 :: v264 :: v265 :: v266 :: v267 :: v268 :: v269 :: v270 :: v271 :: v272 :: v273 :: v274 :: v275 :: v276 :: v277 :: v278 :: []),[]⟩ w:=by
 have HL1:=Lib.hid hM.lens.1
 have HM:=Lib.hid hM
 have HPO:=Lib.hid hports
 have HPNN:=Lib.hid hpn
 have HS0:=Lib.hid S
 have HX:=Lib.hid hexit
 have HZ:=Lib.hid hret
 obtain ⟨tisg,tsg1,tsg2,tsg3,tsg4⟩:=info_parts sgQ_info
 have HIsg:=Lib.hid (And.intro tsg1 (And.intro tsg2 (And.intro tsg3 tsg4)))
 clear tsg1 tsg2 tsg3 tsg4
 clear hM hports hpn S hexit hret
 conv=>arg 2;whnf
 go_loopw [14,48] (fun a i wr=>∃(k nx:Nat) (fl:List SgT) (pl:List Int) (FA:Option Addr) (fc:Nat),k≤sn∧i = .int .i64 (k:Int)∧a = .int .i64 (nx:Int)∧SgInv m.sigs p top ports fl0 (addSg p top ports m.sigs 0 fl0 []) k nx fl pl∧Sepa W wr (.blk gM #[.slice SA sn sc,.slice AA an ac,.slice JA jn jc,.slice MA mn mc] 108 :: .cel (celI (plR pl sn)) (.slice PLA sn plc) :: .cel (celI (portsTo m.sigs sn)) (.slice LA ln lc) :: .blk gF #[DV,.slice FA fl.length fc,AV,.slice none 0 0,MV] 165 :: sgP fl FA fc :: .cel (celI ports) (.slice PA pn pc) :: rs)) (fun _ i _=>sn - (intOf i).toNat)
 case atStart=>exact ⟨0,0,fl0,[],_,_,by omega,rfl,rfl,SgInv.start _ _ _ _ _,HS0.out⟩
 case round =>
  obtain ⟨k,nx,fl,pl,FA,fc,hk,rfl,rfl,hv,hs⟩:=hrel
  have HS:=Lib.hid hs
  have HV:=Lib.hid hv
  clear hs hv
  by_cases hlt:k<sn
  ·have hdk:decide ((k:Int)<(sn:Int))=true:=by simp;omega
   have i0:(0:Int)≤(k:Int):=by omega
   have i1:(k:Int)<(sn:Int):=by omega
   have hkl:k<m.sigs.length:=by rw [HL1.out];exact hlt
   obtain ⟨bs,os,hSA,hbs,c0,c1,c2⟩:=HM.out.sg.sgE (k:=k) hkl
   subst hSA
   rw [←HS.out.bel.cell (p:=⟨bs,os+k * 3,none⟩) hbs] at c0
   rw [←HS.out.bel.cell (p:=⟨bs,os+k * 3+1,none⟩) hbs] at c1
   rw [←HS.out.bel.cell (p:=⟨bs,os+k * 3+2,none⟩) hbs] at c2
   have lbs:=below_lt HS.out.bel hbs
   have HLEN:=Lib.hid HV.out.len
   have HNT:=Lib.hid HV.out.nxt
   have hfl2:=HV.out.up
   have HPN:=Lib.hid (port_next (sg:=m.sigs) (k:=k) (n:=sn) hlt)
   have HOWN:=Lib.hid (fun hp=>HV.out.own hkl hp)
   have HPRT:=Lib.hid (fun ht hp hw hin=>HV.out.port hkl ht hp hw hin)
   have HBAD:=Lib.hid (fun ht hp hw=>HV.out.bad hkl ht hp hw)
   have HPIN:=Lib.hid (HPO.out.mono HV.out.low)
   change wr.cell? ⟨bs,os+k * 3,none⟩=some (.int .i64 (sgK m.sigs k).kind) at c0
   change wr.cell? ⟨bs,os+k * 3+1,none⟩=some (.int .i64 (sgK m.sigs k).width) at c1
   change wr.cell? ⟨bs,os+k * 3+2,none⟩=some (.int .i64 (sgK m.sigs k).init) at c2
   generalize sgK m.sigs k=q at *
   obtain ⟨kd,wd,it⟩:=q
   simp only at c0 c1 c2
   have HS5:=Lib.hid (HS.out.consBlkQ #[.int .i64 kd,.int .i64 wd,.int .i64 it] 155)
   clear hkl hbs
   go_upto_region 9 with fail
   obtain ⟨gY,hgY⟩:∃g,wr.heap.size=g:=⟨_,rfl⟩
   rw [hgY] at HS5
   (try rw [hgY])
   generalize wr.alloc (.cells #[.int .i64 kd,.int .i64 wd,.int .i64 it] 155)=W5 at *
   clear c0 c1 c2 lbs hgY HS
   go_upto_if 56 with fail
   go_cut [17] from 49 to 123 (fun v w'=>v = .int .i64 (wid ⟨kd,wd,it⟩ p)∧W5=w')
   case first =>
    by_cases h0:wd=0
    ·have d0:(wd==0)=true:=by simp [h0]
     go_upto_region 11 with fail
     go_meet
     exact ⟨by unfold wid;rw [if_pos h0],rfl⟩
    ·have d0:(wd==0)=false:=by simp [h0]
     go_upto_region 11 with fail
     go_meet
     exact ⟨by unfold wid;rw [if_neg h0],rfl⟩
   obtain ⟨rfl,rfl⟩:=hcut
   generalize wid ⟨kd,wd,it⟩ p=wv at *
   go_upto_region 11 with fail
   go_cut [73] from 49 to 123 (fun v w'=>v = .bool (!top && isPort ⟨kd,wd,it⟩)∧W5=w')
   case first =>
    have HLI:=Lib.hid (HS5.out.ints 3 rfl)
    cases top
    ·have HN2:Hid (nx=(portsTo m.sigs k).length):=HNT.out
     have HLN:=Lib.hid HLI.out.1
     by_cases hnl:nx<ln
     ·have d1:decide ((nx:Int)<(ln:Int))=true:=by simp;omega
      obtain ⟨bl,ol,hLA,hbl,hcl⟩:=HLI.out.2 (by omega)
      have cl:=hcl nx hnl
      have n0:(0:Int)≤(nx:Int):=by omega
      have n1:(nx:Int)<(ln:Int):=by omega
      by_cases hpt:isPort ⟨kd,wd,it⟩=true
      ·have h2:=(HPN.out.2 hpt).2
       rw [←HN2.out] at h2
       rw [h2] at cl
       have d2:((k:Int)==(k:Int))=true:=by simp
       subst hLA
       clear hcl h2 HPRT HBAD HOWN
       go_wp2_with fail
       go_meet
       first|exact ⟨⟨by rw [hpt];rfl,rfl⟩,rfl⟩|exact ⟨by rw [hpt];rfl,rfl⟩
      ·have h2:¬(portsTo m.sigs sn)[nx]?.getD 0=(k:Int):=fun h=>hpt (HPN.out.1 ⟨by rw [←HN2.out,HLN.out];exact hnl,by rw [←HN2.out];exact h⟩)
       generalize (portsTo m.sigs sn)[nx]?.getD 0=x at *
       have d2:(x==(k:Int))=false:=by simp [h2]
       subst hLA
       clear hcl h2 HPRT HBAD HOWN
       go_wp2_with fail
       go_meet
       first|exact ⟨⟨by rw [show isPort ⟨kd,wd,it⟩=false from by simpa using hpt];rfl,rfl⟩,rfl⟩|exact ⟨by rw [show isPort ⟨kd,wd,it⟩=false from by simpa using hpt];rfl,rfl⟩
     ·have d1:decide ((nx:Int)<(ln:Int))=false:=by simp;omega
      have hpt:isPort ⟨kd,wd,it⟩=false:=by
       rcases hx:isPort ⟨kd,wd,it⟩ with _|_
       ·rfl
       ·have h2:=(HPN.out.2 hx).1
        rw [←HN2.out,HLN.out] at h2
        omega
      clear HPRT HBAD HOWN
      go_wp2_with fail
      go_meet
      first|exact ⟨⟨by rw [hpt];rfl,rfl⟩,rfl⟩|exact ⟨by rw [hpt];rfl,rfl⟩
    ·clear HPRT HBAD HOWN
     go_wp2_with fail
     go_meet
     first|exact ⟨⟨rfl,rfl⟩,rfl⟩|exact ⟨rfl,rfl⟩
   obtain ⟨rfl,rfl⟩:=hcut
   cases hb:(!top && isPort ⟨kd,wd,it⟩)
   ·have HNX:=Lib.hid (HOWN.out (by rintro ⟨h1,h2⟩;rw [h1,h2] at hb;cases hb))
    clear HPRT HBAD HOWN hb
    obtain ⟨g9,hg7,_,q8,c8,f8,hu⟩:=HS5.out.setI 2 (i:=k) rfl (by omega)
    subst hg7
    have b1:=cell_heap (k:=1) (HS5.out.blk 4 rfl).1 rfl
    have lb:=heap_lt0 (HS5.out.blk 4 rfl).1
    go_upto_region 17 with fail
    have HS6:Hid (Sepa W (W5.setCell ⟨g9,k,none⟩ (.int .i64 (fl.length:Int))) (.blk gY #[.int .i64 kd,.int .i64 wd,.int .i64 it] 155 :: .blk gM #[.slice (some ⟨bs,os,none⟩) sn sc,.slice AA an ac,.slice JA jn jc,.slice MA mn mc] 108 :: .cel (celI (plR (pl++[(fl.length:Int)]) sn)) (.slice (some ⟨g9,0,none⟩) sn plc) :: .cel (celI (portsTo m.sigs sn)) (.slice LA ln lc) :: .blk gF #[DV,.slice FA fl.length fc,AV,.slice none 0 0,MV] 165 :: sgP fl FA fc :: .cel (celI ports) (.slice PA pn pc) :: rs)):=by have h:=hu (fl.length:Int);rw [←HLEN.out,plR_set (by have:=HLEN.out;omega)] at h;rw [←HLEN.out];exact h
    clear q8 c8 f8 hu b1 lb HS5
    generalize W5.setCell ⟨g9,k,none⟩ (.int .i64 (fl.length:Int))=W6 at *
    have y0:=cell_heap (k:=0) (HS6.out.blk 0 rfl).1 rfl
    have y2:=cell_heap (k:=2) (HS6.out.blk 0 rfl).1 rfl
    have ly:=heap_lt0 (HS6.out.blk 0 rfl).1
    have b1:=cell_heap (k:=1) (HS6.out.blk 4 rfl).1 rfl
    have lb:=heap_lt0 (HS6.out.blk 4 rfl).1
    have HT:=Lib.hid HS6.out.drew
    have HKP:Hid (∀(v:World) (ps:List Pc),Sepa W v ps→ps[0]?=some (.blk gY #[.int .i64 kd,.int .i64 wd,.int .i64 it] 155)→ps[4]?=some (.blk gF #[DV,.slice FA fl.length fc,AV,.slice none 0 0,MV] 165)→(v.cell? ⟨gF,1,none⟩=some (.slice FA fl.length fc)∧v.cell? ⟨gY,0,none⟩=some (.int .i64 kd)∧v.cell? ⟨gY,2,none⟩=some (.int .i64 it))):=fun v ps h h0 h4=>⟨cell_heap (k:=1) (h.blk 4 h4).1 rfl,cell_heap (k:=0) (h.blk 0 h0).1 rfl,cell_heap (k:=2) (h.blk 0 h0).1 rfl⟩
    refine wp_region_noPanic ?_
    refine wp_region_T 14 (fun w'=>w'.cell? ⟨gF,1,none⟩=some (.slice FA fl.length fc)∧w'.cell? ⟨gY,0,none⟩=some (.int .i64 kd)∧w'.cell? ⟨gY,2,none⟩=some (.int .i64 it)) (HKP.out _ _ HT.out rfl rfl) (fun hT hD=>?_)
    refine onT hT 0 opA hD ?_
    refine onT hT 1 (opB opA) hD ?_
    refine onT hT 2 (opB (opB opA)) hD ?_
    refine onT hT 3 (opB (opB (opB opA))) hD ?_
    refine onT hT 4 (opC opA) hD ?_
    refine onT hT 5 (opC (opB opA)) hD ?_
    refine onT hT 6 (opC (opB (opB opA))) hD ?_
    refine onT hT 7 (opC (opB (opB (opB opA)))) hD ?_
    refine onT hT 8 (opC (opC opA)) hD ?_
    refine onT hT 9 (opC (opC (opB opA))) hD ?_
    refine onT hT 10 (opC (opC (opB (opB opA)))) hD ?_
    refine onT hT 11 (opC (opC (opB (opB (opB opA))))) hD ?_
    have HA:=Lib.hid (HT.out.alloc (.cells #[.int .i64 kd,.int .i64 wv,.int .i64 it] 155))
    refine callT hT 12 (opC (opC (opC opA))) (fun K hK=>?_)
    go_simp
    refine hK.out _ _ (HKP.out _ _ HA.out rfl rfl) (fun hD=>?_)
    clear hK K
    try simp only [Act.put,List.setIfInBounds_toArray,List.set_cons_zero,List.set_cons_succ]
    refine callT hT 13 (opC (opC (opC (opB opA)))) (fun K hK=>?_)
    refine step_sepPushG rfl _ _ 103 155 (by rfl) tisg _ 3 24 Tryz.underlying103 HIsg.out.1 HIsg.out.2.1 HIsg.out.2.2.1 HIsg.out.2.2.2 rfl (by decide) (by decide) _ (HA.out.consSg kd wv it) 6 0 (by decide) fl.length fc _ FA (fl.flatMap SgT.cells) _ #[.int .i64 kd,.int .i64 wv,.int .i64 it] _ rfl rfl (by rfl) (by rfl) (heap_new _ _) rfl (by omega) ?_
    intro g8 cap w9 S9 hz9
    have HS9:=Lib.hid S9.tail
    clear S9 hz9
    refine hK.out _ _ (HKP.out _ _ HS9.out rfl rfl) (fun hD=>?_)
    clear hK K
    try simp only [Act.put,List.setIfInBounds_toArray,List.set_cons_zero,List.set_cons_succ]
    have c8:=cell_heap (k:=1) (HS9.out.blk 4 rfl).1 rfl
    have f8:=frozen_heap (HS9.out.blk 4 rfl).1 1
    have q8:=heap_lt0 (HS9.out.blk 4 rfl).1
    refine tailT hT 14 (opC (opC (opC (opB (opB opA))))) ?_
    refine tailT hT 15 (opC (opC (opC (opB (opB (opB opA)))))) ?_
    refine tailT hT 16 (opD opA) ?_
    refine lastT hT 17 (opD (opB opA)) ?_
    go_wp2_with fail
    refine NoPanic.normal ?_
    have HP:Hid (Sepa W (w9.setCell ⟨gF,1,none⟩ (.slice (some ⟨g8,0,none⟩) (fl.length+1) cap)) (.blk gM #[.slice (some ⟨bs,os,none⟩) sn sc,.slice AA an ac,.slice JA jn jc,.slice MA mn mc] 108 :: .cel (celI (plR (pl++[(fl.length:Int)]) sn)) (.slice (some ⟨g9,0,none⟩) sn plc) :: .cel (celI (portsTo m.sigs sn)) (.slice LA ln lc) :: .blk gF #[DV,.slice (some ⟨g8,0,none⟩) (fl++[(⟨kd,wv,it⟩:SgT)]).length cap,AV,.slice none 0 0,MV] 165 :: sgP ((fl++[(⟨kd,wv,it⟩:SgT)])) (some ⟨g8,0,none⟩) cap :: .cel (celI ports) (.slice PA pn pc) :: rs)):=by
     have h:=(HS9.out.put 4 rfl 1 (.slice (some ⟨g8,0,none⟩) (fl.length+1) cap)).tail
     show Sepa _ _ _
     rw [sgP_push,show (fl++[(⟨kd,wv,it⟩:SgT)]).length=fl.length+1 from by simp]
     exact h
    go_wp2_with fail
    go_roundw
    case rel=>exact ⟨k+1,nx,_,_,_,_,by omega,by go_num,rfl,HNX.out,HP.out⟩
    case measure=>simp [intOf];omega
   ·have htop:top=false:=by cases top <;> simp_all
    have hpt:isPort ⟨kd,wd,it⟩=true:=by cases top <;> simp_all
    have HN2:Hid (nx=(portsTo m.sigs k).length):=by show _=_;rw [HNT.out,htop];rfl
    have hnb:nx≤k:=by rw [HN2.out];exact portsTo_len _ _
    have hn2:=(HPN.out.2 hpt).1
    rw [←HN2.out,←HPNN.out htop] at hn2
    have HPR2:=Lib.hid (fun hw hin=>HPRT.out htop hpt hw hin)
    have HBA2:=Lib.hid (fun hw=>HBAD.out htop hpt hw)
    have hxi:=HPIN.out.at_ hn2
    have HPI:=Lib.hid (HS5.out.ints 6 rfl)
    have HPL:=Lib.hid HPI.out.1
    obtain ⟨bp,op,hPA,hbp,hcp⟩:=HPI.out.2 (by have:=HPL.out;omega)
    have cp:=hcp nx (by have:=HPL.out;omega)
    generalize ports[nx]?.getD 0=x at *
    obtain ⟨X,rfl⟩:∃X:Nat,x=(X:Int):=⟨x.toNat,by omega⟩
    subst hPA
    have lbp:bp<W5.heap.size:=hbp
    have n0:(0:Int)≤(nx:Int):=by omega
    have n1:(nx:Int)<(pn:Int):=by have:=HPL.out;omega
    clear HPRT HBAD HOWN hb hcp hbp htop
    obtain ⟨g9,hg7,_,q8,c8,f8,hu⟩:=HS5.out.setI 2 (i:=k) rfl (by omega)
    subst hg7
    go_upto_region 14 with fail
    have HS6:Hid (Sepa W (W5.setCell ⟨g9,k,none⟩ (.int .i64 (X:Int))) (.blk gY #[.int .i64 kd,.int .i64 wd,.int .i64 it] 155 :: .blk gM #[.slice (some ⟨bs,os,none⟩) sn sc,.slice AA an ac,.slice JA jn jc,.slice MA mn mc] 108 :: .cel (celI (plR (pl++[(X:Int)]) sn)) (.slice (some ⟨g9,0,none⟩) sn plc) :: .cel (celI (portsTo m.sigs sn)) (.slice LA ln lc) :: .blk gF #[DV,.slice FA fl.length fc,AV,.slice none 0 0,MV] 165 :: sgP fl FA fc :: .cel (celI ports) (.slice (some ⟨bp,op,none⟩) pn pc) :: rs)):=by have h:=hu (X:Int);rw [←HLEN.out,plR_set (by have:=HLEN.out;omega)] at h;rw [←HLEN.out];exact h
    clear q8 c8 f8 hu HS5 cp lbp
    generalize W5.setCell ⟨g9,k,none⟩ (.int .i64 (X:Int))=W6 at *
    have b1:=cell_heap (k:=1) (HS6.out.blk 4 rfl).1 rfl
    have lb:=heap_lt0 (HS6.out.blk 4 rfl).1
    have HRS:=Lib.hid (HS6.out.rd 5 rfl)
    obtain ⟨b2,o2,hFA,hb2,-,z1,-⟩:=HRS.out.sgE (k:=X) (by omega)
    change W6.cell? ⟨b2,o2+X * 3+1,none⟩=some (.int .i64 (sgK fl X).width) at z1
    rw [show ((X:Int)).toNat=X from Int.toNat_natCast X] at HPR2 HBA2
    generalize (sgK fl X).width=wf at *
    have lb2:b2<W6.heap.size:=hb2
    subst hFA
    obtain ⟨bq,oq,hq,hbq,hcq⟩:=(HS6.out.ints 2 rfl).2 (by omega)
    injection hq with hq
    injection hq with hq1 hq2
    subst hq1 hq2
    have cq:=hcq k hlt
    rw [←HLEN.out,plR_last,HLEN.out,Nat.zero_add] at cq
    have lq:g9<W6.heap.size:=hbq
    have X0:(0:Int)≤(X:Int):=by omega
    have X1:(X:Int)<(fl.length:Int):=by omega
    clear hcq hbq hb2 HRS
    by_cases hw:wf=wv
    ·have dw:(wf != wv)=false:=by simp [hw]
     have HNX:=Lib.hid (HPR2.out hw hxi)
     have HP:=Lib.hid HS6.out.tail
     clear hw HPR2 HBA2
     have hsub:=sub_ne W6
     have hsc:=sub_cell W6
     refine wp_region_below W6 (by kernel_rfl) (by kernel_rfl) (Below.refl _ _) ?_
     repeat (go_big_quiet_step (fail))
     refine wpQuiet_nil ?_
     rintro wq ⟨⟨w5,hD⟩,hw⟩
     replace hw:wq=w5:=hw
     subst hw
     clear hsub hsc
     have HP2:=Lib.hid (HP.out.below hD)
     go_wp2_with fail
     go_roundw
     case rel=>exact ⟨k+1,nx+1,_,_,_,_,by omega,by go_num,by go_num,HNX.out,HP2.out⟩
     case measure=>simp [intOf];omega
    ·have dw:(wf != wv)=true:=by simp [hw]
     have HNX:=Lib.hid (HBA2.out hw)
     have HB:=Lib.hid (HS6.out.sub (qs:=rs) (.cons _ (.cons _ (.cons _ (.cons _ (.cons _ (.cons _ (.cons _ (List.Sublist.refl _)))))))))
     clear hw HPR2 HBA2
     have hsub:=sub_ne W6
     have hsc:=sub_cell W6
     refine wp_region_below W6 (by kernel_rfl) (by kernel_rfl) (Below.refl _ _) ?_
     repeat (go_big_quiet_step (fail))
     refine wpQuiet_nil ?_
     rintro wq ⟨⟨w5,hD⟩,hw⟩
     replace hw:wq=w5:=hw
     subst hw
     clear hsub hsc
     have HB2:=Lib.hid (HB.out.below hD)
     go_wp2_with fail
     apply HZ.out
     exact ⟨HNX.out,HB2.out⟩
  ·have hkn:k=sn:=by omega
   have hdk:decide ((k:Int)<(sn:Int))=false:=by simp;omega
   have hu:=HV.out.up
   have HD:=Lib.hid (HV.out.done (by rw [HL1.out];exact hkn))
   have HE:Hid (pl.length=sn∧PlIn pl fl.length∧fl0.length≤fl.length∧fl.length≤60):=⟨by rw [HV.out.len];exact hkn,HV.out.ok,HV.out.low,by omega⟩
   clear hlt hu
   subst k
   go_wp2_with fail
   apply HX.out
   exact ⟨HD.out,HE.out.1,HE.out.2.1,HE.out.2.2.1,HE.out.2.2.2,HS.out⟩
end Go.Proofs.YtlinbdkbbhpdpaaGreat
