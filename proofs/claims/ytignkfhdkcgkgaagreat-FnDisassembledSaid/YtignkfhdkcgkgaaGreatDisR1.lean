/- The first loop of the reference's Disassemble: inputs and outputs (printed by mkdiss.py). -/
import Derived.Test.YtignkfhdkcgkgaaGreatDisRB
import Derived.Test.YtignkfhdkcgkgaaGreatRtS4
import Derived.Test.YtignkfhdkcgkgaaGreatSepN
namespace Go.Proofs.YtignkfhdkcgkgaaGreat
set_option maxRecDepth 100000
open Go.RowKit

set_option maxRecDepth 100000 in
set_option maxHeartbeats 8000000 in
theorem dsr_lp1 (W:World) (gD:Nat) (d:Dev) (ts:List Tile) (TA:Option Addr) (m tc N:Nat) (NA:Option Addr) (nc:Nat) (IA:Option Addr) (ic:Nat) (OA:Option Addr) (oc:Nat) (rs:List Pc) {v0 v1 v3 v4 v5 v6 v7 v8 v11 v12 v17 v18 v19 v20 v21 v22 v23 v24 v25 v26 v27 v28 v29 v30 v31 v32 v33 v34 v35 v36 v37 v38 v39 v40 v41 v42 v43 v44 v45 v46 v47 v48 v49 v50 v51 v52 v53 v54 v55 v56 v57 v58 v59 v60 v61 v62 v63 v64 v65 v66 v67 v68 v69 v70 v71 v72 v73 v74 v75 v76 v77 v78 v79 v80 v81 v82 v83 v84 v85 v86 v87 v88 v89 v90 v91 v92 v93 v94 v95 v96 v97 v98 v99 v100 v101 v102 v103 v104 v105 v106 v107 v108 v109 v110 v111 v112 v113 v114 v115 v116 v117 v118 v119 v120 v121 v122 v123 v124 v125 v126 v127 v128 v129 v130 v131 v132 v133 v134 v135 v136 v137 v138 v139 v140 v141 v142 v143 v144 v145 v146 v147 v148 v149 v150 v151 v152 v153 v154 v155 v156 v157 v158 v159 v160 v161 v162 v163 v164 v165 v166 v167 v168 v169 v170 v171 v172 v173 v174 v175 v176 v177 v178 v179 v180 v181 v182 v183 v184 v185 v186 v187 v188 v189 v190 v191 v192 v193 v194 v195 v196 v197 v198 v199 v200 v201 v202 v203 v204 v205 v206 v207 v208 v209 v210 v211 v212 v213 v214 v215 v216 v217 v218 v219 v220 v221 v222 v223 v224 v225 v226 v227 v228 v229 v230 v231 v232 v233 v234 v235 v236 v237 v238 v239 v240 v241 v242 v243 v244 v245 v246 v247 v248 v249 v250 v251 v252 v253 v254 v255 v256 v257 v258 v259 v260 v261 v262 v263 v264 v265 v266 v267 v268 v269 v270 v271 v272 v273 v274 v275 v276 v277 v278 v279 v280 v281 v282 v283 v284 v285 v286 v287 v288 v289 v290 v291 v292 v293 v294 v295 v296 v297 v298 v299 v300 v301 v302 v303 v304 v305 v306 v307 v308 v309 v310 v311 v312 v313 v314 v315 v316 v317 v318 v319 v320 v321 v322 v323 v324 v325 v326 v327 v328 v329 v330 v331 v332 v333 v334 v335 v336 v337 v338 v339 v340 v341 v342 v343 v344 v345 v346 v347 v348 v349 v350 v351 v352 v353 v354 v355 v356 v357 v358 v359 v360 v361 v362 v363 v364 v365 v366 v367 v368 v369 v370 v371 v372 v373 v374 v375 v376 v377 v378 v379 v380 v381 v382 v383 v384 v385 v386 v387 v388 v389 v390 v391 v392 v393 v394 v395 v396 v397 v398 v399 v400 v401 v402 v403 v404 v405 v406 v407 v408 v409 v410 v411 v412 v413 v414 v415 v416 v417 v418 v419 v420 v421 v422 v423 v424 v425 v426 v427 v428 v429 v430 v431 v432 v433 v434 v435 v436 v437 v438 v439 v440 v441 v442 v443 v444 v445 v446 v447 v448 v449 v450 v451 v452 v453 v454 v455 v456 v457 v458 v459 v460 v461 v462 v463 v464 v465 v466 v467 v468 v469 v470 v471:Value} {Q0:Exit→Act→World→Prop} (w:World) (hT:RdC W W.heap.size (celT ts) (.slice TA m tc)) (hN:(N:Int)=nodesOf d) (hc:CfgOk d ts) (hD:W.heap[gD]?=some (.cells #[.int .i64 d.W,.int .i64 d.H,.int .i64 d.T,.int .i64 d.R] 25 (0,0))) (S:Sepa W w (.cel (celI ((List.range N).map (F1 d ts 0))) (.slice NA N nc) :: .cel (celI ([])) (.slice IA 0 ic) :: .cel (celI ([])) (.slice OA 0 oc) :: rs))
  (hexit:∀(I2:Option Addr) (i2:Nat) (O2:Option Addr) (o2:Nat) (y16 y56 y57 y58 y59 y60 y61 y62 y63 y64 y65 y66 y67 y68 y69 y70 y71 y72 y73 y74 y75 y76 y77 y78 y79 y80 y81 y82 y83 y84 y85 y86 y87 y88 y89 y90 y91 y92 y93 y94 y95 y96 y97 y98 y99 y100 y101:Value) (w':World),Sepa W w' (.cel (celI ((List.range N).map (F1 d ts ts.length))) (.slice NA N nc) :: .cel (celI (insL d ts)) (.slice I2 (insL d ts).length i2) :: .cel (celI (outL d ts)) (.slice O2 (outL d ts).length o2) :: rs)→Q0 (.exit 0) ⟨List.toArray (v0 :: v1 :: .pointer (some ⟨gD,0,none⟩) :: v3 :: v4 :: v5 :: v6 :: v7 :: v8 :: .slice TA m tc :: .int .i64 (perT d) :: v11 :: v12 :: .slice I2 (insL d ts).length i2 :: .slice O2 (outL d ts).length o2 :: .slice NA N nc :: y16 :: v17 :: v18 :: v19 :: v20 :: v21 :: v22 :: v23 :: v24 :: v25 :: v26 :: v27 :: v28 :: v29 :: v30 :: v31 :: v32 :: v33 :: v34 :: v35 :: v36 :: v37 :: v38 :: v39 :: v40 :: v41 :: v42 :: v43 :: v44 :: v45 :: v46 :: v47 :: v48 :: v49 :: v50 :: v51 :: v52 :: v53 :: v54 :: v55 :: y56 :: y57 :: y58 :: y59 :: y60 :: y61 :: y62 :: y63 :: y64 :: y65 :: y66 :: y67 :: y68 :: y69 :: y70 :: y71 :: y72 :: y73 :: y74 :: y75 :: y76 :: y77 :: y78 :: y79 :: y80 :: y81 :: y82 :: y83 :: y84 :: y85 :: y86 :: y87 :: y88 :: y89 :: y90 :: y91 :: y92 :: y93 :: y94 :: y95 :: y96 :: y97 :: y98 :: y99 :: y100 :: y101 :: v102 :: v103 :: v104 :: v105 :: v106 :: v107 :: v108 :: v109 :: v110 :: v111 :: v112 :: v113 :: v114 :: v115 :: v116 :: v117 :: v118 :: v119 :: v120 :: v121 :: v122 :: v123 :: v124 :: v125 :: v126 :: v127 :: v128 :: v129 :: v130 :: v131 :: v132 :: v133 :: v134 :: v135 :: v136 :: v137 :: v138 :: v139 :: v140 :: v141 :: v142 :: v143 :: v144 :: v145 :: v146 :: v147 :: v148 :: v149 :: v150 :: v151 :: v152 :: v153 :: v154 :: v155 :: v156 :: v157 :: v158 :: v159 :: v160 :: v161 :: v162 :: v163 :: v164 :: v165 :: v166 :: v167 :: v168 :: v169 :: v170 :: v171 :: v172 :: v173 :: v174 :: v175 :: v176 :: v177 :: v178 :: v179 :: v180 :: v181 :: v182 :: v183 :: v184 :: v185 :: v186 :: v187 :: v188 :: v189 :: v190 :: v191 :: v192 :: v193 :: v194 :: v195 :: v196 :: v197 :: v198 :: v199 :: v200 :: v201 :: v202 :: v203 :: v204 :: v205 :: v206 :: v207 :: v208 :: v209 :: v210 :: v211 :: v212 :: v213 :: v214 :: v215 :: v216 :: v217 :: v218 :: v219 :: v220 :: v221 :: v222 :: v223 :: v224 :: v225 :: v226 :: v227 :: v228 :: v229 :: v230 :: v231 :: v232 :: v233 :: v234 :: v235 :: v236 :: v237 :: v238 :: v239 :: v240 :: v241 :: v242 :: v243 :: v244 :: v245 :: v246 :: v247 :: v248 :: v249 :: v250 :: v251 :: v252 :: v253 :: v254 :: v255 :: v256 :: v257 :: v258 :: v259 :: v260 :: v261 :: v262 :: v263 :: v264 :: v265 :: v266 :: v267 :: v268 :: v269 :: v270 :: v271 :: v272 :: v273 :: v274 :: v275 :: v276 :: v277 :: v278 :: v279 :: v280 :: v281 :: v282 :: v283 :: v284 :: v285 :: v286 :: v287 :: v288 :: v289 :: v290 :: v291 :: v292 :: v293 :: v294 :: v295 :: v296 :: v297 :: v298 :: v299 :: v300 :: v301 :: v302 :: v303 :: v304 :: v305 :: v306 :: v307 :: v308 :: v309 :: v310 :: v311 :: v312 :: v313 :: v314 :: v315 :: v316 :: v317 :: v318 :: v319 :: v320 :: v321 :: v322 :: v323 :: v324 :: v325 :: v326 :: v327 :: v328 :: v329 :: v330 :: v331 :: v332 :: v333 :: v334 :: v335 :: v336 :: v337 :: v338 :: v339 :: v340 :: v341 :: v342 :: v343 :: v344 :: v345 :: v346 :: v347 :: v348 :: v349 :: v350 :: v351 :: v352 :: v353 :: v354 :: v355 :: v356 :: v357 :: v358 :: v359 :: v360 :: v361 :: v362 :: v363 :: v364 :: v365 :: v366 :: v367 :: v368 :: v369 :: v370 :: v371 :: v372 :: v373 :: v374 :: v375 :: v376 :: v377 :: v378 :: v379 :: v380 :: v381 :: v382 :: v383 :: v384 :: v385 :: v386 :: v387 :: v388 :: v389 :: v390 :: v391 :: v392 :: v393 :: v394 :: v395 :: v396 :: v397 :: v398 :: v399 :: v400 :: v401 :: v402 :: v403 :: v404 :: v405 :: v406 :: v407 :: v408 :: v409 :: v410 :: v411 :: v412 :: v413 :: v414 :: v415 :: v416 :: v417 :: v418 :: v419 :: v420 :: v421 :: v422 :: v423 :: v424 :: v425 :: v426 :: v427 :: v428 :: v429 :: v430 :: v431 :: v432 :: v433 :: v434 :: v435 :: v436 :: v437 :: v438 :: v439 :: v440 :: v441 :: v442 :: v443 :: v444 :: v445 :: v446 :: v447 :: v448 :: v449 :: v450 :: v451 :: v452 :: v453 :: v454 :: v455 :: v456 :: v457 :: v458 :: v459 :: v460 :: v461 :: v462 :: v463 :: v464 :: v465 :: v466 :: v467 :: v468 :: v469 :: v470 :: v471 :: []),[]⟩ w')
  : Code.wp Tryz.prog (loopAt Tryz.f29 0) Q0 ⟨List.toArray (v0 :: v1 :: .pointer (some ⟨gD,0,none⟩) :: v3 :: v4 :: v5 :: v6 :: v7 :: v8 :: .slice TA m tc :: .int .i64 (perT d) :: v11 :: v12 :: .slice IA 0 ic :: .slice OA 0 oc :: .slice NA N nc :: .int .i64 0 :: v17 :: v18 :: v19 :: v20 :: v21 :: v22 :: v23 :: v24 :: v25 :: v26 :: v27 :: v28 :: v29 :: v30 :: v31 :: v32 :: v33 :: v34 :: v35 :: v36 :: v37 :: v38 :: v39 :: v40 :: v41 :: v42 :: v43 :: v44 :: v45 :: v46 :: v47 :: v48 :: v49 :: v50 :: v51 :: v52 :: v53 :: v54 :: v55 :: v56 :: v57 :: v58 :: v59 :: v60 :: v61 :: v62 :: v63 :: v64 :: v65 :: v66 :: v67 :: v68 :: v69 :: v70 :: v71 :: v72 :: v73 :: v74 :: v75 :: v76 :: v77 :: v78 :: v79 :: v80 :: v81 :: v82 :: v83 :: v84 :: v85 :: v86 :: v87 :: v88 :: v89 :: v90 :: v91 :: v92 :: v93 :: v94 :: v95 :: v96 :: v97 :: v98 :: v99 :: v100 :: v101 :: v102 :: v103 :: v104 :: v105 :: v106 :: v107 :: v108 :: v109 :: v110 :: v111 :: v112 :: v113 :: v114 :: v115 :: v116 :: v117 :: v118 :: v119 :: v120 :: v121 :: v122 :: v123 :: v124 :: v125 :: v126 :: v127 :: v128 :: v129 :: v130 :: v131 :: v132 :: v133 :: v134 :: v135 :: v136 :: v137 :: v138 :: v139 :: v140 :: v141 :: v142 :: v143 :: v144 :: v145 :: v146 :: v147 :: v148 :: v149 :: v150 :: v151 :: v152 :: v153 :: v154 :: v155 :: v156 :: v157 :: v158 :: v159 :: v160 :: v161 :: v162 :: v163 :: v164 :: v165 :: v166 :: v167 :: v168 :: v169 :: v170 :: v171 :: v172 :: v173 :: v174 :: v175 :: v176 :: v177 :: v178 :: v179 :: v180 :: v181 :: v182 :: v183 :: v184 :: v185 :: v186 :: v187 :: v188 :: v189 :: v190 :: v191 :: v192 :: v193 :: v194 :: v195 :: v196 :: v197 :: v198 :: v199 :: v200 :: v201 :: v202 :: v203 :: v204 :: v205 :: v206 :: v207 :: v208 :: v209 :: v210 :: v211 :: v212 :: v213 :: v214 :: v215 :: v216 :: v217 :: v218 :: v219 :: v220 :: v221 :: v222 :: v223 :: v224 :: v225 :: v226 :: v227 :: v228 :: v229 :: v230 :: v231 :: v232 :: v233 :: v234 :: v235 :: v236 :: v237 :: v238 :: v239 :: v240 :: v241 :: v242 :: v243 :: v244 :: v245 :: v246 :: v247 :: v248 :: v249 :: v250 :: v251 :: v252 :: v253 :: v254 :: v255 :: v256 :: v257 :: v258 :: v259 :: v260 :: v261 :: v262 :: v263 :: v264 :: v265 :: v266 :: v267 :: v268 :: v269 :: v270 :: v271 :: v272 :: v273 :: v274 :: v275 :: v276 :: v277 :: v278 :: v279 :: v280 :: v281 :: v282 :: v283 :: v284 :: v285 :: v286 :: v287 :: v288 :: v289 :: v290 :: v291 :: v292 :: v293 :: v294 :: v295 :: v296 :: v297 :: v298 :: v299 :: v300 :: v301 :: v302 :: v303 :: v304 :: v305 :: v306 :: v307 :: v308 :: v309 :: v310 :: v311 :: v312 :: v313 :: v314 :: v315 :: v316 :: v317 :: v318 :: v319 :: v320 :: v321 :: v322 :: v323 :: v324 :: v325 :: v326 :: v327 :: v328 :: v329 :: v330 :: v331 :: v332 :: v333 :: v334 :: v335 :: v336 :: v337 :: v338 :: v339 :: v340 :: v341 :: v342 :: v343 :: v344 :: v345 :: v346 :: v347 :: v348 :: v349 :: v350 :: v351 :: v352 :: v353 :: v354 :: v355 :: v356 :: v357 :: v358 :: v359 :: v360 :: v361 :: v362 :: v363 :: v364 :: v365 :: v366 :: v367 :: v368 :: v369 :: v370 :: v371 :: v372 :: v373 :: v374 :: v375 :: v376 :: v377 :: v378 :: v379 :: v380 :: v381 :: v382 :: v383 :: v384 :: v385 :: v386 :: v387 :: v388 :: v389 :: v390 :: v391 :: v392 :: v393 :: v394 :: v395 :: v396 :: v397 :: v398 :: v399 :: v400 :: v401 :: v402 :: v403 :: v404 :: v405 :: v406 :: v407 :: v408 :: v409 :: v410 :: v411 :: v412 :: v413 :: v414 :: v415 :: v416 :: v417 :: v418 :: v419 :: v420 :: v421 :: v422 :: v423 :: v424 :: v425 :: v426 :: v427 :: v428 :: v429 :: v430 :: v431 :: v432 :: v433 :: v434 :: v435 :: v436 :: v437 :: v438 :: v439 :: v440 :: v441 :: v442 :: v443 :: v444 :: v445 :: v446 :: v447 :: v448 :: v449 :: v450 :: v451 :: v452 :: v453 :: v454 :: v455 :: v456 :: v457 :: v458 :: v459 :: v460 :: v461 :: v462 :: v463 :: v464 :: v465 :: v466 :: v467 :: v468 :: v469 :: v470 :: v471 :: []),[]⟩ w:=by
 have htm:=hT.tlen
 have htq:=tiles_eq hc.dev
 have hcl:=hc.len
 have hm36:m≤36:=by omega
 have hTT:Hid (∀k:Nat,k<m→tileIn d (k:Int)=true):=fun k hk=>tileIn_iff.2 ⟨hc.dev,by omega,by omega⟩
 have hpb:=perT_bd hc.dev
 have HIX:Hid (∀k:Nat,k<m→(k:Int) * perT d+5<(N:Int)∧0≤(k:Int) * perT d∧(k:Int) * perT d≤36 * 23):=fun k hk=>by
  have h1:=(node_at (k:=5) (hTT k hk) (by omega) (by omega)).1
  have h2:=(nodeIn_rnP.1 h1).2.2
  exact ⟨by rw [hN];exact h2,Int.mul_nonneg (by omega) (by omega),Int.mul_le_mul (by omega) (by omega) (by omega) (by omega)⟩
 have HT:=Lib.hid hT
 have HC:=Lib.hid hc
 have HD:=Lib.hid hD
 have HTM:=Lib.hid htm
 have HS:=Lib.hid S
 have HX:=Lib.hid hexit
 clear hT hN hc hD S hexit htm htq hcl
 conv=>arg 2;whnf
 go_loopw [13,14,16] (fun a1 a2 i wr=>∃(k:Nat) (IA:Option Addr) (ni ic:Nat) (OA:Option Addr) (no oc:Nat),k≤m∧i = .int .i64 k∧a1 = .slice IA ni ic∧a2 = .slice OA no oc∧Sepa W wr (.cel (celI ((List.range N).map (F1 d ts k))) (.slice NA N nc) :: .cel (celI (padTo d ts 1 k)) (.slice IA ni ic) :: .cel (celI (padTo d ts 2 k)) (.slice OA no oc) :: rs)) (fun _ _ i _=>m - (intOf i).toNat)
 case atStart=>exact ⟨0,IA,0,ic,OA,0,oc,by omega,rfl,rfl,rfl,HS.out⟩
 case round =>
  obtain ⟨k,IA,ni,ic,OA,no,oc,hk,rfl,rfl,rfl,hs⟩:=hrel
  have hil:=(hs.ints 1 rfl).1
  have hol:=(hs.ints 2 rfl).1
  have hni:ni≤36:=by have h2:=padTo_length d ts 1 k;omega
  have hno:no≤36:=by have h2:=padTo_length d ts 2 k;omega
  have HIL:=Lib.hid hil
  have HOL:=Lib.hid hol
  have HSS:=Lib.hid hs
  by_cases hlt:k<m
  ·have hdk:decide ((k:Int)<(m:Int))=true:=by simp;omega
   obtain ⟨b,o,S',m3,q,L,l,q4,rfl,hbW,-,-,cp,-,-,-⟩:=HT.out.tile (k:=k) (by rw [HTM.out];exact hlt)
   change W.cell? ⟨b,o+k * 4+2,none⟩=some (.int .i64 (tileAt ts (k:Int)).pad) at cp
   have CP:=Lib.hid cp
   have hD':=heap_tr hs.bel HD.out
   have d0:=cell_heap (k:=0) hD' rfl
   have d1:=cell_heap (k:=1) hD' rfl
   have d2:=cell_heap (k:=2) hD' rfl
   have d3:=cell_heap (k:=3) hD' rfl
   have lD:=heap_lt0 hD'
   have HTK:=Lib.hid (fun w'=>stileKind_in d (k:Int) w' (hTT.out k hlt))
   have HP1:Hid (padTo d ts 1 (k+1)=padTo d ts 1 k++if padQ d ts 1 k=true then [(k:Int)] else []):=rfl
   have HP2:Hid (padTo d ts 2 (k+1)=padTo d ts 2 k++if padQ d ts 2 k=true then [(k:Int)] else []):=rfl
   have HQ1:Hid (padQ d ts 1 k=(decide (kindOf d (k:Int)=0) && decide ((tileAt ts (k:Int)).pad=1))):=rfl
   have HQ2:Hid (padQ d ts 2 k=(decide (kindOf d (k:Int)=0) && decide ((tileAt ts (k:Int)).pad=2))):=rfl
   have HNO:=Lib.hid (fun h=>mapR_same (N:=N) (fun n _=>F1_no (d:=d) (ts:=ts) (k:=k) h n))
   obtain ⟨hx1,hx2,hx3⟩:=HIX.out k hlt
   obtain ⟨ix,hix⟩:∃ix:Nat,((k:Int) * perT d+5)=(ix:Int):=⟨((k:Int) * perT d+5).toNat,by omega⟩
   have HYES:=Lib.hid (fun h=>F1_yes (d:=d) (ts:=ts) (k:=k) (N:=N) HC.out.dev h hix.symm (by omega))
   have i0:(0:Int)≤(k:Int):=by omega
   have i1:(k:Int)<(m:Int):=by omega
   have i2:ix<N:=by omega
   clear hs cp hD' hil hol
   generalize kindOf d (k:Int)=K at *
   generalize (tileAt ts (k:Int)).pad=pd at *
   generalize perT d=P at *
   obtain ⟨gN,hNA,hgN,hgN2,-,-,-⟩:=HSS.out.setI 0 rfl i2
   subst hNA
   have lD0:=heap_lt0 HD.out
   have hne:gD≠gN:=by omega
   have hne2:b≠gN:=by omega
   go_wp2_with fail
   refine (HTK.out _).mono ?_
   rintro e w1 ⟨rfl,b1⟩
   have hs1:=HSS.out.below b1
   have HS1:=Lib.hid hs1
   have cp1:=(hs1.bel.cell (p:=⟨b,o+k * 4+2,none⟩) hbW).trans CP.out
   have hb1:=below_lt hs1.bel hbW
   have hD':=heap_tr hs1.bel HD.out
   clear d0 d1 d2 d3 lD
   have d0:=cell_heap (k:=0) hD' rfl
   have d1:=cell_heap (k:=1) hD' rfl
   have d2:=cell_heap (k:=2) hD' rfl
   have d3:=cell_heap (k:=3) hD' rfl
   have lD:=heap_lt0 hD'
   clear b1 hs1 hD'
   by_cases hK:K=0
   ·have hK1:(K==0)=true:=by simp [hK]
    by_cases h1:pd=1
    ·have hp1:(pd==1)=true:=by simp [h1]
     have hp2:(pd==2)=false:=by simp [h1]
     have hq1:padQ d ts 1 k=true:=by rw [HQ1.out,hK,h1];rfl
     have HR1:Hid (padTo d ts 1 (k+1)=padTo d ts 1 k++[(k:Int)]):=by show _=_;rw [HP1.out,if_pos hq1]
     have HR2:Hid (padTo d ts 2 (k+1)=padTo d ts 2 k):=by show _=_;rw [HP2.out,HQ2.out,hK,h1];exact List.append_nil _
     have HY:=Lib.hid (HYES.out hq1)
     clear hK h1 hq1
     go_upto_region 17 with (at_builtin;refine wpList_sepPush rfl _ _ rfl _ (HS1.out.alloc _) 1 IA ni ic (padTo d ts 1 k) (k:Int) _ (0,0) rfl rfl rfl (heap_new _ _) (by omega) ?_;intro g9 cap w9 S9 hz9;obtain ⟨_,hg',_,lN9,cN9,fN9,hN9⟩:=S9.setI 0 rfl i2;injection hg' with hg';injection hg' with hg';subst hg';have HN9:=Lib.hid hN9;clear S9 hN9)
     have hs10:=HN9.out ((ni:Int)+1)
     rw [show (ni:Int)+1=1+((padTo d ts 1 k).length:Int) by rw [HIL.out];omega] at hs10
     replace hs10:=(show Sepa W _ (.cel (celI (((List.range N).map (F1 d ts k)).set ix (1+((padTo d ts 1 k).length:Int)))) (.slice (some ⟨gN,0,none⟩) N nc) :: .cel (celI (padTo d ts 1 k++[(k:Int)])) (.slice (some ⟨g9,0,none⟩) (ni+1) cap) :: .cel (celI (padTo d ts 2 k)) (.slice OA no oc) :: rs) from hs10)
     rw [HY.out,show 1+((padTo d ts 1 k).length:Int)=(ni:Int)+1 by rw [HIL.out];omega] at hs10
     have HS10:=Lib.hid hs10
     clear hs10 cN9 fN9 lN9 d0 d1 d2 d3 lD cp1 hb1 HN9
     generalize w9.setCell _ _=w10 at *
     have hD':=heap_tr HS10.out.bel HD.out
     have d0:=cell_heap (k:=0) hD' rfl
     have d1:=cell_heap (k:=1) hD' rfl
     have d2:=cell_heap (k:=2) hD' rfl
     have d3:=cell_heap (k:=3) hD' rfl
     have lD:=heap_lt0 hD'
     clear hD'
     go_wp2_with fail
     refine (HTK.out _).mono ?_
     rintro e w11 ⟨rfl,b11⟩
     have HS11:=Lib.hid (HS10.out.below b11)
     have cp2:=(HS11.out.bel.cell (p:=⟨b,o+k * 4+2,none⟩) hbW).trans CP.out
     have hb2:=below_lt HS11.out.bel hbW
     clear b11 d0 d1 d2 d3 lD
     go_wp2_with fail
     go_roundw
     case rel=>exact ⟨k+1,_,_,_,_,_,_,by omega,by go_num,rfl,rfl,by rw [HR1.out,HR2.out];exact HS11.out⟩
     case measure=>simp [intOf];omega
    ·have hp1:(pd==1)=false:=by simp [h1]
     have hq1:padQ d ts 1 k=false:=by rw [HQ1.out,decide_eq_false h1,Bool.and_false]
     have HR1:Hid (padTo d ts 1 (k+1)=padTo d ts 1 k):=by show _=_;rw [HP1.out,hq1];exact List.append_nil _
     have HY:=Lib.hid (HNO.out hq1)
     by_cases h2:pd=2
     ·have hp2:(pd==2)=true:=by simp [h2]
      have HR2:Hid (padTo d ts 2 (k+1)=padTo d ts 2 k++[(k:Int)]):=by show _=_;rw [HP2.out,HQ2.out,hK,h2];rfl
      clear hK h1 h2 hq1
      go_wp2_with fail
      refine (HTK.out _).mono ?_
      rintro e w11 ⟨rfl,b11⟩
      have HS11:=Lib.hid (HS1.out.below b11)
      have cp2:=(HS11.out.bel.cell (p:=⟨b,o+k * 4+2,none⟩) hbW).trans CP.out
      have hb2:=below_lt HS11.out.bel hbW
      clear b11 d0 d1 d2 d3 lD cp1 hb1
      go_wp2_with (at_builtin;refine wpList_sepPush rfl _ _ rfl _ (HS11.out.alloc _) 2 OA no oc (padTo d ts 2 k) (k:Int) _ (0,0) rfl rfl rfl (heap_new _ _) (by omega) ?_;intro g9 cap w12 S12 hz12;have HS12:=Lib.hid S12;clear S12)
      go_roundw
      case rel=>exact ⟨k+1,_,_,_,_,_,_,by omega,by go_num,rfl,rfl,by rw [HR1.out,HR2.out,←HY.out];exact HS12.out⟩
      case measure=>simp [intOf];omega
     ·have hp2:(pd==2)=false:=by simp [h2]
      have HR2:Hid (padTo d ts 2 (k+1)=padTo d ts 2 k):=by show _=_;rw [HP2.out,HQ2.out,decide_eq_false h2,Bool.and_false];exact List.append_nil _
      clear hK h1 h2 hq1
      go_wp2_with fail
      refine (HTK.out _).mono ?_
      rintro e w11 ⟨rfl,b11⟩
      have HS11:=Lib.hid (HS1.out.below b11)
      have cp2:=(HS11.out.bel.cell (p:=⟨b,o+k * 4+2,none⟩) hbW).trans CP.out
      have hb2:=below_lt HS11.out.bel hbW
      clear b11 d0 d1 d2 d3 lD cp1 hb1
      go_wp2_with fail
      go_roundw
      case rel=>exact ⟨k+1,_,_,_,_,_,_,by omega,by go_num,rfl,rfl,by rw [HR1.out,HR2.out,←HY.out];exact HS11.out⟩
      case measure=>simp [intOf];omega
   ·have hK1:(K==0)=false:=by simp [hK]
    have hq1:padQ d ts 1 k=false:=by rw [HQ1.out,decide_eq_false hK,Bool.false_and]
    have HR1:Hid (padTo d ts 1 (k+1)=padTo d ts 1 k):=by show _=_;rw [HP1.out,hq1];exact List.append_nil _
    have HR2:Hid (padTo d ts 2 (k+1)=padTo d ts 2 k):=by show _=_;rw [HP2.out,HQ2.out,decide_eq_false hK,Bool.false_and];exact List.append_nil _
    have HY:=Lib.hid (HNO.out hq1)
    clear hK hq1
    go_wp2_with fail
    refine (HTK.out _).mono ?_
    rintro e w11 ⟨rfl,b11⟩
    have HS11:=Lib.hid (HS1.out.below b11)
    have cp2:=(HS11.out.bel.cell (p:=⟨b,o+k * 4+2,none⟩) hbW).trans CP.out
    have hb2:=below_lt HS11.out.bel hbW
    clear b11 d0 d1 d2 d3 lD cp1 hb1
    go_wp2_with fail
    go_roundw
    case rel=>exact ⟨k+1,_,_,_,_,_,_,by omega,by go_num,rfl,rfl,by rw [HR1.out,HR2.out,←HY.out];exact HS11.out⟩
    case measure=>simp [intOf];omega
  ·have hkm:k=m:=by omega
   have hdk:decide ((k:Int)<(m:Int))=false:=by simp;omega
   have e1:padTo d ts 1 k=insL d ts:=by unfold insL;rw [HTM.out,←hkm]
   have e2:padTo d ts 2 k=outL d ts:=by unfold outL;rw [HTM.out,←hkm]
   have e3:k=ts.length:=by rw [HTM.out];exact hkm
   rw [e1,e2] at hs
   rw [e1] at hil
   rw [e2] at hol
   have hs':=hs
   subst hil hol
   rw [show F1 d ts k=F1 d ts ts.length by rw [e3]] at hs'
   have HS2:=Lib.hid hs'
   clear hs hs' hkm e1 e2 e3
   go_wp2_with fail
   apply HX.out
   exact HS2.out
end Go.Proofs.YtignkfhdkcgkgaaGreat
