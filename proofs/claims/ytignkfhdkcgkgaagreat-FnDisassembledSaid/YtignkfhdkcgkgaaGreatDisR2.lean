/- The second loop of the reference's Disassemble: flip-flops and memories (printed by mkdiss.py). -/
import Derived.Test.YtignkfhdkcgkgaaGreatDisRB
import Derived.Test.YtignkfhdkcgkgaaGreatRtS4
import Derived.Test.YtignkfhdkcgkgaaGreatSepN
namespace Go.Proofs.YtignkfhdkcgkgaaGreat
set_option maxRecDepth 100000
open Go.RowKit

set_option maxRecDepth 100000 in
set_option maxHeartbeats 8000000 in
theorem dsr_lp2 (W:World) (gD gN gL:Nat) (d:Dev) (ts:List Tile) (TA:Option Addr) (m tc N nc:Nat) (In:Int) (Lv Ov:Value) (pI pO pA:Pc) (rs:List Pc) {v0 v1 v3 v4 v5 v6 v7 v8 v11 v13 v14 v16 v18 v19 v20 v21 v22 v23 v24 v25 v26 v27 v28 v29 v30 v31 v32 v33 v34 v35 v36 v37 v38 v39 v40 v41 v42 v43 v44 v45 v46 v47 v48 v49 v50 v51 v52 v53 v54 v55 v56 v57 v58 v59 v60 v61 v62 v63 v64 v65 v66 v67 v68 v69 v70 v71 v72 v73 v74 v75 v76 v77 v78 v79 v80 v81 v82 v83 v84 v85 v86 v87 v88 v89 v90 v91 v92 v93 v94 v95 v96 v97 v98 v99 v100 v101 v102 v103 v104 v105 v106 v107 v108 v109 v110 v111 v112 v113 v114 v115 v116 v117 v118 v119 v120 v121 v122 v123 v124 v125 v126 v127 v128 v129 v130 v131 v132 v133 v134 v135 v136 v137 v138 v139 v140 v141 v142 v143 v144 v145 v146 v147 v148 v149 v150 v151 v152 v153 v154 v155 v156 v157 v158 v159 v160 v161 v162 v163 v164 v165 v166 v167 v168 v169 v170 v171 v172 v173 v174 v175 v176 v177 v178 v179 v180 v181 v182 v183 v184 v185 v186 v187 v188 v189 v190 v191 v192 v193 v194 v195 v196 v197 v198 v199 v200 v201 v202 v203 v204 v205 v206 v207 v208 v209 v210 v211 v212 v213 v214 v215 v216 v217 v218 v219 v220 v221 v222 v223 v224 v225 v226 v227 v228 v229 v230 v231 v232 v233 v234 v235 v236 v237 v238 v239 v240 v241 v242 v243 v244 v245 v246 v247 v248 v249 v250 v251 v252 v253 v254 v255 v256 v257 v258 v259 v260 v261 v262 v263 v264 v265 v266 v267 v268 v269 v270 v271 v272 v273 v274 v275 v276 v277 v278 v279 v280 v281 v282 v283 v284 v285 v286 v287 v288 v289 v290 v291 v292 v293 v294 v295 v296 v297 v298 v299 v300 v301 v302 v303 v304 v305 v306 v307 v308 v309 v310 v311 v312 v313 v314 v315 v316 v317 v318 v319 v320 v321 v322 v323 v324 v325 v326 v327 v328 v329 v330 v331 v332 v333 v334 v335 v336 v337 v338 v339 v340 v341 v342 v343 v344 v345 v346 v347 v348 v349 v350 v351 v352 v353 v354 v355 v356 v357 v358 v359 v360 v361 v362 v363 v364 v365 v366 v367 v368 v369 v370 v371 v372 v373 v374 v375 v376 v377 v378 v379 v380 v381 v382 v383 v384 v385 v386 v387 v388 v389 v390 v391 v392 v393 v394 v395 v396 v397 v398 v399 v400 v401 v402 v403 v404 v405 v406 v407 v408 v409 v410 v411 v412 v413 v414 v415 v416 v417 v418 v419 v420 v421 v422 v423 v424 v425 v426 v427 v428 v429 v430 v431 v432 v433 v434 v435 v436 v437 v438 v439 v440 v441 v442 v443 v444 v445 v446 v447 v448 v449 v450 v451 v452 v453 v454 v455 v456 v457 v458 v459 v460 v461 v462 v463 v464 v465 v466 v467 v468 v469 v470 v471:Value} {Q0:Exit→Act→World→Prop} (w:World) (hT:RdC W W.heap.size (celT ts) (.slice TA m tc)) (hN:(N:Int)=nodesOf d) (hc:CfgOk d ts) (hD:W.heap[gD]?=some (.cells #[.int .i64 d.W,.int .i64 d.H,.int .i64 d.T,.int .i64 d.R] 25 (0,0))) (hIn:1+In=sqB d ts) (S:Sepa W w (.cel (celI ((List.range N).map (F1 d ts ts.length))) (.slice (some ⟨gN,0,none⟩) N nc) :: pI :: pO :: lnBlk gL In (.slice none 0 0) Lv Ov :: pA :: .cel (celSq (([]).map (sq0 d ts))) (.slice none 0 0) :: rs))
  (hexit:∀(SA:Option Addr) (sc:Nat) (y17 y18 y105 y106 y107 y108 y109 y110 y111 y112 y113 y114 y115 y116 y117 y118 y119 y120 y121 y122 y123 y124 y125 y126 y127 y128 y129 y130 y131 y132 y133 y134 y135 y136 y137 y138 y139 y140 y141 y142 y143 y144 y145 y146 y147 y148 y149 y150 y151 y152 y153 y154 y155 y156 y157 y158 y159 y160 y161 y162 y163 y164 y165 y166 y167 y168 y169 y170 y171 y172 y173 y174 y175 y176 y177 y178 y179 y180 y181 y182 y183 y184 y185 y186 y187 y188 y189 y190 y191 y192 y193 y194:Value) (w':World),Sepa W w' (.cel (celI ((List.range N).map (F2 d ts (owL d ts) (2 * (m:Int))))) (.slice (some ⟨gN,0,none⟩) N nc) :: pI :: pO :: lnBlk gL In (.slice SA (owL d ts).length sc) Lv Ov :: pA :: .cel (celSq ((owL d ts).map (sq0 d ts))) (.slice SA (owL d ts).length sc) :: rs)→Q0 (.exit 2) ⟨List.toArray (v0 :: v1 :: .pointer (some ⟨gD,0,none⟩) :: v3 :: v4 :: v5 :: v6 :: v7 :: v8 :: .slice TA m tc :: .int .i64 (perT d) :: v11 :: .pointer (some ⟨gL,0,none⟩) :: v13 :: v14 :: .slice (some ⟨gN,0,none⟩) N nc :: v16 :: y17 :: y18 :: v19 :: v20 :: v21 :: v22 :: v23 :: v24 :: v25 :: v26 :: v27 :: v28 :: v29 :: v30 :: v31 :: v32 :: v33 :: v34 :: v35 :: v36 :: v37 :: v38 :: v39 :: v40 :: v41 :: v42 :: v43 :: v44 :: v45 :: v46 :: v47 :: v48 :: v49 :: v50 :: v51 :: v52 :: v53 :: v54 :: v55 :: v56 :: v57 :: v58 :: v59 :: v60 :: v61 :: v62 :: v63 :: v64 :: v65 :: v66 :: v67 :: v68 :: v69 :: v70 :: v71 :: v72 :: v73 :: v74 :: v75 :: v76 :: v77 :: v78 :: v79 :: v80 :: v81 :: v82 :: v83 :: v84 :: v85 :: v86 :: v87 :: v88 :: v89 :: v90 :: v91 :: v92 :: v93 :: v94 :: v95 :: v96 :: v97 :: v98 :: v99 :: v100 :: v101 :: v102 :: v103 :: v104 :: y105 :: y106 :: y107 :: y108 :: y109 :: y110 :: y111 :: y112 :: y113 :: y114 :: y115 :: y116 :: y117 :: y118 :: y119 :: y120 :: y121 :: y122 :: y123 :: y124 :: y125 :: y126 :: y127 :: y128 :: y129 :: y130 :: y131 :: y132 :: y133 :: y134 :: y135 :: y136 :: y137 :: y138 :: y139 :: y140 :: y141 :: y142 :: y143 :: y144 :: y145 :: y146 :: y147 :: y148 :: y149 :: y150 :: y151 :: y152 :: y153 :: y154 :: y155 :: y156 :: y157 :: y158 :: y159 :: y160 :: y161 :: y162 :: y163 :: y164 :: y165 :: y166 :: y167 :: y168 :: y169 :: y170 :: y171 :: y172 :: y173 :: y174 :: y175 :: y176 :: y177 :: y178 :: y179 :: y180 :: y181 :: y182 :: y183 :: y184 :: y185 :: y186 :: y187 :: y188 :: y189 :: y190 :: y191 :: y192 :: y193 :: y194 :: v195 :: v196 :: v197 :: v198 :: v199 :: v200 :: v201 :: v202 :: v203 :: v204 :: v205 :: v206 :: v207 :: v208 :: v209 :: v210 :: v211 :: v212 :: v213 :: v214 :: v215 :: v216 :: v217 :: v218 :: v219 :: v220 :: v221 :: v222 :: v223 :: v224 :: v225 :: v226 :: v227 :: v228 :: v229 :: v230 :: v231 :: v232 :: v233 :: v234 :: v235 :: v236 :: v237 :: v238 :: v239 :: v240 :: v241 :: v242 :: v243 :: v244 :: v245 :: v246 :: v247 :: v248 :: v249 :: v250 :: v251 :: v252 :: v253 :: v254 :: v255 :: v256 :: v257 :: v258 :: v259 :: v260 :: v261 :: v262 :: v263 :: v264 :: v265 :: v266 :: v267 :: v268 :: v269 :: v270 :: v271 :: v272 :: v273 :: v274 :: v275 :: v276 :: v277 :: v278 :: v279 :: v280 :: v281 :: v282 :: v283 :: v284 :: v285 :: v286 :: v287 :: v288 :: v289 :: v290 :: v291 :: v292 :: v293 :: v294 :: v295 :: v296 :: v297 :: v298 :: v299 :: v300 :: v301 :: v302 :: v303 :: v304 :: v305 :: v306 :: v307 :: v308 :: v309 :: v310 :: v311 :: v312 :: v313 :: v314 :: v315 :: v316 :: v317 :: v318 :: v319 :: v320 :: v321 :: v322 :: v323 :: v324 :: v325 :: v326 :: v327 :: v328 :: v329 :: v330 :: v331 :: v332 :: v333 :: v334 :: v335 :: v336 :: v337 :: v338 :: v339 :: v340 :: v341 :: v342 :: v343 :: v344 :: v345 :: v346 :: v347 :: v348 :: v349 :: v350 :: v351 :: v352 :: v353 :: v354 :: v355 :: v356 :: v357 :: v358 :: v359 :: v360 :: v361 :: v362 :: v363 :: v364 :: v365 :: v366 :: v367 :: v368 :: v369 :: v370 :: v371 :: v372 :: v373 :: v374 :: v375 :: v376 :: v377 :: v378 :: v379 :: v380 :: v381 :: v382 :: v383 :: v384 :: v385 :: v386 :: v387 :: v388 :: v389 :: v390 :: v391 :: v392 :: v393 :: v394 :: v395 :: v396 :: v397 :: v398 :: v399 :: v400 :: v401 :: v402 :: v403 :: v404 :: v405 :: v406 :: v407 :: v408 :: v409 :: v410 :: v411 :: v412 :: v413 :: v414 :: v415 :: v416 :: v417 :: v418 :: v419 :: v420 :: v421 :: v422 :: v423 :: v424 :: v425 :: v426 :: v427 :: v428 :: v429 :: v430 :: v431 :: v432 :: v433 :: v434 :: v435 :: v436 :: v437 :: v438 :: v439 :: v440 :: v441 :: v442 :: v443 :: v444 :: v445 :: v446 :: v447 :: v448 :: v449 :: v450 :: v451 :: v452 :: v453 :: v454 :: v455 :: v456 :: v457 :: v458 :: v459 :: v460 :: v461 :: v462 :: v463 :: v464 :: v465 :: v466 :: v467 :: v468 :: v469 :: v470 :: v471 :: []),[]⟩ w')
  : Code.wp Tryz.prog (loopAt Tryz.f29 1) Q0 ⟨List.toArray (v0 :: v1 :: .pointer (some ⟨gD,0,none⟩) :: v3 :: v4 :: v5 :: v6 :: v7 :: v8 :: .slice TA m tc :: .int .i64 (perT d) :: v11 :: .pointer (some ⟨gL,0,none⟩) :: v13 :: v14 :: .slice (some ⟨gN,0,none⟩) N nc :: v16 :: .int .i64 0 :: v18 :: v19 :: v20 :: v21 :: v22 :: v23 :: v24 :: v25 :: v26 :: v27 :: v28 :: v29 :: v30 :: v31 :: v32 :: v33 :: v34 :: v35 :: v36 :: v37 :: v38 :: v39 :: v40 :: v41 :: v42 :: v43 :: v44 :: v45 :: v46 :: v47 :: v48 :: v49 :: v50 :: v51 :: v52 :: v53 :: v54 :: v55 :: v56 :: v57 :: v58 :: v59 :: v60 :: v61 :: v62 :: v63 :: v64 :: v65 :: v66 :: v67 :: v68 :: v69 :: v70 :: v71 :: v72 :: v73 :: v74 :: v75 :: v76 :: v77 :: v78 :: v79 :: v80 :: v81 :: v82 :: v83 :: v84 :: v85 :: v86 :: v87 :: v88 :: v89 :: v90 :: v91 :: v92 :: v93 :: v94 :: v95 :: v96 :: v97 :: v98 :: v99 :: v100 :: v101 :: v102 :: v103 :: v104 :: v105 :: v106 :: v107 :: v108 :: v109 :: v110 :: v111 :: v112 :: v113 :: v114 :: v115 :: v116 :: v117 :: v118 :: v119 :: v120 :: v121 :: v122 :: v123 :: v124 :: v125 :: v126 :: v127 :: v128 :: v129 :: v130 :: v131 :: v132 :: v133 :: v134 :: v135 :: v136 :: v137 :: v138 :: v139 :: v140 :: v141 :: v142 :: v143 :: v144 :: v145 :: v146 :: v147 :: v148 :: v149 :: v150 :: v151 :: v152 :: v153 :: v154 :: v155 :: v156 :: v157 :: v158 :: v159 :: v160 :: v161 :: v162 :: v163 :: v164 :: v165 :: v166 :: v167 :: v168 :: v169 :: v170 :: v171 :: v172 :: v173 :: v174 :: v175 :: v176 :: v177 :: v178 :: v179 :: v180 :: v181 :: v182 :: v183 :: v184 :: v185 :: v186 :: v187 :: v188 :: v189 :: v190 :: v191 :: v192 :: v193 :: v194 :: v195 :: v196 :: v197 :: v198 :: v199 :: v200 :: v201 :: v202 :: v203 :: v204 :: v205 :: v206 :: v207 :: v208 :: v209 :: v210 :: v211 :: v212 :: v213 :: v214 :: v215 :: v216 :: v217 :: v218 :: v219 :: v220 :: v221 :: v222 :: v223 :: v224 :: v225 :: v226 :: v227 :: v228 :: v229 :: v230 :: v231 :: v232 :: v233 :: v234 :: v235 :: v236 :: v237 :: v238 :: v239 :: v240 :: v241 :: v242 :: v243 :: v244 :: v245 :: v246 :: v247 :: v248 :: v249 :: v250 :: v251 :: v252 :: v253 :: v254 :: v255 :: v256 :: v257 :: v258 :: v259 :: v260 :: v261 :: v262 :: v263 :: v264 :: v265 :: v266 :: v267 :: v268 :: v269 :: v270 :: v271 :: v272 :: v273 :: v274 :: v275 :: v276 :: v277 :: v278 :: v279 :: v280 :: v281 :: v282 :: v283 :: v284 :: v285 :: v286 :: v287 :: v288 :: v289 :: v290 :: v291 :: v292 :: v293 :: v294 :: v295 :: v296 :: v297 :: v298 :: v299 :: v300 :: v301 :: v302 :: v303 :: v304 :: v305 :: v306 :: v307 :: v308 :: v309 :: v310 :: v311 :: v312 :: v313 :: v314 :: v315 :: v316 :: v317 :: v318 :: v319 :: v320 :: v321 :: v322 :: v323 :: v324 :: v325 :: v326 :: v327 :: v328 :: v329 :: v330 :: v331 :: v332 :: v333 :: v334 :: v335 :: v336 :: v337 :: v338 :: v339 :: v340 :: v341 :: v342 :: v343 :: v344 :: v345 :: v346 :: v347 :: v348 :: v349 :: v350 :: v351 :: v352 :: v353 :: v354 :: v355 :: v356 :: v357 :: v358 :: v359 :: v360 :: v361 :: v362 :: v363 :: v364 :: v365 :: v366 :: v367 :: v368 :: v369 :: v370 :: v371 :: v372 :: v373 :: v374 :: v375 :: v376 :: v377 :: v378 :: v379 :: v380 :: v381 :: v382 :: v383 :: v384 :: v385 :: v386 :: v387 :: v388 :: v389 :: v390 :: v391 :: v392 :: v393 :: v394 :: v395 :: v396 :: v397 :: v398 :: v399 :: v400 :: v401 :: v402 :: v403 :: v404 :: v405 :: v406 :: v407 :: v408 :: v409 :: v410 :: v411 :: v412 :: v413 :: v414 :: v415 :: v416 :: v417 :: v418 :: v419 :: v420 :: v421 :: v422 :: v423 :: v424 :: v425 :: v426 :: v427 :: v428 :: v429 :: v430 :: v431 :: v432 :: v433 :: v434 :: v435 :: v436 :: v437 :: v438 :: v439 :: v440 :: v441 :: v442 :: v443 :: v444 :: v445 :: v446 :: v447 :: v448 :: v449 :: v450 :: v451 :: v452 :: v453 :: v454 :: v455 :: v456 :: v457 :: v458 :: v459 :: v460 :: v461 :: v462 :: v463 :: v464 :: v465 :: v466 :: v467 :: v468 :: v469 :: v470 :: v471 :: []),[]⟩ w:=by
 have htm:=hT.tlen
 have htq:=tiles_eq hc.dev
 have hcl:=hc.len
 have hm36:m≤36:=by omega
 have hTT:Hid (∀k:Nat,k<m→tileIn d (k:Int)=true):=fun k hk=>tileIn_iff.2 ⟨hc.dev,by omega,by omega⟩
 have hpb:=perT_bd hc.dev
 have HIX:Hid (∀k:Nat,k<m→(k:Int) * perT d+6<(N:Int)∧0≤(k:Int) * perT d∧(k:Int) * perT d≤36 * 23):=fun k hk=>by
  have h1:=(node_at (k:=6) (hTT k hk) (by omega) (by omega)).1
  have h2:=(nodeIn_rnP.1 h1).2.2
  exact ⟨by rw [hN];exact h2,Int.mul_nonneg (by omega) (by omega),Int.mul_le_mul (by omega) (by omega) (by omega) (by omega)⟩
 have hIn1:0≤In∧In≤36:=by have h1:=padTo_length d ts 1 ts.length;unfold sqB insL at hIn;omega
 obtain ⟨hIn0,hIn1⟩:=hIn1
 obtain ⟨ti,ht1,ht2,ht3,ht4⟩:=info_parts seq_info
 have HTI:=Lib.hid (And.intro ht1 (And.intro ht2 (And.intro ht3 ht4)))
 have HT:=Lib.hid hT
 have HC:=Lib.hid hc
 have HD:=Lib.hid hD
 have HTM:=Lib.hid htm
 have HIN:=Lib.hid hIn
 rw [F2_zero d ts N hc.dev] at S
 have HS:=Lib.hid S
 have HX:=Lib.hid hexit
 have lD0:=heap_lt0 hD
 clear hT hN hc hD hIn S hexit htm htq hcl ht1 ht2 ht3 ht4
 conv=>arg 2;whnf
 go_loopw [17] (fun i wr=>∃(k:Nat) (SA:Option Addr) (sn sc:Nat),k≤m∧i = .int .i64 k∧sn=(owTo d ts k).length∧Sepa W wr (.cel (celI ((List.range N).map (F2 d ts (owTo d ts k) (2 * (k:Int))))) (.slice (some ⟨gN,0,none⟩) N nc) :: pI :: pO :: lnBlk gL In (.slice SA sn sc) Lv Ov :: pA :: .cel (celSq ((owTo d ts k).map (sq0 d ts))) (.slice SA sn sc) :: rs)) (fun i _=>m - (intOf i).toNat)
 case atStart=>exact ⟨0,none,0,0,by omega,rfl,rfl,HS.out⟩
 case round =>
  obtain ⟨k,SA,sn,sc,hk,rfl,hsn,hs⟩:=hrel
  have hol:=owTo_length d ts k
  have HSN:=Lib.hid hsn
  have HSS:=Lib.hid hs
  have hsn72:sn≤72:=by omega
  clear hsn hol
  by_cases hlt:k<m
  ·have hdk:decide ((k:Int)<(m:Int))=true:=by simp;omega
   obtain ⟨b,o,S',m3,q,L,l,q4,rfl,hbW,-,cl,-,cr,-,rl⟩:=HT.out.tile (k:=k) (by rw [HTM.out];exact hlt)
   change W.cell? ⟨b,o+k * 4+3,none⟩=some (.int .i64 (tileAt ts (k:Int)).ram) at cr
   have CL:=Lib.hid cl
   have CR:=Lib.hid cr
   have RL:=Lib.hid rl
   obtain ⟨gN',hNA,hgN,hgN2,-,-,-⟩:=hs.setI 0 rfl (show 0<N by have:=HIX.out k hlt;omega)
   injection hNA with hNA
   injection hNA with hNA
   subst hNA
   have hne:gD≠gN:=by omega
   have hne2:b≠gN:=by omega
   have hD':=heap_tr hs.bel HD.out
   have d0:=cell_heap (k:=0) hD' rfl
   have d1:=cell_heap (k:=1) hD' rfl
   have d2:=cell_heap (k:=2) hD' rfl
   have d3:=cell_heap (k:=3) hD' rfl
   have lD:=heap_lt0 hD'
   clear hD'
   have HTK:=Lib.hid (fun w'=>stileKind_in d (k:Int) w' (hTT.out k hlt))
   have HOT:Hid (owTo d ts (k+1)=owTo d ts k++owAt d ts k):=rfl
   obtain ⟨hx1,hx2,hx3⟩:=HIX.out k hlt
   obtain ⟨ix,hix⟩:∃ix:Nat,((k:Int) * perT d+5)=(ix:Int):=⟨((k:Int) * perT d+5).toNat,by omega⟩
   have i0:(0:Int)≤(k:Int):=by omega
   have i1:(k:Int)<(m:Int):=by omega
   have i2:ix<N:=by omega
   have hk3:=kindOf_bd d (k:Int)
   have HDV:=Lib.hid HC.out.dev
   clear hs cl cr rl
   generalize hRM:(tileAt ts (k:Int)).ram=ram at *
   have HRM:=Lib.hid hRM
   clear hRM
   generalize hK:kindOf d (k:Int)=K at *
   have HK:=Lib.hid hK
   clear hK
   have HPE:Hid (∃P,perT d=P):=⟨_,rfl⟩
   go_wp2_with fail
   refine (HTK.out _).mono ?_
   rintro e w1 ⟨rfl,b1⟩
   have hs1:=HSS.out.below b1
   have HS1:=Lib.hid hs1
   clear b1 d0 d1 d2 d3 lD
   rcases hk3 with rfl|rfl|rfl
   ·have HSZ:=Lib.hid (show Sepa W w1 (.cel (celI ((List.range N).map (F2 d ts (owTo d ts (k+1)) (2 * ((k+1:Nat):Int))))) (.slice (some ⟨gN,0,none⟩) N nc) :: pI :: pO :: lnBlk gL In (.slice SA sn sc) Lv Ov :: pA :: .cel (celSq ((owTo d ts (k+1)).map (sq0 d ts))) (.slice SA sn sc) :: rs) from by
     rw [show owTo d ts (k+1)=owTo d ts k by rw [HOT.out,owAt,HK.out];exact List.append_nil _,show 2 * ((k+1:Nat):Int)=2 * (k:Int)+2 by omega,←F2_io HDV.out HK.out]
     exact hs1)
    have HSZN:Hid (sn=(owTo d ts (k+1)).length):=by show _=_;rw [show owTo d ts (k+1)=owTo d ts k by rw [HOT.out,owAt,HK.out];exact List.append_nil _];exact HSN.out
    clear hs1
    obtain ⟨wo,rfl⟩:∃y,y=wr:=⟨wr,rfl⟩
    go_wp2_with fail
    go_loopw [18] (fun v wr=>v = .int .i64 0∧Sepa W wr (.cel (celI ((List.range N).map (F2 d ts (owTo d ts (k+1)) (2 * ((k+1:Nat):Int))))) (.slice (some ⟨gN,0,none⟩) N nc) :: pI :: pO :: lnBlk gL In (.slice SA sn sc) Lv Ov :: pA :: .cel (celSq ((owTo d ts (k+1)).map (sq0 d ts))) (.slice SA sn sc) :: rs)) (fun _ _=>0)
    case atStart=>exact ⟨rfl,HSZ.out⟩
    case round =>
     obtain ⟨rfl,hs⟩:=hrel
     have HS4:=Lib.hid hs
     have hD':=heap_tr hs.bel HD.out
     have d0:=cell_heap (k:=0) hD' rfl
     have d1:=cell_heap (k:=1) hD' rfl
     have d2:=cell_heap (k:=2) hD' rfl
     have d3:=cell_heap (k:=3) hD' rfl
     have lD:=heap_lt0 hD'
     clear hD' hs
     go_wp2_with fail
     refine (HTK.out _).mono ?_
     rintro e w5 ⟨rfl,b5⟩
     have HS5:=Lib.hid (HS4.out.below b5)
     clear b5 d0 d1 d2 d3 lD
     go_wp2_with fail
     go_roundw
     case rel=>exact ⟨k+1,SA,sn,sc,by omega,by go_num,HSZN.out,HS5.out⟩
     case measure=>simp [intOf];omega
   ·have HOA:Hid (owAt d ts k=owP ts k 2):=owP_two HK.out
    have HS10:=Lib.hid (show Sepa W w1 (.cel (celI ((List.range N).map (F2 d ts (owTo d ts k++owP ts k 0) (2 * (k:Int)+((0:Nat):Int))))) (.slice (some ⟨gN,0,none⟩) N nc) :: pI :: pO :: lnBlk gL In (.slice SA sn sc) Lv Ov :: pA :: .cel (celSq ((owTo d ts k++owP ts k 0).map (sq0 d ts))) (.slice SA sn sc) :: rs) from by
     rw [show owP ts k 0=[] from rfl,List.append_nil,show 2 * (k:Int)+((0:Nat):Int)=2 * (k:Int) by omega]
     exact hs1)
    have HSN0:Hid (sn=(owTo d ts k++owP ts k 0).length):=by show _=_;rw [show owP ts k 0=[] from rfl,List.append_nil];exact HSN.out
    have hll:=RL.out.elen
    have hl2:=(le_fit (e:=0) HC.out (hTT.out k hlt) (by omega)).2.1
    have hl:l=2:=by rw [←hll];exact hl2
    subst hl
    have HLE:=Lib.hid (fun (e:Nat) (he:e<2)=>RL.out.le (k:=e) (by rw [hll];exact he))
    clear hs1 hll hl2 hsn72
    obtain ⟨wo,rfl⟩:∃y,y=wr:=⟨wr,rfl⟩
    go_wp2_with fail
    go_loopw [18] (fun v wr=>∃(e:Nat) (SA:Option Addr) (sn sc:Nat),e≤2∧v = .int .i64 e∧sn=(owTo d ts k++owP ts k e).length∧Sepa W wr (.cel (celI ((List.range N).map (F2 d ts (owTo d ts k++owP ts k e) (2 * (k:Int)+(e:Int))))) (.slice (some ⟨gN,0,none⟩) N nc) :: pI :: pO :: lnBlk gL In (.slice SA sn sc) Lv Ov :: pA :: .cel (celSq ((owTo d ts k++owP ts k e).map (sq0 d ts))) (.slice SA sn sc) :: rs)) (fun v _=>2 - (intOf v).toNat)
    case atStart=>exact ⟨0,SA,sn,sc,by omega,rfl,HSN0.out,HS10.out⟩
    case round =>
     obtain ⟨e,SA,sn,sc,he,rfl,hsn,hs⟩:=hrel
     have hpl:=owP_len ts k e
     have hol:=owTo_length d ts k
     have HSN2:=Lib.hid hsn
     have HS2:=Lib.hid hs
     have hsn72:sn≤80:=by rw [hsn,List.length_append];omega
     clear hsn hpl hol
     by_cases hlt2:e<2
     ·have hde:decide ((e:Int)<2)=true:=by simp;omega
      obtain ⟨bl,ol,A5,n5,c5,rfl,hbl,-,-,x2,x3,-⟩:=HLE.out e hlt2
      change W.cell? ⟨bl,ol+e * 4+2,none⟩=some (.int .i64 (leAt ts (k:Int) (e:Int)).flop) at x2
      change W.cell? ⟨bl,ol+e * 4+3,none⟩=some (.int .i64 (leAt ts (k:Int) (e:Int)).init) at x3
      have X2:=Lib.hid x2
      have X3:=Lib.hid x3
      have hD':=heap_tr hs.bel HD.out
      have d0:=cell_heap (k:=0) hD' rfl
      have d1:=cell_heap (k:=1) hD' rfl
      have d2:=cell_heap (k:=2) hD' rfl
      have d3:=cell_heap (k:=3) hD' rfl
      have lD:=heap_lt0 hD'
      have HPS:Hid (owP ts k (e+1)=owP ts k e++if (leX ts (2 * (k:Int)+(e:Int))).flop=1 then [2 * (k:Int)+(e:Int)] else []):=rfl
      have HLX:=Lib.hid (leX_eq ts (k:Int) (e:Int) (by omega) (by omega))
      have j0:(0:Int)≤(e:Int):=by omega
      have j1:(e:Int)<2:=by omega
      have j2:((ix:Int)+(e:Int)).toNat=ix+e:=by omega
      have j3:(0:Int)≤(ix:Int)+(e:Int):=by omega
      have j4:(ix:Int)+(e:Int)<(N:Int):=by omega
      have j5:ix+e<N:=by omega
      have HIY:Hid (((ix+e:Nat):Int)=(k:Int) * perT d+(5+(e:Int))):=by show _=_;omega
      clear hs hD' x2 x3
      generalize leAt ts (k:Int) (e:Int)=le at *
      go_wp2_with fail
      refine (HTK.out _).mono ?_
      rintro _ w3 ⟨rfl,b3⟩
      have hs3:=HS2.out.below b3
      obtain ⟨_,hg',_,lN,cN,fN,hN3⟩:=hs3.setI 0 rfl j5
      injection hg' with hg'
      injection hg' with hg'
      subst hg'
      have HN3:=Lib.hid (hN3 (-1))
      clear b3 d0 d1 d2 d3 lD hs3 hN3
      go_upto_region 30 with fail
      clear lN cN fN
      generalize w3.setCell _ _=w4 at *
      have clx:=(HN3.out.bel.cell (p:=⟨b,o+k * 4+1,none⟩) hbW).trans CL.out
      have x2:=(HN3.out.bel.cell (p:=⟨bl,ol+e * 4+2,none⟩) hbl).trans X2.out
      have x3:=(HN3.out.bel.cell (p:=⟨bl,ol+e * 4+3,none⟩) hbl).trans X3.out
      have lb:=below_lt HN3.out.bel hbW
      have lbl:=below_lt HN3.out.bel hbl
      have he01:(e:Int)=0∨(e:Int)=1:=by omega
      have HE01:=Lib.hid he01
      clear he01
      by_cases hf:le.flop=1
      ·have hf1:(le.flop==1)=true:=by simpa using hf
       have HFX:Hid ((leX ts (2 * (k:Int)+(e:Int))).flop=1):=by show _=_;rw [HLX.out];exact hf
       have HR:Hid (owP ts k (e+1)=owP ts k e++[2 * (k:Int)+(e:Int)]):=by show _=_;rw [HPS.out,if_pos HFX.out]
       have HNW:Hid (2 * (k:Int)+(e:Int)∉owTo d ts k++owP ts k e):=fun h=>by
        rcases List.mem_append.1 h with h|h
        ·have:=(owTo_in.1 h).2.1;omega
        ·have:=owP_in h;omega
       have HQ:Hid (sq0 d ts (2 * (k:Int)+(e:Int))=⟨0,le.init,[]⟩):=by show _=_;rw [sq0,(half_two (k:Int) j0 (by omega)).1,HK.out,HLX.out];rfl
       clear hf
       go_upto_region 31 with fail
       go_cut [] from 166 to 180 (fun wx=>∃S2 c2,Sepa W wx (.cel (celI (((List.range N).map (F2 d ts (owTo d ts k++owP ts k e) (2 * (k:Int)+(e:Int)))).set (ix+e) (-1))) (.slice (some ⟨gN,0,none⟩) N nc) :: pI :: pO :: lnBlk gL In (.slice S2 (sn+1) c2) Lv Ov :: pA :: .cel (celSq ((owTo d ts k++owP ts k e).map (sq0 d ts)++[⟨0,le.init,[]⟩])) (.slice S2 (sn+1) c2) :: rs))
       case first =>
        have l1:=cell_heap (k:=1) (HN3.out.blk 3 rfl).1 rfl
        have lL:=heap_lt0 (HN3.out.blk 3 rfl).1
        have HSW:=Lib.hid ((HN3.out.alloc (.cells #[.int .i64 0,.int .i64 le.init,.slice none 0 0] 105)).drew.consSeq 0 le.init)
        refine wp_region_noPanic ?_
        go_region_law ((refine step_sepPushG rfl _ _ _ 105 (by rfl) ti _ 3 40 Tryz.underlying58 HTI.out.1 HTI.out.2.1 HTI.out.2.2.1 HTI.out.2.2.2 rfl (by decide) (by decide) _ HSW.out 6 0 (by decide) sn sc _ SA (((owTo d ts k++owP ts k e).map (sq0 d ts)).flatMap Sq.cells) _ #[.int .i64 0,.int .i64 le.init,.slice none 0 0] _ rfl rfl (by rfl) (by rfl) (heap_new _ (.cells #[.int .i64 0,.int .i64 le.init,.slice none 0 0] 105)) rfl (by omega) ?_);intro g9 cap w9 S9 hz9;have l9:=cell_heap (k:=1) (S9.blk 4 rfl).1 rfl;have f9:=frozen_heap (S9.blk 4 rfl).1 1;have q9:=heap_lt0 (S9.blk 4 rfl).1;have HS9:=Lib.hid S9;clear S9 hz9)
        all_goals
         refine NoPanic.normal ?_
         go_wp2_with fail
         go_meet
         exact ⟨_,_,by rw [celSq,sqs_snoc];exact (HS9.out.put 4 rfl 1 _).tail⟩
       obtain ⟨S2,c2,hS5⟩:=hcut
       obtain ⟨_,hg',_,lN,cN,fN,hN6⟩:=hS5.setI 0 rfl j5
       injection hg' with hg'
       injection hg' with hg'
       subst hg'
       have l0:=cell_heap (k:=0) (hS5.blk 3 rfl).1 rfl
       have l1:=cell_heap (k:=1) (hS5.blk 3 rfl).1 rfl
       have lL:=heap_lt0 (hS5.blk 3 rfl).1
       have hs6:=hN6 (In+((sn:Int)+1))
       rw [List.set_set,show In+((sn:Int)+1)=sqB d ts+((owTo d ts k++owP ts k e).length:Int) by rw [←HIN.out,←HSN2.out];omega] at hs6
       replace hs6:=(show Sepa W _ (.cel (celI (((List.range N).map (F2 d ts (owTo d ts k++owP ts k e) (2 * (k:Int)+(e:Int)))).set (ix+e) (sqB d ts+((owTo d ts k++owP ts k e).length:Int)))) (.slice (some ⟨gN,0,none⟩) N nc) :: pI :: pO :: lnBlk gL In (.slice S2 (sn+1) c2) Lv Ov :: pA :: .cel (celSq ((owTo d ts k++owP ts k e).map (sq0 d ts)++[⟨0,le.init,[]⟩])) (.slice S2 (sn+1) c2) :: rs) from hs6)
       rw [F2_le_yes HDV.out HK.out HE01.out HFX.out HNW.out HIY.out j5,show sqB d ts+((owTo d ts k++owP ts k e).length:Int)=In+((sn:Int)+1) by rw [←HIN.out,←HSN2.out];omega] at hs6
       have HS6:=Lib.hid hs6
       clear hS5 hN6 hs6 clx x2 x3
       go_wp2_with fail
       go_roundw
       case rel=>exact ⟨e+1,S2,sn+1,c2,by omega,by go_num,by rw [HR.out,←List.append_assoc,List.length_append (bs:=[_]),HSN2.out];rfl,by rw [HR.out,←List.append_assoc,List.map_append (l₂:=[_]),List.map_cons,List.map_nil,HQ.out,show 2 * (k:Int)+((e+1:Nat):Int)=2 * (k:Int)+(e:Int)+1 by omega];exact HS6.out⟩
       case measure=>simp [intOf];omega
      ·have hf1:(le.flop==1)=false:=by simpa using hf
       have HFX:Hid (¬(leX ts (2 * (k:Int)+(e:Int))).flop=1):=by show ¬_;rw [HLX.out];exact hf
       have HR:Hid (owP ts k (e+1)=owP ts k e):=by show _=_;rw [HPS.out,if_neg HFX.out,List.append_nil]
       have HS6:=Lib.hid (show Sepa W w4 (.cel (celI ((List.range N).map (F2 d ts (owTo d ts k++owP ts k (e+1)) (2 * (k:Int)+((e+1:Nat):Int))))) (.slice (some ⟨gN,0,none⟩) N nc) :: pI :: pO :: lnBlk gL In (.slice SA sn sc) Lv Ov :: pA :: .cel (celSq ((owTo d ts k++owP ts k (e+1)).map (sq0 d ts))) (.slice SA sn sc) :: rs) from by
        rw [HR.out,show 2 * (k:Int)+((e+1:Nat):Int)=2 * (k:Int)+(e:Int)+1 by omega,←F2_le_no HDV.out HK.out HE01.out HFX.out HIY.out j5]
        exact HN3.out)
       clear hf
       go_wp2_with fail
       go_roundw
       case rel=>exact ⟨e+1,SA,sn,sc,by omega,by go_num,by rw [HR.out];exact HSN2.out,HS6.out⟩
       case measure=>simp [intOf];omega
     ·have he2:e=2:=by omega
      subst he2
      have HFIN:Hid (owTo d ts (k+1)=owTo d ts k++owP ts k 2):=by show _=_;rw [HOT.out,HOA.out]
      clear hs
      go_wp2_with fail
      go_roundw
      case rel=>exact ⟨k+1,SA,sn,sc,by omega,by go_num,by rw [HFIN.out];exact HSN2.out,by rw [HFIN.out,show 2 * ((k+1:Nat):Int)=2 * (k:Int)+((2:Nat):Int) by omega];exact HS2.out⟩
      case measure=>simp [intOf];omega
   ·have HOA:Hid (owAt d ts k=[2 * (k:Int)]):=by show _=_;rw [owAt,HK.out];rfl
    have HR:Hid (owTo d ts (k+1)=owTo d ts k++[2 * (k:Int)]):=by show _=_;rw [HOT.out,HOA.out]
    have HNW:Hid (2 * (k:Int)∉owTo d ts k):=fun h=>by have:=(owTo_in.1 h).2.1;omega
    have HQ:Hid (sq0 d ts (2 * (k:Int))=⟨1,ram,[]⟩):=by show _=_;rw [sq0,show 2 * (k:Int) / 2=(k:Int) by omega,HK.out,HRM.out];rfl
    have HIXX:=Lib.hid hix
    clear hs1
    go_upto_region 24 with fail
    go_cut [] from 115 to 125 (fun wx=>∃S2 c2,Sepa W wx (.cel (celI ((List.range N).map (F2 d ts (owTo d ts k) (2 * (k:Int))))) (.slice (some ⟨gN,0,none⟩) N nc) :: pI :: pO :: lnBlk gL In (.slice S2 (sn+1) c2) Lv Ov :: pA :: .cel (celSq ((owTo d ts k).map (sq0 d ts)++[⟨1,ram,[]⟩])) (.slice S2 (sn+1) c2) :: rs))
    case first =>
     have cr1:=(HS1.out.bel.cell (p:=⟨b,o+k * 4+3,none⟩) hbW).trans CR.out
     have lb:=below_lt HS1.out.bel hbW
     have l1:=cell_heap (k:=1) (HS1.out.blk 3 rfl).1 rfl
     have lL:=heap_lt0 (HS1.out.blk 3 rfl).1
     have HSW:=Lib.hid ((HS1.out.alloc (.cells #[.int .i64 1,.int .i64 ram,.slice none 0 0] 105)).drew.consSeq 1 ram)
     refine wp_region_noPanic ?_
     go_region_law ((refine step_sepPushG rfl _ _ _ 105 (by rfl) ti _ 3 40 Tryz.underlying58 HTI.out.1 HTI.out.2.1 HTI.out.2.2.1 HTI.out.2.2.2 rfl (by decide) (by decide) _ HSW.out 6 0 (by decide) sn sc _ SA (((owTo d ts k).map (sq0 d ts)).flatMap Sq.cells) _ #[.int .i64 1,.int .i64 ram,.slice none 0 0] _ rfl rfl (by rfl) (by rfl) (heap_new _ (.cells #[.int .i64 1,.int .i64 ram,.slice none 0 0] 105)) rfl (by omega) ?_);intro g9 cap w9 S9 hz9;have l9:=cell_heap (k:=1) (S9.blk 4 rfl).1 rfl;have f9:=frozen_heap (S9.blk 4 rfl).1 1;have q9:=heap_lt0 (S9.blk 4 rfl).1;have HS9:=Lib.hid S9;clear S9 hz9)
     all_goals
      refine NoPanic.normal ?_
      go_wp2_with fail
      go_meet
      exact ⟨_,_,by rw [celSq,sqs_snoc];exact (HS9.out.put 4 rfl 1 _).tail⟩
    obtain ⟨S2,c2,hS5⟩:=hcut
    obtain ⟨_,hg',_,lN,cN,fN,hN6⟩:=hS5.setI 0 rfl i2
    injection hg' with hg'
    injection hg' with hg'
    subst hg'
    have l0:=cell_heap (k:=0) (hS5.blk 3 rfl).1 rfl
    have l1:=cell_heap (k:=1) (hS5.blk 3 rfl).1 rfl
    have lL:=heap_lt0 (hS5.blk 3 rfl).1
    have hs6:=hN6 (In+((sn:Int)+1))
    clear hS5 hN6
    go_upto_region 26 with fail
    have HS6:=Lib.hid hs6
    clear lN cN fN l0 l1 lL hs6
    generalize wc.setCell _ _=w6 at *
    have HSZ:=Lib.hid (show Sepa W w6 (.cel (celI ((List.range N).map (F2 d ts (owTo d ts (k+1)) (2 * ((k+1:Nat):Int))))) (.slice (some ⟨gN,0,none⟩) N nc) :: pI :: pO :: lnBlk gL In (.slice S2 (sn+1) c2) Lv Ov :: pA :: .cel (celSq ((owTo d ts (k+1)).map (sq0 d ts))) (.slice S2 (sn+1) c2) :: rs) from by
     rw [HR.out,show 2 * ((k+1:Nat):Int)=2 * (k:Int)+2 by omega,←F2_ram HDV.out HK.out HNW.out HIXX.out.symm i2,show sqB d ts+((owTo d ts k).length:Int)=In+((sn:Int)+1) by rw [←HIN.out,HSN.out];omega,List.map_append,List.map_cons,List.map_nil,HQ.out]
     exact HS6.out)
    have HSZN:Hid (sn+1=(owTo d ts (k+1)).length):=by show _=_;rw [HR.out,List.length_append,HSN.out];rfl
    obtain ⟨wo,rfl⟩:∃y,y=wr:=⟨wr,rfl⟩
    go_wp2_with fail
    go_loopw [18] (fun v wr=>v = .int .i64 0∧Sepa W wr (.cel (celI ((List.range N).map (F2 d ts (owTo d ts (k+1)) (2 * ((k+1:Nat):Int))))) (.slice (some ⟨gN,0,none⟩) N nc) :: pI :: pO :: lnBlk gL In (.slice S2 (sn+1) c2) Lv Ov :: pA :: .cel (celSq ((owTo d ts (k+1)).map (sq0 d ts))) (.slice S2 (sn+1) c2) :: rs)) (fun _ _=>0)
    case atStart=>exact ⟨rfl,HSZ.out⟩
    case round =>
     obtain ⟨rfl,hs⟩:=hrel
     have HS4:=Lib.hid hs
     have hD':=heap_tr hs.bel HD.out
     have d0:=cell_heap (k:=0) hD' rfl
     have d1:=cell_heap (k:=1) hD' rfl
     have d2:=cell_heap (k:=2) hD' rfl
     have d3:=cell_heap (k:=3) hD' rfl
     have lD:=heap_lt0 hD'
     clear hD' hs
     go_wp2_with fail
     refine (HTK.out _).mono ?_
     rintro e w5 ⟨rfl,b5⟩
     have HS5:=Lib.hid (HS4.out.below b5)
     clear b5 d0 d1 d2 d3 lD
     go_wp2_with fail
     go_roundw
     case rel=>exact ⟨k+1,S2,sn+1,c2,by omega,by go_num,HSZN.out,HS5.out⟩
     case measure=>simp [intOf];omega
  ·have hkm:k=m:=by omega
   have hdk:decide ((k:Int)<(m:Int))=false:=by simp;omega
   have e1:owTo d ts k=owL d ts:=by unfold owL;rw [HTM.out,←hkm]
   have hse:sn=(owL d ts).length:=by rw [←e1];exact HSN.out
   rw [e1] at hs
   subst hse
   rw [show 2 * (k:Int)=2 * (m:Int) by omega] at hs
   have HS2:=Lib.hid hs
   clear hs hkm e1
   go_wp2_with fail
   apply HX.out
   exact HS2.out
end Go.Proofs.YtignkfhdkcgkgaaGreat
