/- The loop over the logic elements of a tile that sets the inputs of flip-flops, in the reference's Disassemble (printed by mkdiss4.py). The eighth loop of the reference's Disassemble: what goes into the sequential elements (printed by mkdiss4.py). -/
import Derived.Test.YtignkfhdkcgkgaaGreatDisR9
import Derived.Test.YtignkfhdkcgkgaaGreatDisRB
namespace Go.Proofs.YtignkfhdkcgkgaaGreat
set_option maxRecDepth 100000
open Go.RowKit

set_option maxRecDepth 100000 in
set_option maxHeartbeats 8000000 in
theorem dsr_lp10 (W:World) (gD gN gL gU:Nat) (d:Dev) (ts:List Tile) (TA:Option Addr) (m tc N nc M uc:Nat) (DA:Option Addr) (dc:Nat) (In:Int) (SA:Option Addr) (sn sc:Nat) (Lv Ov:Value) (pl:List Int) (pI pO pA pQ:Pc) (rs:List Pc) (t s:Nat) {v0 v1 v3 v4 v5 v6 v7 v8 v13 v14 v16 v17 v18 v20 v21 v22 v23 v24 v25 v26 v27 v30 v31 v33 v34 v35 v36 v37 v38 v39 v40 v41 v42 v43 v44 v45 v46 v47 v48 v49 v50 v51 v52 v53 v54 v55 v56 v57 v58 v59 v60 v61 v62 v63 v64 v65 v66 v67 v68 v69 v70 v71 v72 v73 v74 v75 v76 v77 v78 v79 v80 v81 v82 v83 v84 v85 v86 v87 v88 v89 v90 v91 v92 v93 v94 v95 v96 v97 v98 v99 v100 v101 v102 v103 v104 v105 v106 v107 v108 v109 v110 v111 v112 v113 v114 v115 v116 v117 v118 v119 v120 v121 v122 v123 v124 v125 v126 v127 v128 v129 v130 v131 v132 v133 v134 v135 v136 v137 v138 v139 v140 v141 v142 v143 v144 v145 v146 v147 v148 v149 v150 v151 v152 v153 v154 v155 v156 v157 v158 v159 v160 v161 v162 v163 v164 v165 v166 v167 v168 v169 v170 v171 v172 v173 v174 v175 v176 v177 v178 v179 v180 v181 v182 v183 v184 v185 v186 v187 v188 v189 v190 v191 v192 v193 v194 v195 v196 v197 v198 v199 v200 v201 v202 v203 v204 v205 v206 v207 v208 v209 v210 v211 v212 v213 v214 v215 v216 v217 v218 v219 v220 v221 v222 v223 v224 v225 v226 v227 v228 v229 v230 v231 v232 v233 v234 v235 v236 v237 v238 v239 v240 v241 v242 v243 v244 v245 v246 v247 v248 v249 v250 v251 v252 v253 v254 v255 v256 v257 v258 v259 v260 v261 v262 v263 v264 v265 v266 v267 v268 v269 v270 v271 v272 v273 v274 v275 v276 v277 v278 v279 v280 v281 v282 v283 v284 v285 v286 v287 v288 v289 v290 v291 v292 v293 v294 v295 v296 v297 v298 v299 v300 v301 v302 v303 v304 v305 v306 v307 v308 v309 v310 v311 v312 v313 v314 v315 v316 v317 v318 v319 v320 v321 v322 v323 v324 v325 v326 v327 v328 v329 v330 v331 v332 v333 v334 v335 v336 v337 v338 v339 v340 v341 v342 v343 v344 v345 v346 v347 v348 v349 v350 v351 v352 v353 v354 v355 v356 v357 v358 v359 v360 v361 v362 v363 v364 v365 v366 v367 v368 v369 v370 v371 v372 v373 v374 v375 v376 v377 v378 v379 v380 v381 v382 v383 v384 v385 v386 v387 v388 v389 v390 v391 v392 v393 v394 v395 v396 v397 v398 v399 v400 v401 v402 v403 v404 v405 v406 v407 v408 v409 v410 v411 v412 v413 v414 v415 v416 v417 v418 v419 v420 v421 v422 v423 v424 v425 v426 v427 v428 v429 v430 v431 v432 v433 v434 v435 v436 v437 v438 v439 v440 v441 v442 v443 v444 v445 v446 v447 v448 v449 v450 v451 v452 v453 v454 v455 v456 v457 v458 v459 v460 v461 v462 v463 v464 v465 v466 v467 v468 v469 v470 v471:Value} {Q0:Exit→Act→World→Prop} (w:World) (hT:RdC W W.heap.size (celT ts) (.slice TA m tc)) (_hN:(N:Int)=nodesOf d) (hc:CfgOk d ts) (hD:W.heap[gD]?=some (.cells #[.int .i64 d.W,.int .i64 d.H,.int .i64 d.T,.int .i64 d.R] 25 (0,0))) (_hDr:Ints W DA N (drvTo d ts N)) (hM:M=2 * m) (hs:kindOf d (t:Int)=1→s=(owTo d ts t).length) (htm:t<m) (S:Sepa W w (.cel (celI ((List.range N).map (F3 d ts pl))) (.slice (some ⟨gN,0,none⟩) N nc) :: pI :: pO :: lnBlk gL In (.slice SA sn sc) Lv Ov :: pA :: .cel (celSq (sqMid d ts pl s)) (.slice SA sn sc) :: pQ :: .cel (celI ((List.range M).map fun (y:Nat)=>numF (ltB d ts) pl (y:Int))) (.slice (some ⟨gU,0,none⟩) M uc) :: rs))
  (hexit:∀(s2:Nat) (y32 y407 y408 y409 y410 y411 y412 y413 y414 y415 y416 y417 y418 y419 y420 y421 y422 y423 y424 y425 y426 y427 y428 y429 y430 y431 y432 y433 y434 y435 y436 y437 y438 y439 y440 y441:Value) (w':World),s2=(if kindOf d (t:Int)=1 then (owTo d ts (t+1)).length else s)∧Sepa W w' (.cel (celI ((List.range N).map (F3 d ts pl))) (.slice (some ⟨gN,0,none⟩) N nc) :: pI :: pO :: lnBlk gL In (.slice SA sn sc) Lv Ov :: pA :: .cel (celSq (sqMid d ts pl s2)) (.slice SA sn sc) :: pQ :: .cel (celI ((List.range M).map fun (y:Nat)=>numF (ltB d ts) pl (y:Int))) (.slice (some ⟨gU,0,none⟩) M uc) :: rs)→Q0 (.exit 18) ⟨List.toArray (v0 :: v1 :: .pointer (some ⟨gD,0,none⟩) :: v3 :: v4 :: v5 :: v6 :: v7 :: v8 :: .slice TA m tc :: .int .i64 (perT d) :: .slice DA N dc :: .pointer (some ⟨gL,0,none⟩) :: v13 :: v14 :: .slice (some ⟨gN,0,none⟩) N nc :: v16 :: v17 :: v18 :: .slice (some ⟨gU,0,none⟩) M uc :: v20 :: v21 :: v22 :: v23 :: v24 :: v25 :: v26 :: v27 :: .int .i64 (s2:Int) :: .int .i64 (t:Int) :: v30 :: v31 :: y32 :: v33 :: v34 :: v35 :: v36 :: v37 :: v38 :: v39 :: v40 :: v41 :: v42 :: v43 :: v44 :: v45 :: v46 :: v47 :: v48 :: v49 :: v50 :: v51 :: v52 :: v53 :: v54 :: v55 :: v56 :: v57 :: v58 :: v59 :: v60 :: v61 :: v62 :: v63 :: v64 :: v65 :: v66 :: v67 :: v68 :: v69 :: v70 :: v71 :: v72 :: v73 :: v74 :: v75 :: v76 :: v77 :: v78 :: v79 :: v80 :: v81 :: v82 :: v83 :: v84 :: v85 :: v86 :: v87 :: v88 :: v89 :: v90 :: v91 :: v92 :: v93 :: v94 :: v95 :: v96 :: v97 :: v98 :: v99 :: v100 :: v101 :: v102 :: v103 :: v104 :: v105 :: v106 :: v107 :: v108 :: v109 :: v110 :: v111 :: v112 :: v113 :: v114 :: v115 :: v116 :: v117 :: v118 :: v119 :: v120 :: v121 :: v122 :: v123 :: v124 :: v125 :: v126 :: v127 :: v128 :: v129 :: v130 :: v131 :: v132 :: v133 :: v134 :: v135 :: v136 :: v137 :: v138 :: v139 :: v140 :: v141 :: v142 :: v143 :: v144 :: v145 :: v146 :: v147 :: v148 :: v149 :: v150 :: v151 :: v152 :: v153 :: v154 :: v155 :: v156 :: v157 :: v158 :: v159 :: v160 :: v161 :: v162 :: v163 :: v164 :: v165 :: v166 :: v167 :: v168 :: v169 :: v170 :: v171 :: v172 :: v173 :: v174 :: v175 :: v176 :: v177 :: v178 :: v179 :: v180 :: v181 :: v182 :: v183 :: v184 :: v185 :: v186 :: v187 :: v188 :: v189 :: v190 :: v191 :: v192 :: v193 :: v194 :: v195 :: v196 :: v197 :: v198 :: v199 :: v200 :: v201 :: v202 :: v203 :: v204 :: v205 :: v206 :: v207 :: v208 :: v209 :: v210 :: v211 :: v212 :: v213 :: v214 :: v215 :: v216 :: v217 :: v218 :: v219 :: v220 :: v221 :: v222 :: v223 :: v224 :: v225 :: v226 :: v227 :: v228 :: v229 :: v230 :: v231 :: v232 :: v233 :: v234 :: v235 :: v236 :: v237 :: v238 :: v239 :: v240 :: v241 :: v242 :: v243 :: v244 :: v245 :: v246 :: v247 :: v248 :: v249 :: v250 :: v251 :: v252 :: v253 :: v254 :: v255 :: v256 :: v257 :: v258 :: v259 :: v260 :: v261 :: v262 :: v263 :: v264 :: v265 :: v266 :: v267 :: v268 :: v269 :: v270 :: v271 :: v272 :: v273 :: v274 :: v275 :: v276 :: v277 :: v278 :: v279 :: v280 :: v281 :: v282 :: v283 :: v284 :: v285 :: v286 :: v287 :: v288 :: v289 :: v290 :: v291 :: v292 :: v293 :: v294 :: v295 :: v296 :: v297 :: v298 :: v299 :: v300 :: v301 :: v302 :: v303 :: v304 :: v305 :: v306 :: v307 :: v308 :: v309 :: v310 :: v311 :: v312 :: v313 :: v314 :: v315 :: v316 :: v317 :: v318 :: v319 :: v320 :: v321 :: v322 :: v323 :: v324 :: v325 :: v326 :: v327 :: v328 :: v329 :: v330 :: v331 :: v332 :: v333 :: v334 :: v335 :: v336 :: v337 :: v338 :: v339 :: v340 :: v341 :: v342 :: v343 :: v344 :: v345 :: v346 :: v347 :: v348 :: v349 :: v350 :: v351 :: v352 :: v353 :: v354 :: v355 :: v356 :: v357 :: v358 :: v359 :: v360 :: v361 :: v362 :: v363 :: v364 :: v365 :: v366 :: v367 :: v368 :: v369 :: v370 :: v371 :: v372 :: v373 :: v374 :: v375 :: v376 :: v377 :: v378 :: v379 :: v380 :: v381 :: v382 :: v383 :: v384 :: v385 :: v386 :: v387 :: v388 :: v389 :: v390 :: v391 :: v392 :: v393 :: v394 :: v395 :: v396 :: v397 :: v398 :: v399 :: v400 :: v401 :: v402 :: v403 :: v404 :: v405 :: v406 :: y407 :: y408 :: y409 :: y410 :: y411 :: y412 :: y413 :: y414 :: y415 :: y416 :: y417 :: y418 :: y419 :: y420 :: y421 :: y422 :: y423 :: y424 :: y425 :: y426 :: y427 :: y428 :: y429 :: y430 :: y431 :: y432 :: y433 :: y434 :: y435 :: y436 :: y437 :: y438 :: y439 :: y440 :: y441 :: v442 :: v443 :: v444 :: v445 :: v446 :: v447 :: v448 :: v449 :: v450 :: v451 :: v452 :: v453 :: v454 :: v455 :: v456 :: v457 :: v458 :: v459 :: v460 :: v461 :: v462 :: v463 :: v464 :: v465 :: v466 :: v467 :: v468 :: v469 :: v470 :: v471 :: []),[]⟩ w')
  : Code.wp Tryz.prog (loopD (loopAt Tryz.f29 3) 1) Q0 ⟨List.toArray (v0 :: v1 :: .pointer (some ⟨gD,0,none⟩) :: v3 :: v4 :: v5 :: v6 :: v7 :: v8 :: .slice TA m tc :: .int .i64 (perT d) :: .slice DA N dc :: .pointer (some ⟨gL,0,none⟩) :: v13 :: v14 :: .slice (some ⟨gN,0,none⟩) N nc :: v16 :: v17 :: v18 :: .slice (some ⟨gU,0,none⟩) M uc :: v20 :: v21 :: v22 :: v23 :: v24 :: v25 :: v26 :: v27 :: .int .i64 (s:Int) :: .int .i64 (t:Int) :: v30 :: v31 :: .int .i64 0 :: v33 :: v34 :: v35 :: v36 :: v37 :: v38 :: v39 :: v40 :: v41 :: v42 :: v43 :: v44 :: v45 :: v46 :: v47 :: v48 :: v49 :: v50 :: v51 :: v52 :: v53 :: v54 :: v55 :: v56 :: v57 :: v58 :: v59 :: v60 :: v61 :: v62 :: v63 :: v64 :: v65 :: v66 :: v67 :: v68 :: v69 :: v70 :: v71 :: v72 :: v73 :: v74 :: v75 :: v76 :: v77 :: v78 :: v79 :: v80 :: v81 :: v82 :: v83 :: v84 :: v85 :: v86 :: v87 :: v88 :: v89 :: v90 :: v91 :: v92 :: v93 :: v94 :: v95 :: v96 :: v97 :: v98 :: v99 :: v100 :: v101 :: v102 :: v103 :: v104 :: v105 :: v106 :: v107 :: v108 :: v109 :: v110 :: v111 :: v112 :: v113 :: v114 :: v115 :: v116 :: v117 :: v118 :: v119 :: v120 :: v121 :: v122 :: v123 :: v124 :: v125 :: v126 :: v127 :: v128 :: v129 :: v130 :: v131 :: v132 :: v133 :: v134 :: v135 :: v136 :: v137 :: v138 :: v139 :: v140 :: v141 :: v142 :: v143 :: v144 :: v145 :: v146 :: v147 :: v148 :: v149 :: v150 :: v151 :: v152 :: v153 :: v154 :: v155 :: v156 :: v157 :: v158 :: v159 :: v160 :: v161 :: v162 :: v163 :: v164 :: v165 :: v166 :: v167 :: v168 :: v169 :: v170 :: v171 :: v172 :: v173 :: v174 :: v175 :: v176 :: v177 :: v178 :: v179 :: v180 :: v181 :: v182 :: v183 :: v184 :: v185 :: v186 :: v187 :: v188 :: v189 :: v190 :: v191 :: v192 :: v193 :: v194 :: v195 :: v196 :: v197 :: v198 :: v199 :: v200 :: v201 :: v202 :: v203 :: v204 :: v205 :: v206 :: v207 :: v208 :: v209 :: v210 :: v211 :: v212 :: v213 :: v214 :: v215 :: v216 :: v217 :: v218 :: v219 :: v220 :: v221 :: v222 :: v223 :: v224 :: v225 :: v226 :: v227 :: v228 :: v229 :: v230 :: v231 :: v232 :: v233 :: v234 :: v235 :: v236 :: v237 :: v238 :: v239 :: v240 :: v241 :: v242 :: v243 :: v244 :: v245 :: v246 :: v247 :: v248 :: v249 :: v250 :: v251 :: v252 :: v253 :: v254 :: v255 :: v256 :: v257 :: v258 :: v259 :: v260 :: v261 :: v262 :: v263 :: v264 :: v265 :: v266 :: v267 :: v268 :: v269 :: v270 :: v271 :: v272 :: v273 :: v274 :: v275 :: v276 :: v277 :: v278 :: v279 :: v280 :: v281 :: v282 :: v283 :: v284 :: v285 :: v286 :: v287 :: v288 :: v289 :: v290 :: v291 :: v292 :: v293 :: v294 :: v295 :: v296 :: v297 :: v298 :: v299 :: v300 :: v301 :: v302 :: v303 :: v304 :: v305 :: v306 :: v307 :: v308 :: v309 :: v310 :: v311 :: v312 :: v313 :: v314 :: v315 :: v316 :: v317 :: v318 :: v319 :: v320 :: v321 :: v322 :: v323 :: v324 :: v325 :: v326 :: v327 :: v328 :: v329 :: v330 :: v331 :: v332 :: v333 :: v334 :: v335 :: v336 :: v337 :: v338 :: v339 :: v340 :: v341 :: v342 :: v343 :: v344 :: v345 :: v346 :: v347 :: v348 :: v349 :: v350 :: v351 :: v352 :: v353 :: v354 :: v355 :: v356 :: v357 :: v358 :: v359 :: v360 :: v361 :: v362 :: v363 :: v364 :: v365 :: v366 :: v367 :: v368 :: v369 :: v370 :: v371 :: v372 :: v373 :: v374 :: v375 :: v376 :: v377 :: v378 :: v379 :: v380 :: v381 :: v382 :: v383 :: v384 :: v385 :: v386 :: v387 :: v388 :: v389 :: v390 :: v391 :: v392 :: v393 :: v394 :: v395 :: v396 :: v397 :: v398 :: v399 :: v400 :: v401 :: v402 :: v403 :: v404 :: v405 :: v406 :: v407 :: v408 :: v409 :: v410 :: v411 :: v412 :: v413 :: v414 :: v415 :: v416 :: v417 :: v418 :: v419 :: v420 :: v421 :: v422 :: v423 :: v424 :: v425 :: v426 :: v427 :: v428 :: v429 :: v430 :: v431 :: v432 :: v433 :: v434 :: v435 :: v436 :: v437 :: v438 :: v439 :: v440 :: v441 :: v442 :: v443 :: v444 :: v445 :: v446 :: v447 :: v448 :: v449 :: v450 :: v451 :: v452 :: v453 :: v454 :: v455 :: v456 :: v457 :: v458 :: v459 :: v460 :: v461 :: v462 :: v463 :: v464 :: v465 :: v466 :: v467 :: v468 :: v469 :: v470 :: v471 :: []),[]⟩ w:=by
 have htl:=hT.tlen
 have htq:=tiles_eq hc.dev
 have hcl:=hc.len
 have hti:tileIn d (t:Int)=true:=tileIn_iff.2 ⟨hc.dev,by omega,by omega⟩
 have HD:=Lib.hid hD
 have HX:=Lib.hid hexit
 have HTK:=Lib.hid (fun w'=>stileKind_in d (t:Int) w' hti)
 have lD0:=heap_lt0 hD
 have i0:(0:Int)≤(t:Int):=by omega
 have i1:(t:Int)<(m:Int):=by omega
 have i3:(t:Int)≤36:=by omega
 by_cases hK:kindOf d (t:Int)=1
 ·replace hs:=hs hK
  have hol:=owTo_length d ts t
  obtain ⟨b,o,S',m3,q',L,l,q4,rfl,hbW,-,cl,-,-,-,rl⟩:=hT.tile (k:=t) (by omega)
  change RdC W W.heap.size (celE (tileAt ts (t:Int)).les) (.slice L l q4) at rl
  have hll':=rl.elen
  have hl2:=(le_fit (e:=0) hc hti (by omega)).2.1
  have hl:l=2:=by rw [←hll'];exact hl2
  subst hl
  have HLE:=Lib.hid (fun (e:Nat) (he:e<2)=>rl.le (k:=e) (by rw [hll'];exact he))
  have CL:=Lib.hid cl
  have HLP:Hid (0<ltB d ts):=by have:=ltB_pos d ts;show _<_;omega
  have HLQ:Hid (ltB d ts≤200):=by have h1:=padTo_length d ts 1 ts.length;have h2:=owTo_length d ts ts.length;show _≤_;unfold ltB insL owL;omega
  have HOA:Hid (owAt d ts t=owP ts t 2):=owP_two hK
  have HAT:=Lib.hid (fun (e:Nat) (he:e<2) (hf:(leX ts (2 * (t:Int)+(e:Int))).flop=1)=>by
   obtain ⟨b,hb⟩:=owP_pre ts t he hf
   exact owL_at (d:=d) (ts:=ts) (k:=t) (by omega) (owP ts t e) b (2 * (t:Int)+(e:Int)) (HOA.out.trans hb))
  have HFIN:Hid (owTo d ts (t+1)=owTo d ts t++owP ts t 2):=by show _=_;rw [owTo,HOA.out]
  have hsn:=OwnC.sqLen (S.rd 5 rfl)
  rw [sqMid_length] at hsn
  have HSNL:=Lib.hid hsn
  have HS0:=Lib.hid (show Sepa W w (.cel (celI ((List.range N).map (F3 d ts pl))) (.slice (some ⟨gN,0,none⟩) N nc) :: pI :: pO :: lnBlk gL In (.slice SA sn sc) Lv Ov :: pA :: .cel (celSq (sqMid d ts pl (owTo d ts t++owP ts t 0).length)) (.slice SA sn sc) :: pQ :: .cel (celI ((List.range M).map fun (y:Nat)=>numF (ltB d ts) pl (y:Int))) (.slice (some ⟨gU,0,none⟩) M uc) :: rs) from by rw [show owP ts t 0=[] from rfl,List.append_nil,←hs];exact S)
  have HSL:Hid (s=(owTo d ts t++owP ts t 0).length):=by show _=_;rw [show owP ts t 0=[] from rfl,List.append_nil];exact hs
  have HK1:Hid (kindOf d (t:Int)=1):=hK
  have HTI:=Lib.hid hti
  have HC:=Lib.hid hc
  have HM1:Hid (2 * (t:Int)+2≤(M:Int)):=by show _≤_;omega
  have hM72:M≤72:=by omega
  have hsn72:sn≤72:=by have:=owTo_length d ts ts.length;unfold owL at hsn;omega
  have hsz:s=(owTo d ts t).length+0:=hs
  have HSZ:=Lib.hid hsz
  rw [hK] at HTK
  clear hT hc hD hM hs S hexit htl htq hcl hti cl rl hll' hl2 hsn hK hsz hol
  conv=>arg 2;whnf
  go_loopw [28,32] (fun sv ev wr=>∃(e s:Nat),e≤2∧ev = .int .i64 (e:Int)∧sv = .int .i64 (s:Int)∧s=(owTo d ts t++owP ts t e).length∧Sepa W wr (.cel (celI ((List.range N).map (F3 d ts pl))) (.slice (some ⟨gN,0,none⟩) N nc) :: pI :: pO :: lnBlk gL In (.slice SA sn sc) Lv Ov :: pA :: .cel (celSq (sqMid d ts pl s)) (.slice SA sn sc) :: pQ :: .cel (celI ((List.range M).map fun (y:Nat)=>numF (ltB d ts) pl (y:Int))) (.slice (some ⟨gU,0,none⟩) M uc) :: rs)) (fun _ ev _=>2 - (intOf ev).toNat)
  case atStart=>exact ⟨0,s,by omega,rfl,rfl,HSL.out,by rw [HSL.out];exact HS0.out⟩
  case round =>
   obtain ⟨e,s,he,rfl,rfl,hsl,hs⟩:=hrel
   have HSE:=Lib.hid hsl
   have HS1:=Lib.hid hs
   have hs80:s≤80:=by have h1:=owTo_length d ts t;have h2:=owP_len ts t e;rw [hsl,List.length_append];omega
   have hD':=heap_tr hs.bel HD.out
   have d0:=cell_heap (k:=0) hD' rfl
   have d1:=cell_heap (k:=1) hD' rfl
   have d2:=cell_heap (k:=2) hD' rfl
   have d3:=cell_heap (k:=3) hD' rfl
   have lD:=heap_lt0 hD'
   clear hD'
   clear hsl hs
   by_cases hlt2:e<2
   ·have hde:decide ((e:Int)<2)=true:=by simp;omega
    obtain ⟨bl,ol,A5,n5,c5,hL,hbl,-,-,x2,-,-⟩:=HLE.out e hlt2
    subst hL
    change W.cell? ⟨bl,ol+e * 4+2,none⟩=some (.int .i64 (leAt ts (t:Int) (e:Int)).flop) at x2
    have X2:=Lib.hid x2
    have HLX:=Lib.hid (leX_eq ts (t:Int) (e:Int) (by omega) (by omega))
    have HATE:=Lib.hid (HAT.out e hlt2)
    have HPS:Hid (owP ts t (e+1)=owP ts t e++if (leX ts (2 * (t:Int)+(e:Int))).flop=1 then [2 * (t:Int)+(e:Int)] else []):=rfl
    clear x2 HLE HAT
    generalize leAt ts (t:Int) (e:Int)=le at *
    have j0:(0:Int)≤(e:Int):=by omega
    have j1:(e:Int)<2:=by omega
    have j2:(2 * (t:Int)+(e:Int)).toNat=2 * t+e:=by omega
    have j3:(0:Int)≤2 * (t:Int)+(e:Int):=by omega
    have j4:2 * (t:Int)+(e:Int)<(M:Int):=by have:=HM1.out;omega
    have j5:2 * t+e<M:=by omega
    have HUX:Hid (((2 * t+e:Nat):Int)=2 * (t:Int)+(e:Int)):=by show _=_;omega
    go_wp2_with fail
    refine (HTK.out _).mono ?_
    rintro _ w3 ⟨rfl,b3⟩
    have HS3:=Lib.hid (HS1.out.below b3)
    have x2:=(HS3.out.bel.cell (p:=⟨bl,ol+e * 4+2,none⟩) hbl).trans X2.out
    have c1:=(HS3.out.bel.cell (p:=⟨b,o+t * 4+1,none⟩) hbW).trans CL.out
    have l1:=below_lt HS3.out.bel hbW
    have l2:=below_lt HS3.out.bel hbl
    clear b3 d0 d1 d2 d3 lD
    by_cases hf:le.flop=1
    ·have hf1:(le.flop==1)=true:=by simp [hf]
     have HFX:Hid ((leX ts (2 * (t:Int)+(e:Int))).flop=1):=by show _=_;rw [HLX.out];exact hf
     have HR:Hid (owP ts t (e+1)=owP ts t e++[2 * (t:Int)+(e:Int)]):=by show _=_;rw [HPS.out,if_pos HFX.out]
     have hx:=HATE.out HFX.out
     rw [←HSE.out] at hx
     have hssn:s<sn:=by have:=(List.getElem?_eq_some_iff.1 hx).1;have:=HSNL.out;omega
     have HGX:=Lib.hid (sqMid_get (pl:=pl) hx)
     have HMX:=Lib.hid (sqMid_set (pl:=pl) hx)
     have hkx:kindOf d ((2 * (t:Int)+(e:Int)) / 2)=1:=by rw [(half_two (t:Int) j0 (by omega)).1];exact HK1.out
     have HQ2:Hid ({ sq0 d ts (2 * (t:Int)+(e:Int)) with ins:=[numF (ltB d ts) pl (2 * (t:Int)+(e:Int))] }=sqOf d ts pl (2 * (t:Int)+(e:Int))):=by show _=_;rw [sqOf,sqI,hkx];rfl
     have cU:=ints_at0 (HS3.out.ints 7 rfl) (luts_get (base:=ltB d ts) (pl:=pl) j5)
     have HUI:=Lib.hid (fun (w':World) (L:List Sq) (h:Sepa W w' (.cel (celI ((List.range N).map (F3 d ts pl))) (.slice (some ⟨gN,0,none⟩) N nc) :: pI :: pO :: lnBlk gL In (.slice SA sn sc) Lv Ov :: pA :: .cel (celSq (L)) (.slice SA sn sc) :: pQ :: .cel (celI ((List.range M).map fun (y:Nat)=>numF (ltB d ts) pl (y:Int))) (.slice (some ⟨gU,0,none⟩) M uc) :: rs))=>ints_at0 (h.ints 7 rfl) (luts_get (base:=ltB d ts) (pl:=pl) j5))
     rw [HUX.out] at cU HUI
     have HNB:=Lib.hid (numF_bd (base:=ltB d ts) (l:=pl) (x:=2 * (t:Int)+(e:Int)) (by have:=HLP.out;omega))
     generalize hV:numF (ltB d ts) pl (2 * (t:Int)+(e:Int))=V at *
     clear hV
     have hm2:=(flatS_at Sq.cells_length HGX.out (j:=2) (by omega)).trans rfl
     obtain ⟨gS,hSA,hgS2,hgS3,-,-,-⟩:=HS3.out.num 5 rfl (i:=s * 3+0) ((flatS_at Sq.cells_length HGX.out (by omega)).trans rfl)
     subst hSA
     have lU:gU<w3.heap.size:=by
      obtain ⟨_,hg,_,h,-⟩:=HS3.out.setI 7 rfl j5
      injection hg with hg
      injection hg with hg
      rw [hg];exact h
     have g1:=cell_heap (k:=1) (HS3.out.blk 3 rfl).1 rfl
     have lL:=heap_lt0 (HS3.out.blk 3 rfl).1
     obtain ⟨IA,il,ic,hci,hil,hfi,-⟩:=HS3.out.rowSlice 5 (s * 3+2) rfl hm2
     have s0:(0:Int)≤(s:Int):=by omega
     have s1:(s:Int)<(sn:Int):=by omega
     clear hx hf
     go_upto_region 80 with fail
     go_cut [] from 427 to 439 (fun wx=>Sepa W wx (.cel (celI ((List.range N).map (F3 d ts pl))) (.slice (some ⟨gN,0,none⟩) N nc) :: pI :: pO :: lnBlk gL In (.slice (some ⟨gS,0,none⟩) sn sc) Lv Ov :: pA :: .cel (celSq (sqMid d ts pl (s+1))) (.slice (some ⟨gS,0,none⟩) sn sc) :: pQ :: .cel (celI ((List.range M).map fun (y:Nat)=>numF (ltB d ts) pl (y:Int))) (.slice (some ⟨gU,0,none⟩) M uc) :: rs))
     case first =>
      obtain ⟨g',hg',-,-,-,-,hSl⟩:=(HS3.out.consLit V).slot 6 0 (by decide) (m:=s * 3+2) rfl hm2 rfl
      injection hg' with hg'
      injection hg' with hg'
      subst hg'
      have e':=flatS_set Sq.cells_length (y:={ sq0 d ts (2 * (t:Int)+(e:Int)) with ins:=[V] }) (c:=celI [V]) HGX.out (j:=2) (by omega) rfl
      rw [HQ2.out,HMX.out] at e'
      have hS2:=hSl.tail
      rw [e',World.setCell_alloc_past _ _ _ _ hgS3] at hS2
      have HSF:=Lib.hid (show Sepa W ((w3.setCell ⟨gS,s * 3+2,none⟩ (.slice (some ⟨w3.heap.size,0,none⟩) 1 1)).alloc (.cells #[.int .i64 V] 3)) (.cel (celI ((List.range N).map (F3 d ts pl))) (.slice (some ⟨gN,0,none⟩) N nc) :: pI :: pO :: lnBlk gL In (.slice (some ⟨gS,0,none⟩) sn sc) Lv Ov :: pA :: .cel (celSq (sqMid d ts pl (s+1))) (.slice (some ⟨gS,0,none⟩) sn sc) :: pQ :: .cel (celI ((List.range M).map fun (y:Nat)=>numF (ltB d ts) pl (y:Int))) (.slice (some ⟨gU,0,none⟩) M uc) :: rs) from hS2)
      have HKC:=Lib.hid (fun (w':World) (L:List Sq) (h:Sepa W w' (.cel (celI ((List.range N).map (F3 d ts pl))) (.slice (some ⟨gN,0,none⟩) N nc) :: pI :: pO :: lnBlk gL In (.slice (some ⟨gS,0,none⟩) sn sc) Lv Ov :: pA :: .cel (celSq (L)) (.slice (some ⟨gS,0,none⟩) sn sc) :: pQ :: .cel (celI ((List.range M).map fun (y:Nat)=>numF (ltB d ts) pl (y:Int))) (.slice (some ⟨gU,0,none⟩) M uc) :: rs))=>(show (fun w'=>w'.cell? ⟨gL,1,none⟩=some (.slice (some ⟨gS,0,none⟩) sn sc)∧w'.cell? ⟨gU,2 * t+e,none⟩=some (.int .i64 V)) w' from ⟨cell_heap (k:=1) (h.blk 3 rfl).1 rfl,HUI.out w' L h⟩))
      have v1:IntKind.i64.wrap (2 * (t:Int))=2 * (t:Int):=IntWalk.i64_in _ (by omega)
      have v2:IntKind.i64.wrap (2 * (t:Int)+(e:Int))=2 * (t:Int)+(e:Int):=IntWalk.i64_in _ (by omega)
      clear hS2 hSl e'
      go_region_held3 (fun w'=>w'.cell? ⟨gL,1,none⟩=some (.slice (some ⟨gS,0,none⟩) sn sc)∧w'.cell? ⟨gU,2 * t+e,none⟩=some (.int .i64 V))
       (first|with_reducible exact HKC.out _ _ HS3.out|with_reducible exact HKC.out _ _ HS3.out.drew|with_reducible exact HKC.out _ _ (HS3.out.alloc _).drew|exact HKC.out _ _ HSF.out.drew)
       (fail)
      go_wp2_with fail
      go_meet
      exact HSF.out.drew
     have HS5:=Lib.hid hcut
     clear hcut cU lU g1 lL hci hfi
     go_wp2_with fail
     go_roundw
     case rel=>exact ⟨e+1,s+1,by omega,by go_num,by go_num,by rw [HR.out,←List.append_assoc,List.length_append (bs:=[_]),HSE.out];rfl,HS5.out⟩
     case measure=>simp [intOf];omega
    ·have hf1:(le.flop==1)=false:=by simp [hf]
     have HFX:Hid (¬(leX ts (2 * (t:Int)+(e:Int))).flop=1):=by show ¬_;rw [HLX.out];exact hf
     have HR:Hid (owP ts t (e+1)=owP ts t e):=by show _=_;rw [HPS.out,if_neg HFX.out,List.append_nil]
     clear hf
     go_wp2_with fail
     go_roundw
     case rel=>exact ⟨e+1,s,by omega,by go_num,rfl,by rw [HR.out];exact HSE.out,HS3.out⟩
     case measure=>simp [intOf];omega
   ·have he2:e=2:=by omega
    subst he2
    have HSF:Hid (s=(owTo d ts (t+1)).length):=by show _=_;rw [HFIN.out];exact HSE.out
    clear d0 d1 d2 d3 lD
    go_wp2_with fail
    apply HX.out
    exact ⟨by rw [if_pos HK1.out];exact HSF.out,HS1.out⟩
 ·have hK2:(kindOf d (t:Int)==1)=false:=by simp [hK]
  have HK:=Lib.hid hK
  have HS:=Lib.hid S
  clear hT hc hM hs S hexit htl htq hcl hti hK
  generalize kindOf d (t:Int)=K at *
  conv=>arg 2;whnf
  go_loopw [28,32] (fun sv jv wr=>sv = .int .i64 (s:Int)∧jv = .int .i64 0∧Sepa W wr (.cel (celI ((List.range N).map (F3 d ts pl))) (.slice (some ⟨gN,0,none⟩) N nc) :: pI :: pO :: lnBlk gL In (.slice SA sn sc) Lv Ov :: pA :: .cel (celSq (sqMid d ts pl s)) (.slice SA sn sc) :: pQ :: .cel (celI ((List.range M).map fun (y:Nat)=>numF (ltB d ts) pl (y:Int))) (.slice (some ⟨gU,0,none⟩) M uc) :: rs)) (fun _ _ _=>0)
  case atStart=>exact ⟨rfl,rfl,HS.out⟩
  case round =>
   obtain ⟨rfl,rfl,hs⟩:=hrel
   have HS1:=Lib.hid hs
   have hD':=heap_tr hs.bel HD.out
   have d0:=cell_heap (k:=0) hD' rfl
   have d1:=cell_heap (k:=1) hD' rfl
   have d2:=cell_heap (k:=2) hD' rfl
   have d3:=cell_heap (k:=3) hD' rfl
   have lD:=heap_lt0 hD'
   clear hD'
   clear hs
   go_wp2_with fail
   refine (HTK.out _).mono ?_
   rintro _ w1 ⟨rfl,b1⟩
   have HS2:=Lib.hid (HS1.out.below b1)
   clear b1 d0 d1 d2 d3 lD
   go_wp2_with fail
   apply HX.out
   exact ⟨by rw [if_neg HK.out],HS2.out⟩
end Go.Proofs.YtignkfhdkcgkgaaGreat

namespace Go.Proofs.YtignkfhdkcgkgaaGreat
set_option maxRecDepth 100000
open Go.RowKit

set_option maxRecDepth 100000 in
set_option maxHeartbeats 8000000 in
theorem dsr_lp8 (W:World) (gR gD gN gL gU:Nat) (d:Dev) (ts:List Tile) (TA:Option Addr) (m tc N nc M uc:Nat) (DA:Option Addr) (dc:Nat) (In:Int) (SA:Option Addr) (sn sc:Nat) (Lv Ov nv:Value) (pl:List Int) (pI pO pA pQ:Pc) (rs:List Pc) {v0 v1 v3 v5 v6 v7 v13 v14 v16 v17 v18 v20 v21 v22 v23 v24 v25 v26 v27 v30 v31 v32 v33 v34 v35 v36 v37 v38 v39 v40 v41 v42 v43 v44 v45 v46 v47 v48 v49 v50 v51 v52 v53 v54 v55 v56 v57 v58 v59 v60 v61 v62 v63 v64 v65 v66 v67 v68 v69 v70 v71 v72 v73 v74 v75 v76 v77 v78 v79 v80 v81 v82 v83 v84 v85 v86 v87 v88 v89 v90 v91 v92 v93 v94 v95 v96 v97 v98 v99 v100 v101 v102 v103 v104 v105 v106 v107 v108 v109 v110 v111 v112 v113 v114 v115 v116 v117 v118 v119 v120 v121 v122 v123 v124 v125 v126 v127 v128 v129 v130 v131 v132 v133 v134 v135 v136 v137 v138 v139 v140 v141 v142 v143 v144 v145 v146 v147 v148 v149 v150 v151 v152 v153 v154 v155 v156 v157 v158 v159 v160 v161 v162 v163 v164 v165 v166 v167 v168 v169 v170 v171 v172 v173 v174 v175 v176 v177 v178 v179 v180 v181 v182 v183 v184 v185 v186 v187 v188 v189 v190 v191 v192 v193 v194 v195 v196 v197 v198 v199 v200 v201 v202 v203 v204 v205 v206 v207 v208 v209 v210 v211 v212 v213 v214 v215 v216 v217 v218 v219 v220 v221 v222 v223 v224 v225 v226 v227 v228 v229 v230 v231 v232 v233 v234 v235 v236 v237 v238 v239 v240 v241 v242 v243 v244 v245 v246 v247 v248 v249 v250 v251 v252 v253 v254 v255 v256 v257 v258 v259 v260 v261 v262 v263 v264 v265 v266 v267 v268 v269 v270 v271 v272 v273 v274 v275 v276 v277 v278 v279 v280 v281 v282 v283 v284 v285 v286 v287 v288 v289 v290 v291 v292 v293 v294 v295 v296 v297 v298 v299 v300 v301 v302 v303 v304 v305 v306 v307 v308 v309 v310 v311 v312 v313 v314 v315 v316 v317 v318 v319 v320 v321 v322 v323 v324 v325 v326 v327 v328 v329 v330 v331 v332 v333 v334 v335 v336 v337 v338 v339 v340 v341 v342 v343 v344 v345 v346 v347 v348 v349 v350 v351 v352 v353 v354 v355 v356 v357 v358 v359 v360 v361 v362 v363 v364 v365 v366 v367 v368 v369 v370 v371 v372 v373 v374 v375 v376 v377 v378 v379 v380 v381 v382 v383 v384 v385 v386 v387 v388 v389 v390 v391 v392 v393 v394 v395 v396 v397 v398 v399 v400 v401 v402 v403 v404 v405 v406 v407 v408 v409 v410 v411 v412 v413 v414 v415 v416 v417 v418 v419 v420 v421 v422 v423 v424 v425 v426 v427 v428 v429 v430 v431 v432 v433 v434 v435 v436 v437 v438 v439 v440 v441 v442 v443 v444 v445 v446 v447 v448 v449 v450 v451 v452 v453 v454 v455 v456 v457 v458 v459 v460 v461 v462 v463 v464 v465 v466 v467 v468 v469 v470 v471:Value} {Q0:Exit→Act→World→Prop} (w:World) (hT:RdC W W.heap.size (celT ts) (.slice TA m tc)) (hN:(N:Int)=nodesOf d) (hc:CfgOk d ts) (hD:W.heap[gD]?=some (.cells #[.int .i64 d.W,.int .i64 d.H,.int .i64 d.T,.int .i64 d.R] 25 (0,0))) (hR:W.heap[gR]?=some (.cells #[.int .i64 0,.slice none 0 0,.slice none 0 0,.slice none 0 0] 61 (0,0))) (hDr:Ints W DA N (drvTo d ts N)) (hM:M=2 * m) (S:Sepa W w (.cel (celI ((List.range N).map (F3 d ts pl))) (.slice (some ⟨gN,0,none⟩) N nc) :: pI :: pO :: lnBlk gL In (.slice SA sn sc) Lv Ov :: pA :: .cel (celSq ((owL d ts).map (sq0 d ts))) (.slice SA sn sc) :: pQ :: .cel (celI ((List.range M).map fun (y:Nat)=>numF (ltB d ts) pl (y:Int))) (.slice (some ⟨gU,0,none⟩) M uc) :: rs))
  (hexit:∀(y5 y6 y7 y28 y29 y30 y31 y32 y359 y360 y361 y362 y363 y364 y365 y366 y367 y368 y369 y370 y371 y372 y373 y374 y375 y376 y377 y378 y379 y380 y381 y382 y383 y384 y385 y386 y387 y388 y389 y390 y391 y392 y393 y394 y395 y396 y397 y398 y399 y400 y401 y402 y403 y404 y405 y406 y407 y408 y409 y410 y411 y412 y413 y414 y415 y416 y417 y418 y419 y420 y421 y422 y423 y424 y425 y426 y427 y428 y429 y430 y431 y432 y433 y434 y435 y436 y437 y438 y439 y440 y441:Value) (w':World),(∀x∈owL d ts,sqOk d ts pl x=true)∧Sepa W w' (.cel (celI ((List.range N).map (F3 d ts pl))) (.slice (some ⟨gN,0,none⟩) N nc) :: pI :: pO :: lnBlk gL In (.slice SA sn sc) Lv Ov :: pA :: .cel (celSq ((owL d ts).map (sqOf d ts pl))) (.slice SA sn sc) :: pQ :: .cel (celI ((List.range M).map fun (y:Nat)=>numF (ltB d ts) pl (y:Int))) (.slice (some ⟨gU,0,none⟩) M uc) :: rs)→Q0 (.exit 14) ⟨List.toArray (v0 :: v1 :: .pointer (some ⟨gD,0,none⟩) :: v3 :: .pointer (some ⟨gR,0,none⟩) :: y5 :: y6 :: y7 :: nv :: .slice TA m tc :: .int .i64 (perT d) :: .slice DA N dc :: .pointer (some ⟨gL,0,none⟩) :: v13 :: v14 :: .slice (some ⟨gN,0,none⟩) N nc :: v16 :: v17 :: v18 :: .slice (some ⟨gU,0,none⟩) M uc :: v20 :: v21 :: v22 :: v23 :: v24 :: v25 :: v26 :: v27 :: y28 :: y29 :: y30 :: y31 :: y32 :: v33 :: v34 :: v35 :: v36 :: v37 :: v38 :: v39 :: v40 :: v41 :: v42 :: v43 :: v44 :: v45 :: v46 :: v47 :: v48 :: v49 :: v50 :: v51 :: v52 :: v53 :: v54 :: v55 :: v56 :: v57 :: v58 :: v59 :: v60 :: v61 :: v62 :: v63 :: v64 :: v65 :: v66 :: v67 :: v68 :: v69 :: v70 :: v71 :: v72 :: v73 :: v74 :: v75 :: v76 :: v77 :: v78 :: v79 :: v80 :: v81 :: v82 :: v83 :: v84 :: v85 :: v86 :: v87 :: v88 :: v89 :: v90 :: v91 :: v92 :: v93 :: v94 :: v95 :: v96 :: v97 :: v98 :: v99 :: v100 :: v101 :: v102 :: v103 :: v104 :: v105 :: v106 :: v107 :: v108 :: v109 :: v110 :: v111 :: v112 :: v113 :: v114 :: v115 :: v116 :: v117 :: v118 :: v119 :: v120 :: v121 :: v122 :: v123 :: v124 :: v125 :: v126 :: v127 :: v128 :: v129 :: v130 :: v131 :: v132 :: v133 :: v134 :: v135 :: v136 :: v137 :: v138 :: v139 :: v140 :: v141 :: v142 :: v143 :: v144 :: v145 :: v146 :: v147 :: v148 :: v149 :: v150 :: v151 :: v152 :: v153 :: v154 :: v155 :: v156 :: v157 :: v158 :: v159 :: v160 :: v161 :: v162 :: v163 :: v164 :: v165 :: v166 :: v167 :: v168 :: v169 :: v170 :: v171 :: v172 :: v173 :: v174 :: v175 :: v176 :: v177 :: v178 :: v179 :: v180 :: v181 :: v182 :: v183 :: v184 :: v185 :: v186 :: v187 :: v188 :: v189 :: v190 :: v191 :: v192 :: v193 :: v194 :: v195 :: v196 :: v197 :: v198 :: v199 :: v200 :: v201 :: v202 :: v203 :: v204 :: v205 :: v206 :: v207 :: v208 :: v209 :: v210 :: v211 :: v212 :: v213 :: v214 :: v215 :: v216 :: v217 :: v218 :: v219 :: v220 :: v221 :: v222 :: v223 :: v224 :: v225 :: v226 :: v227 :: v228 :: v229 :: v230 :: v231 :: v232 :: v233 :: v234 :: v235 :: v236 :: v237 :: v238 :: v239 :: v240 :: v241 :: v242 :: v243 :: v244 :: v245 :: v246 :: v247 :: v248 :: v249 :: v250 :: v251 :: v252 :: v253 :: v254 :: v255 :: v256 :: v257 :: v258 :: v259 :: v260 :: v261 :: v262 :: v263 :: v264 :: v265 :: v266 :: v267 :: v268 :: v269 :: v270 :: v271 :: v272 :: v273 :: v274 :: v275 :: v276 :: v277 :: v278 :: v279 :: v280 :: v281 :: v282 :: v283 :: v284 :: v285 :: v286 :: v287 :: v288 :: v289 :: v290 :: v291 :: v292 :: v293 :: v294 :: v295 :: v296 :: v297 :: v298 :: v299 :: v300 :: v301 :: v302 :: v303 :: v304 :: v305 :: v306 :: v307 :: v308 :: v309 :: v310 :: v311 :: v312 :: v313 :: v314 :: v315 :: v316 :: v317 :: v318 :: v319 :: v320 :: v321 :: v322 :: v323 :: v324 :: v325 :: v326 :: v327 :: v328 :: v329 :: v330 :: v331 :: v332 :: v333 :: v334 :: v335 :: v336 :: v337 :: v338 :: v339 :: v340 :: v341 :: v342 :: v343 :: v344 :: v345 :: v346 :: v347 :: v348 :: v349 :: v350 :: v351 :: v352 :: v353 :: v354 :: v355 :: v356 :: v357 :: v358 :: y359 :: y360 :: y361 :: y362 :: y363 :: y364 :: y365 :: y366 :: y367 :: y368 :: y369 :: y370 :: y371 :: y372 :: y373 :: y374 :: y375 :: y376 :: y377 :: y378 :: y379 :: y380 :: y381 :: y382 :: y383 :: y384 :: y385 :: y386 :: y387 :: y388 :: y389 :: y390 :: y391 :: y392 :: y393 :: y394 :: y395 :: y396 :: y397 :: y398 :: y399 :: y400 :: y401 :: y402 :: y403 :: y404 :: y405 :: y406 :: y407 :: y408 :: y409 :: y410 :: y411 :: y412 :: y413 :: y414 :: y415 :: y416 :: y417 :: y418 :: y419 :: y420 :: y421 :: y422 :: y423 :: y424 :: y425 :: y426 :: y427 :: y428 :: y429 :: y430 :: y431 :: y432 :: y433 :: y434 :: y435 :: y436 :: y437 :: y438 :: y439 :: y440 :: y441 :: v442 :: v443 :: v444 :: v445 :: v446 :: v447 :: v448 :: v449 :: v450 :: v451 :: v452 :: v453 :: v454 :: v455 :: v456 :: v457 :: v458 :: v459 :: v460 :: v461 :: v462 :: v463 :: v464 :: v465 :: v466 :: v467 :: v468 :: v469 :: v470 :: v471 :: []),[]⟩ w')
  (hret:∀(y28 y29 y30 y31 y32 y359 y360 y361 y362 y363 y364 y365 y366 y367 y368 y369 y370 y371 y372 y373 y374 y375 y376 y377 y378 y379 y380 y381 y382 y383 y384 y385 y386 y387 y388 y389 y390 y391 y392 y393 y394 y395 y396 y397 y398 y399 y400 y401 y402 y403 y404 y405 y406 y407 y408 y409 y410 y411 y412 y413 y414 y415 y416 y417 y418 y419 y420 y421 y422 y423 y424 y425 y426 y427 y428 y429 y430 y431 y432 y433 y434 y435 y436 y437 y438 y439 y440 y441:Value) (w':World),(∃x∈owL d ts,sqOk d ts pl x=false)∧Below W.heap.size W w'→Q0 .ret ⟨List.toArray (v0 :: v1 :: .pointer (some ⟨gD,0,none⟩) :: v3 :: .pointer (some ⟨gR,0,none⟩) :: nv :: nv :: .bool false :: nv :: .slice TA m tc :: .int .i64 (perT d) :: .slice DA N dc :: .pointer (some ⟨gL,0,none⟩) :: v13 :: v14 :: .slice (some ⟨gN,0,none⟩) N nc :: v16 :: v17 :: v18 :: .slice (some ⟨gU,0,none⟩) M uc :: v20 :: v21 :: v22 :: v23 :: v24 :: v25 :: v26 :: v27 :: y28 :: y29 :: y30 :: y31 :: y32 :: v33 :: v34 :: v35 :: v36 :: v37 :: v38 :: v39 :: v40 :: v41 :: v42 :: v43 :: v44 :: v45 :: v46 :: v47 :: v48 :: v49 :: v50 :: v51 :: v52 :: v53 :: v54 :: v55 :: v56 :: v57 :: v58 :: v59 :: v60 :: v61 :: v62 :: v63 :: v64 :: v65 :: v66 :: v67 :: v68 :: v69 :: v70 :: v71 :: v72 :: v73 :: v74 :: v75 :: v76 :: v77 :: v78 :: v79 :: v80 :: v81 :: v82 :: v83 :: v84 :: v85 :: v86 :: v87 :: v88 :: v89 :: v90 :: v91 :: v92 :: v93 :: v94 :: v95 :: v96 :: v97 :: v98 :: v99 :: v100 :: v101 :: v102 :: v103 :: v104 :: v105 :: v106 :: v107 :: v108 :: v109 :: v110 :: v111 :: v112 :: v113 :: v114 :: v115 :: v116 :: v117 :: v118 :: v119 :: v120 :: v121 :: v122 :: v123 :: v124 :: v125 :: v126 :: v127 :: v128 :: v129 :: v130 :: v131 :: v132 :: v133 :: v134 :: v135 :: v136 :: v137 :: v138 :: v139 :: v140 :: v141 :: v142 :: v143 :: v144 :: v145 :: v146 :: v147 :: v148 :: v149 :: v150 :: v151 :: v152 :: v153 :: v154 :: v155 :: v156 :: v157 :: v158 :: v159 :: v160 :: v161 :: v162 :: v163 :: v164 :: v165 :: v166 :: v167 :: v168 :: v169 :: v170 :: v171 :: v172 :: v173 :: v174 :: v175 :: v176 :: v177 :: v178 :: v179 :: v180 :: v181 :: v182 :: v183 :: v184 :: v185 :: v186 :: v187 :: v188 :: v189 :: v190 :: v191 :: v192 :: v193 :: v194 :: v195 :: v196 :: v197 :: v198 :: v199 :: v200 :: v201 :: v202 :: v203 :: v204 :: v205 :: v206 :: v207 :: v208 :: v209 :: v210 :: v211 :: v212 :: v213 :: v214 :: v215 :: v216 :: v217 :: v218 :: v219 :: v220 :: v221 :: v222 :: v223 :: v224 :: v225 :: v226 :: v227 :: v228 :: v229 :: v230 :: v231 :: v232 :: v233 :: v234 :: v235 :: v236 :: v237 :: v238 :: v239 :: v240 :: v241 :: v242 :: v243 :: v244 :: v245 :: v246 :: v247 :: v248 :: v249 :: v250 :: v251 :: v252 :: v253 :: v254 :: v255 :: v256 :: v257 :: v258 :: v259 :: v260 :: v261 :: v262 :: v263 :: v264 :: v265 :: v266 :: v267 :: v268 :: v269 :: v270 :: v271 :: v272 :: v273 :: v274 :: v275 :: v276 :: v277 :: v278 :: v279 :: v280 :: v281 :: v282 :: v283 :: v284 :: v285 :: v286 :: v287 :: v288 :: v289 :: v290 :: v291 :: v292 :: v293 :: v294 :: v295 :: v296 :: v297 :: v298 :: v299 :: v300 :: v301 :: v302 :: v303 :: v304 :: v305 :: v306 :: v307 :: v308 :: v309 :: v310 :: v311 :: v312 :: v313 :: v314 :: v315 :: v316 :: v317 :: v318 :: v319 :: v320 :: v321 :: v322 :: v323 :: v324 :: v325 :: v326 :: v327 :: v328 :: v329 :: v330 :: v331 :: v332 :: v333 :: v334 :: v335 :: v336 :: v337 :: v338 :: v339 :: v340 :: v341 :: v342 :: v343 :: v344 :: v345 :: v346 :: v347 :: v348 :: v349 :: v350 :: v351 :: v352 :: v353 :: v354 :: v355 :: v356 :: v357 :: v358 :: y359 :: y360 :: y361 :: y362 :: y363 :: y364 :: y365 :: y366 :: y367 :: y368 :: y369 :: y370 :: y371 :: y372 :: y373 :: y374 :: y375 :: y376 :: y377 :: y378 :: y379 :: y380 :: y381 :: y382 :: y383 :: y384 :: y385 :: y386 :: y387 :: y388 :: y389 :: y390 :: y391 :: y392 :: y393 :: y394 :: y395 :: y396 :: y397 :: y398 :: y399 :: y400 :: y401 :: y402 :: y403 :: y404 :: y405 :: y406 :: y407 :: y408 :: y409 :: y410 :: y411 :: y412 :: y413 :: y414 :: y415 :: y416 :: y417 :: y418 :: y419 :: y420 :: y421 :: y422 :: y423 :: y424 :: y425 :: y426 :: y427 :: y428 :: y429 :: y430 :: y431 :: y432 :: y433 :: y434 :: y435 :: y436 :: y437 :: y438 :: y439 :: y440 :: y441 :: v442 :: v443 :: v444 :: v445 :: v446 :: v447 :: v448 :: v449 :: v450 :: v451 :: v452 :: v453 :: v454 :: v455 :: v456 :: v457 :: v458 :: v459 :: v460 :: v461 :: v462 :: v463 :: v464 :: v465 :: v466 :: v467 :: v468 :: v469 :: v470 :: v471 :: []),[]⟩ ((((w'.setCell ⟨gR,0,none⟩ (.int .i64 0)).setCell ⟨gR,1,none⟩ (.slice none 0 0)).setCell ⟨gR,2,none⟩ (.slice none 0 0)).setCell ⟨gR,3,none⟩ (.slice none 0 0)))
  : Code.wp Tryz.prog (loopAt Tryz.f29 3) Q0 ⟨List.toArray (v0 :: v1 :: .pointer (some ⟨gD,0,none⟩) :: v3 :: .pointer (some ⟨gR,0,none⟩) :: v5 :: v6 :: v7 :: nv :: .slice TA m tc :: .int .i64 (perT d) :: .slice DA N dc :: .pointer (some ⟨gL,0,none⟩) :: v13 :: v14 :: .slice (some ⟨gN,0,none⟩) N nc :: v16 :: v17 :: v18 :: .slice (some ⟨gU,0,none⟩) M uc :: v20 :: v21 :: v22 :: v23 :: v24 :: v25 :: v26 :: v27 :: .int .i64 0 :: .int .i64 0 :: v30 :: v31 :: v32 :: v33 :: v34 :: v35 :: v36 :: v37 :: v38 :: v39 :: v40 :: v41 :: v42 :: v43 :: v44 :: v45 :: v46 :: v47 :: v48 :: v49 :: v50 :: v51 :: v52 :: v53 :: v54 :: v55 :: v56 :: v57 :: v58 :: v59 :: v60 :: v61 :: v62 :: v63 :: v64 :: v65 :: v66 :: v67 :: v68 :: v69 :: v70 :: v71 :: v72 :: v73 :: v74 :: v75 :: v76 :: v77 :: v78 :: v79 :: v80 :: v81 :: v82 :: v83 :: v84 :: v85 :: v86 :: v87 :: v88 :: v89 :: v90 :: v91 :: v92 :: v93 :: v94 :: v95 :: v96 :: v97 :: v98 :: v99 :: v100 :: v101 :: v102 :: v103 :: v104 :: v105 :: v106 :: v107 :: v108 :: v109 :: v110 :: v111 :: v112 :: v113 :: v114 :: v115 :: v116 :: v117 :: v118 :: v119 :: v120 :: v121 :: v122 :: v123 :: v124 :: v125 :: v126 :: v127 :: v128 :: v129 :: v130 :: v131 :: v132 :: v133 :: v134 :: v135 :: v136 :: v137 :: v138 :: v139 :: v140 :: v141 :: v142 :: v143 :: v144 :: v145 :: v146 :: v147 :: v148 :: v149 :: v150 :: v151 :: v152 :: v153 :: v154 :: v155 :: v156 :: v157 :: v158 :: v159 :: v160 :: v161 :: v162 :: v163 :: v164 :: v165 :: v166 :: v167 :: v168 :: v169 :: v170 :: v171 :: v172 :: v173 :: v174 :: v175 :: v176 :: v177 :: v178 :: v179 :: v180 :: v181 :: v182 :: v183 :: v184 :: v185 :: v186 :: v187 :: v188 :: v189 :: v190 :: v191 :: v192 :: v193 :: v194 :: v195 :: v196 :: v197 :: v198 :: v199 :: v200 :: v201 :: v202 :: v203 :: v204 :: v205 :: v206 :: v207 :: v208 :: v209 :: v210 :: v211 :: v212 :: v213 :: v214 :: v215 :: v216 :: v217 :: v218 :: v219 :: v220 :: v221 :: v222 :: v223 :: v224 :: v225 :: v226 :: v227 :: v228 :: v229 :: v230 :: v231 :: v232 :: v233 :: v234 :: v235 :: v236 :: v237 :: v238 :: v239 :: v240 :: v241 :: v242 :: v243 :: v244 :: v245 :: v246 :: v247 :: v248 :: v249 :: v250 :: v251 :: v252 :: v253 :: v254 :: v255 :: v256 :: v257 :: v258 :: v259 :: v260 :: v261 :: v262 :: v263 :: v264 :: v265 :: v266 :: v267 :: v268 :: v269 :: v270 :: v271 :: v272 :: v273 :: v274 :: v275 :: v276 :: v277 :: v278 :: v279 :: v280 :: v281 :: v282 :: v283 :: v284 :: v285 :: v286 :: v287 :: v288 :: v289 :: v290 :: v291 :: v292 :: v293 :: v294 :: v295 :: v296 :: v297 :: v298 :: v299 :: v300 :: v301 :: v302 :: v303 :: v304 :: v305 :: v306 :: v307 :: v308 :: v309 :: v310 :: v311 :: v312 :: v313 :: v314 :: v315 :: v316 :: v317 :: v318 :: v319 :: v320 :: v321 :: v322 :: v323 :: v324 :: v325 :: v326 :: v327 :: v328 :: v329 :: v330 :: v331 :: v332 :: v333 :: v334 :: v335 :: v336 :: v337 :: v338 :: v339 :: v340 :: v341 :: v342 :: v343 :: v344 :: v345 :: v346 :: v347 :: v348 :: v349 :: v350 :: v351 :: v352 :: v353 :: v354 :: v355 :: v356 :: v357 :: v358 :: v359 :: v360 :: v361 :: v362 :: v363 :: v364 :: v365 :: v366 :: v367 :: v368 :: v369 :: v370 :: v371 :: v372 :: v373 :: v374 :: v375 :: v376 :: v377 :: v378 :: v379 :: v380 :: v381 :: v382 :: v383 :: v384 :: v385 :: v386 :: v387 :: v388 :: v389 :: v390 :: v391 :: v392 :: v393 :: v394 :: v395 :: v396 :: v397 :: v398 :: v399 :: v400 :: v401 :: v402 :: v403 :: v404 :: v405 :: v406 :: v407 :: v408 :: v409 :: v410 :: v411 :: v412 :: v413 :: v414 :: v415 :: v416 :: v417 :: v418 :: v419 :: v420 :: v421 :: v422 :: v423 :: v424 :: v425 :: v426 :: v427 :: v428 :: v429 :: v430 :: v431 :: v432 :: v433 :: v434 :: v435 :: v436 :: v437 :: v438 :: v439 :: v440 :: v441 :: v442 :: v443 :: v444 :: v445 :: v446 :: v447 :: v448 :: v449 :: v450 :: v451 :: v452 :: v453 :: v454 :: v455 :: v456 :: v457 :: v458 :: v459 :: v460 :: v461 :: v462 :: v463 :: v464 :: v465 :: v466 :: v467 :: v468 :: v469 :: v470 :: v471 :: []),[]⟩ w:=by
 have htl:=hT.tlen
 have htq:=tiles_eq hc.dev
 have hcl:=hc.len
 have hm36:m≤36:=by omega
 have HT:=Lib.hid hT
 have HN:=Lib.hid hN
 have HC:=Lib.hid hc
 have HD:=Lib.hid hD
 have HRR:=Lib.hid hR
 have HDR:=Lib.hid hDr
 have HMM:=Lib.hid hM
 have HX:=Lib.hid hexit
 have HZ:=Lib.hid hret
 have HTL:=Lib.hid htl
 rw [←sqMid_zero d ts pl] at S
 have HS:=Lib.hid S
 have HKB:=Lib.hid (fun (k:Nat)=>kindOf_bd d (k:Int))
 clear hT hN hc hD hR hDr hM hexit hret S htl htq hcl
 conv=>arg 2;whnf
 go_loopw [28,29] (fun sv tv wr=>∃(t s:Nat),t≤m∧tv = .int .i64 (t:Int)∧sv = .int .i64 (s:Int)∧s=(owTo d ts t).length∧(∀x∈owTo d ts t,sqOk d ts pl x=true)∧Sepa W wr (.cel (celI ((List.range N).map (F3 d ts pl))) (.slice (some ⟨gN,0,none⟩) N nc) :: pI :: pO :: lnBlk gL In (.slice SA sn sc) Lv Ov :: pA :: .cel (celSq (sqMid d ts pl s)) (.slice SA sn sc) :: pQ :: .cel (celI ((List.range M).map fun (y:Nat)=>numF (ltB d ts) pl (y:Int))) (.slice (some ⟨gU,0,none⟩) M uc) :: rs)) (fun _ tv _=>m - (intOf tv).toNat)
 case atStart=>exact ⟨0,0,by omega,rfl,rfl,rfl,fun x hx=>by simp [owTo] at hx,HS.out⟩
 case round =>
  obtain ⟨t,s,ht,rfl,rfl,hs,hall,hss⟩:=hrel
  have HSL:=Lib.hid hs
  have HAL:=Lib.hid hall
  have HS1:=Lib.hid hss
  clear hs hall hss
  by_cases hlt:t<m
  ·have hdk:decide ((t:Int)<(m:Int))=true:=by simp;omega
   have i0:(0:Int)≤(t:Int):=by omega
   have i1:(t:Int)<(m:Int):=by omega
   go_upto_region 69 with fail
   refine dsr_lp9 W gR gD gN gL gU d ts TA m tc N nc M uc DA dc In SA sn sc Lv Ov nv pl pI pO pA pQ rs t s _ HT.out HN.out HC.out HD.out HRR.out HDR.out HMM.out HSL.out hlt HS1.out ?_ ?_
   ·intro s2
    intros
    rename_i w4 h4
    obtain ⟨hs2,hok,hS4⟩:=h4
    have HS2:=Lib.hid hs2
    have HOK:=Lib.hid hok
    have HS4:=Lib.hid hS4
    have HS2L:Hid (kindOf d (t:Int)=1→s2=(owTo d ts t).length):=fun h=>by rw [hs2,if_neg (by omega)];exact HSL.out
    clear hs2 hok hS4
    go_upto_region 77 with fail
    refine dsr_lp10 W gD gN gL gU d ts TA m tc N nc M uc DA dc In SA sn sc Lv Ov pl pI pO pA pQ rs t s2 _ HT.out HN.out HC.out HD.out HDR.out HMM.out HS2L.out hlt HS4.out ?_
    intro s3
    intros
    rename_i w5 h5
    obtain ⟨hs3,hS5⟩:=h5
    have HS5:=Lib.hid hS5
    have HS3:Hid (s3=(owTo d ts (t+1)).length):=by
     show _=_
     rw [hs3]
     by_cases h1:kindOf d (t:Int)=1
     ·rw [if_pos h1]
     ·rw [if_neg h1,HS2.out]
      by_cases h2:kindOf d (t:Int)=2
      ·rw [if_pos h2]
      ·rw [if_neg h2,HSL.out,owTo,owAt,if_neg h1,if_neg h2,List.append_nil]
    have HAL2:Hid (∀x∈owTo d ts (t+1),sqOk d ts pl x=true):=fun x hx=>by
     rw [owTo,List.mem_append] at hx
     rcases hx with hx|hx
     ·exact HAL.out x hx
     ·have hx':=owAt_in.1 hx
      rcases hx'.2 with h|h
      ·rw [sqOk,h.1];rfl
      ·rw [hx'.1] at h
       have h3:=HOK.out h.1
       rwa [show 2 * (t:Int)=x by omega] at h3
    clear hs3 hS5
    go_wp2_with fail
    go_roundw
    case rel=>exact ⟨t+1,s3,by omega,by go_num,rfl,HS3.out,HAL2.out,HS5.out⟩
    case measure=>simp [intOf];omega
   ·intros
    rename_i w4 h4
    apply HZ.out
    exact h4
  ·have htm:t=m:=by omega
   have hdk:decide ((t:Int)<(m:Int))=false:=by simp;omega
   have HE:Hid (owTo d ts t=owL d ts):=by show _=_;unfold owL;rw [HTL.out,←htm]
   have HF:=Lib.hid (show (∀x∈owL d ts,sqOk d ts pl x=true)∧Sepa W wr (.cel (celI ((List.range N).map (F3 d ts pl))) (.slice (some ⟨gN,0,none⟩) N nc) :: pI :: pO :: lnBlk gL In (.slice SA sn sc) Lv Ov :: pA :: .cel (celSq ((owL d ts).map (sqOf d ts pl))) (.slice SA sn sc) :: pQ :: .cel (celI ((List.range M).map fun (y:Nat)=>numF (ltB d ts) pl (y:Int))) (.slice (some ⟨gU,0,none⟩) M uc) :: rs) from by
    rw [←HE.out]
    refine ⟨HAL.out,?_⟩
    rw [HE.out,←sqMid_full,←HE.out,←HSL.out]
    exact HS1.out)
   clear htm
   go_wp2_with fail
   apply HX.out
   exact HF.out
end Go.Proofs.YtignkfhdkcgkgaaGreat
