/- The loop over the selections of a look-up table, in the reference's Disassemble (printed by mkdiss4.py). The loop over the logic elements of a tile, in the reference's Disassemble (printed by mkdiss4.py). -/
import Derived.Test.YtignkfhdkcgkgaaGreatDisRB
namespace Go.Proofs.YtignkfhdkcgkgaaGreat
set_option maxRecDepth 100000
open Go.RowKit

set_option maxRecDepth 100000 in
set_option maxHeartbeats 8000000 in
theorem dsr_lp7 (W:World) (gX:Nat) (d:Dev) (ts:List Tile) (TA:Option Addr) (m tc N:Nat) (NA:Option Addr) (nc:Nat) (DA:Option Addr) (dc:Nat) (xs pl:List Int) (t e:Nat) (mask:Int) (k0:Bool) (rs:List Pc) {v0 v1 v2 v3 v4 v5 v6 v7 v8 v12 v13 v14 v16 v17 v18 v19 v20 v21 v27 v28 v29 v30 v31 v32 v33 v34 v35 v36 v37 v38 v39 v40 v41 v42 v43 v44 v45 v46 v47 v48 v49 v50 v51 v52 v53 v54 v55 v56 v57 v58 v59 v60 v61 v62 v63 v64 v65 v66 v67 v68 v69 v70 v71 v72 v73 v74 v75 v76 v77 v78 v79 v80 v81 v82 v83 v84 v85 v86 v87 v88 v89 v90 v91 v92 v93 v94 v95 v96 v97 v98 v99 v100 v101 v102 v103 v104 v105 v106 v107 v108 v109 v110 v111 v112 v113 v114 v115 v116 v117 v118 v119 v120 v121 v122 v123 v124 v125 v126 v127 v128 v129 v130 v131 v132 v133 v134 v135 v136 v137 v138 v139 v140 v141 v142 v143 v144 v145 v146 v147 v148 v149 v150 v151 v152 v153 v154 v155 v156 v157 v158 v159 v160 v161 v162 v163 v164 v165 v166 v167 v168 v169 v170 v171 v172 v173 v174 v175 v176 v177 v178 v179 v180 v181 v182 v183 v184 v185 v186 v187 v188 v189 v190 v191 v192 v193 v194 v195 v196 v197 v198 v199 v200 v201 v202 v203 v204 v205 v206 v207 v208 v209 v210 v211 v212 v213 v214 v215 v216 v217 v218 v219 v220 v221 v222 v223 v224 v225 v226 v227 v228 v229 v230 v231 v232 v233 v234 v235 v236 v237 v238 v239 v240 v241 v242 v243 v244 v245 v246 v247 v248 v249 v250 v251 v252 v253 v254 v255 v256 v257 v258 v259 v260 v261 v262 v263 v264 v265 v266 v267 v268 v269 v270 v271 v272 v273 v274 v275 v276 v277 v278 v279 v280 v281 v282 v283 v284 v285 v286 v287 v288 v289 v290 v291 v292 v293 v294 v295 v296 v297 v298 v299 v300 v301 v302 v303 v304 v305 v306 v307 v308 v309 v310 v311 v312 v313 v314 v315 v316 v317 v318 v319 v320 v321 v322 v323 v324 v325 v326 v327 v328 v329 v330 v331 v332 v333 v334 v335 v336 v337 v338 v339 v340 v341 v342 v343 v344 v345 v346 v347 v348 v349 v350 v351 v352 v353 v354 v355 v356 v357 v358 v359 v360 v361 v362 v363 v364 v365 v366 v367 v368 v369 v370 v371 v372 v373 v374 v375 v376 v377 v378 v379 v380 v381 v382 v383 v384 v385 v386 v387 v388 v389 v390 v391 v392 v393 v394 v395 v396 v397 v398 v399 v400 v401 v402 v403 v404 v405 v406 v407 v408 v409 v410 v411 v412 v413 v414 v415 v416 v417 v418 v419 v420 v421 v422 v423 v424 v425 v426 v427 v428 v429 v430 v431 v432 v433 v434 v435 v436 v437 v438 v439 v440 v441 v442 v443 v444 v445 v446 v447 v448 v449 v450 v451 v452 v453 v454 v455 v456 v457 v458 v459 v460 v461 v462 v463 v464 v465 v466 v467 v468 v469 v470 v471:Value} {Q0:Exit→Act→World→Prop} (w:World) (hT:RdC W W.heap.size (celT ts) (.slice TA m tc)) (hN:(N:Int)=nodesOf d) (hc:CfgOk d ts) (hDr:Ints W DA N (drvTo d ts N)) (hx:NodesOf d ts pl xs) (htm:t<m) (hk1:kindOf d (t:Int)=1) (he:e<2) (S:Sepa W w (.blk gX #[.slice none 0 0,.int .i64 mask] 110 :: .cel (celI ([])) (.slice none 0 0) :: .cel (celI xs) (.slice NA N nc) :: rs))
  (hexit:∀(kn:Bool) (ins:List Int) (A:Option Addr) (n c:Nat) (y26 y27 y259 y260 y261 y262 y263 y264 y265 y266 y267 y268 y269 y270 y271 y272 y273 y274 y275 y276 y277 y278 y279 y280 y281 y282 y283 y284 y285 y286 y287 y288 y289 y290 y291 y292 y293 y294 y295 y296 y297 y298 y299 y300 y301 y302 y303 y304 y305 y306 y307:Value) (w':World),n≤4∧K7 d ts pl (2 * (t:Int)+(e:Int)) k0 4 kn ins∧Sepa W w' (.blk gX #[.slice A n c,.int .i64 mask] 110 :: .cel (celI (ins)) (.slice A n c) :: .cel (celI xs) (.slice NA N nc) :: rs)→Q0 (.exit 12) ⟨List.toArray (v0 :: v1 :: v2 :: v3 :: v4 :: v5 :: v6 :: v7 :: v8 :: .slice TA m tc :: .int .i64 (perT d) :: .slice DA N dc :: v12 :: v13 :: v14 :: .slice NA N nc :: v16 :: v17 :: v18 :: v19 :: v20 :: v21 :: .int .i64 (t:Int) :: .int .i64 (e:Int) :: .pointer (some ⟨gX,0,none⟩) :: .bool kn :: y26 :: y27 :: v28 :: v29 :: v30 :: v31 :: v32 :: v33 :: v34 :: v35 :: v36 :: v37 :: v38 :: v39 :: v40 :: v41 :: v42 :: v43 :: v44 :: v45 :: v46 :: v47 :: v48 :: v49 :: v50 :: v51 :: v52 :: v53 :: v54 :: v55 :: v56 :: v57 :: v58 :: v59 :: v60 :: v61 :: v62 :: v63 :: v64 :: v65 :: v66 :: v67 :: v68 :: v69 :: v70 :: v71 :: v72 :: v73 :: v74 :: v75 :: v76 :: v77 :: v78 :: v79 :: v80 :: v81 :: v82 :: v83 :: v84 :: v85 :: v86 :: v87 :: v88 :: v89 :: v90 :: v91 :: v92 :: v93 :: v94 :: v95 :: v96 :: v97 :: v98 :: v99 :: v100 :: v101 :: v102 :: v103 :: v104 :: v105 :: v106 :: v107 :: v108 :: v109 :: v110 :: v111 :: v112 :: v113 :: v114 :: v115 :: v116 :: v117 :: v118 :: v119 :: v120 :: v121 :: v122 :: v123 :: v124 :: v125 :: v126 :: v127 :: v128 :: v129 :: v130 :: v131 :: v132 :: v133 :: v134 :: v135 :: v136 :: v137 :: v138 :: v139 :: v140 :: v141 :: v142 :: v143 :: v144 :: v145 :: v146 :: v147 :: v148 :: v149 :: v150 :: v151 :: v152 :: v153 :: v154 :: v155 :: v156 :: v157 :: v158 :: v159 :: v160 :: v161 :: v162 :: v163 :: v164 :: v165 :: v166 :: v167 :: v168 :: v169 :: v170 :: v171 :: v172 :: v173 :: v174 :: v175 :: v176 :: v177 :: v178 :: v179 :: v180 :: v181 :: v182 :: v183 :: v184 :: v185 :: v186 :: v187 :: v188 :: v189 :: v190 :: v191 :: v192 :: v193 :: v194 :: v195 :: v196 :: v197 :: v198 :: v199 :: v200 :: v201 :: v202 :: v203 :: v204 :: v205 :: v206 :: v207 :: v208 :: v209 :: v210 :: v211 :: v212 :: v213 :: v214 :: v215 :: v216 :: v217 :: v218 :: v219 :: v220 :: v221 :: v222 :: v223 :: v224 :: v225 :: v226 :: v227 :: v228 :: v229 :: v230 :: v231 :: v232 :: v233 :: v234 :: v235 :: v236 :: v237 :: v238 :: v239 :: v240 :: v241 :: v242 :: v243 :: v244 :: v245 :: v246 :: v247 :: v248 :: v249 :: v250 :: v251 :: v252 :: v253 :: v254 :: v255 :: v256 :: v257 :: v258 :: y259 :: y260 :: y261 :: y262 :: y263 :: y264 :: y265 :: y266 :: y267 :: y268 :: y269 :: y270 :: y271 :: y272 :: y273 :: y274 :: y275 :: y276 :: y277 :: y278 :: y279 :: y280 :: y281 :: y282 :: y283 :: y284 :: y285 :: y286 :: y287 :: y288 :: y289 :: y290 :: y291 :: y292 :: y293 :: y294 :: y295 :: y296 :: y297 :: y298 :: y299 :: y300 :: y301 :: y302 :: y303 :: y304 :: y305 :: y306 :: y307 :: v308 :: v309 :: v310 :: v311 :: v312 :: v313 :: v314 :: v315 :: v316 :: v317 :: v318 :: v319 :: v320 :: v321 :: v322 :: v323 :: v324 :: v325 :: v326 :: v327 :: v328 :: v329 :: v330 :: v331 :: v332 :: v333 :: v334 :: v335 :: v336 :: v337 :: v338 :: v339 :: v340 :: v341 :: v342 :: v343 :: v344 :: v345 :: v346 :: v347 :: v348 :: v349 :: v350 :: v351 :: v352 :: v353 :: v354 :: v355 :: v356 :: v357 :: v358 :: v359 :: v360 :: v361 :: v362 :: v363 :: v364 :: v365 :: v366 :: v367 :: v368 :: v369 :: v370 :: v371 :: v372 :: v373 :: v374 :: v375 :: v376 :: v377 :: v378 :: v379 :: v380 :: v381 :: v382 :: v383 :: v384 :: v385 :: v386 :: v387 :: v388 :: v389 :: v390 :: v391 :: v392 :: v393 :: v394 :: v395 :: v396 :: v397 :: v398 :: v399 :: v400 :: v401 :: v402 :: v403 :: v404 :: v405 :: v406 :: v407 :: v408 :: v409 :: v410 :: v411 :: v412 :: v413 :: v414 :: v415 :: v416 :: v417 :: v418 :: v419 :: v420 :: v421 :: v422 :: v423 :: v424 :: v425 :: v426 :: v427 :: v428 :: v429 :: v430 :: v431 :: v432 :: v433 :: v434 :: v435 :: v436 :: v437 :: v438 :: v439 :: v440 :: v441 :: v442 :: v443 :: v444 :: v445 :: v446 :: v447 :: v448 :: v449 :: v450 :: v451 :: v452 :: v453 :: v454 :: v455 :: v456 :: v457 :: v458 :: v459 :: v460 :: v461 :: v462 :: v463 :: v464 :: v465 :: v466 :: v467 :: v468 :: v469 :: v470 :: v471 :: []),[]⟩ w')
  : Code.wp Tryz.prog (loopD (loopD (loopD (loopAt Tryz.f29 2) 0) 0) 0) Q0 ⟨List.toArray (v0 :: v1 :: v2 :: v3 :: v4 :: v5 :: v6 :: v7 :: v8 :: .slice TA m tc :: .int .i64 (perT d) :: .slice DA N dc :: v12 :: v13 :: v14 :: .slice NA N nc :: v16 :: v17 :: v18 :: v19 :: v20 :: v21 :: .int .i64 (t:Int) :: .int .i64 (e:Int) :: .pointer (some ⟨gX,0,none⟩) :: .bool k0 :: .int .i64 0 :: v27 :: v28 :: v29 :: v30 :: v31 :: v32 :: v33 :: v34 :: v35 :: v36 :: v37 :: v38 :: v39 :: v40 :: v41 :: v42 :: v43 :: v44 :: v45 :: v46 :: v47 :: v48 :: v49 :: v50 :: v51 :: v52 :: v53 :: v54 :: v55 :: v56 :: v57 :: v58 :: v59 :: v60 :: v61 :: v62 :: v63 :: v64 :: v65 :: v66 :: v67 :: v68 :: v69 :: v70 :: v71 :: v72 :: v73 :: v74 :: v75 :: v76 :: v77 :: v78 :: v79 :: v80 :: v81 :: v82 :: v83 :: v84 :: v85 :: v86 :: v87 :: v88 :: v89 :: v90 :: v91 :: v92 :: v93 :: v94 :: v95 :: v96 :: v97 :: v98 :: v99 :: v100 :: v101 :: v102 :: v103 :: v104 :: v105 :: v106 :: v107 :: v108 :: v109 :: v110 :: v111 :: v112 :: v113 :: v114 :: v115 :: v116 :: v117 :: v118 :: v119 :: v120 :: v121 :: v122 :: v123 :: v124 :: v125 :: v126 :: v127 :: v128 :: v129 :: v130 :: v131 :: v132 :: v133 :: v134 :: v135 :: v136 :: v137 :: v138 :: v139 :: v140 :: v141 :: v142 :: v143 :: v144 :: v145 :: v146 :: v147 :: v148 :: v149 :: v150 :: v151 :: v152 :: v153 :: v154 :: v155 :: v156 :: v157 :: v158 :: v159 :: v160 :: v161 :: v162 :: v163 :: v164 :: v165 :: v166 :: v167 :: v168 :: v169 :: v170 :: v171 :: v172 :: v173 :: v174 :: v175 :: v176 :: v177 :: v178 :: v179 :: v180 :: v181 :: v182 :: v183 :: v184 :: v185 :: v186 :: v187 :: v188 :: v189 :: v190 :: v191 :: v192 :: v193 :: v194 :: v195 :: v196 :: v197 :: v198 :: v199 :: v200 :: v201 :: v202 :: v203 :: v204 :: v205 :: v206 :: v207 :: v208 :: v209 :: v210 :: v211 :: v212 :: v213 :: v214 :: v215 :: v216 :: v217 :: v218 :: v219 :: v220 :: v221 :: v222 :: v223 :: v224 :: v225 :: v226 :: v227 :: v228 :: v229 :: v230 :: v231 :: v232 :: v233 :: v234 :: v235 :: v236 :: v237 :: v238 :: v239 :: v240 :: v241 :: v242 :: v243 :: v244 :: v245 :: v246 :: v247 :: v248 :: v249 :: v250 :: v251 :: v252 :: v253 :: v254 :: v255 :: v256 :: v257 :: v258 :: v259 :: v260 :: v261 :: v262 :: v263 :: v264 :: v265 :: v266 :: v267 :: v268 :: v269 :: v270 :: v271 :: v272 :: v273 :: v274 :: v275 :: v276 :: v277 :: v278 :: v279 :: v280 :: v281 :: v282 :: v283 :: v284 :: v285 :: v286 :: v287 :: v288 :: v289 :: v290 :: v291 :: v292 :: v293 :: v294 :: v295 :: v296 :: v297 :: v298 :: v299 :: v300 :: v301 :: v302 :: v303 :: v304 :: v305 :: v306 :: v307 :: v308 :: v309 :: v310 :: v311 :: v312 :: v313 :: v314 :: v315 :: v316 :: v317 :: v318 :: v319 :: v320 :: v321 :: v322 :: v323 :: v324 :: v325 :: v326 :: v327 :: v328 :: v329 :: v330 :: v331 :: v332 :: v333 :: v334 :: v335 :: v336 :: v337 :: v338 :: v339 :: v340 :: v341 :: v342 :: v343 :: v344 :: v345 :: v346 :: v347 :: v348 :: v349 :: v350 :: v351 :: v352 :: v353 :: v354 :: v355 :: v356 :: v357 :: v358 :: v359 :: v360 :: v361 :: v362 :: v363 :: v364 :: v365 :: v366 :: v367 :: v368 :: v369 :: v370 :: v371 :: v372 :: v373 :: v374 :: v375 :: v376 :: v377 :: v378 :: v379 :: v380 :: v381 :: v382 :: v383 :: v384 :: v385 :: v386 :: v387 :: v388 :: v389 :: v390 :: v391 :: v392 :: v393 :: v394 :: v395 :: v396 :: v397 :: v398 :: v399 :: v400 :: v401 :: v402 :: v403 :: v404 :: v405 :: v406 :: v407 :: v408 :: v409 :: v410 :: v411 :: v412 :: v413 :: v414 :: v415 :: v416 :: v417 :: v418 :: v419 :: v420 :: v421 :: v422 :: v423 :: v424 :: v425 :: v426 :: v427 :: v428 :: v429 :: v430 :: v431 :: v432 :: v433 :: v434 :: v435 :: v436 :: v437 :: v438 :: v439 :: v440 :: v441 :: v442 :: v443 :: v444 :: v445 :: v446 :: v447 :: v448 :: v449 :: v450 :: v451 :: v452 :: v453 :: v454 :: v455 :: v456 :: v457 :: v458 :: v459 :: v460 :: v461 :: v462 :: v463 :: v464 :: v465 :: v466 :: v467 :: v468 :: v469 :: v470 :: v471 :: []),[]⟩ w:=by
 have htm':=hT.tlen
 have htq:=tiles_eq hc.dev
 have hcl:=hc.len
 have hti:tileIn d (t:Int)=true:=tileIn_iff.2 ⟨hc.dev,by omega,by omega⟩
 have hpb:=perT_bd hc.dev
 obtain ⟨hlf,hl2,-,-⟩:=le_fit (e:=(e:Int)) hc hti (by omega)
 obtain ⟨hs4,hs7⟩:=sel_fit hlf
 obtain ⟨b,o,S',m3,q,L,l,q4,rfl,hbW,-,cl,-,-,-,rl⟩:=hT.tile (k:=t) (by omega)
 change RdC W W.heap.size (celE (tileAt ts (t:Int)).les) (.slice L l q4) at rl
 have hll:=rl.elen
 have hl:l=2:=by rw [←hll];exact hl2
 subst hl
 obtain ⟨bl,ol,A4,m4,p4,rfl,hbl,d0,-,-,-,r4⟩:=rl.le (k:=e) (by omega)
 change RdC W W.heap.size (celI (leAt ts (t:Int) (e:Int)).sel) (.slice A4 m4 p4) at r4
 have hm4:m4=4:=by rw [←r4.ints.1];exact hs4
 subst hm4
 obtain ⟨bs,os,rfl,hbs,hcs⟩:=r4.ints.2 (by omega)
 have CL:=Lib.hid cl
 have D0:=Lib.hid d0
 have HCS:=Lib.hid hcs
 have HS7:=Lib.hid hs7
 have HDR:=Lib.hid hDr
 have HS:=Lib.hid S
 have HX:=Lib.hid hexit
 have hmul0:0≤(t:Int) * perT d:=Int.mul_nonneg (by omega) (by omega)
 have hmul1:(t:Int) * perT d≤36 * 23:=Int.mul_le_mul (by omega) (by omega) (by omega) (by omega)
 have HTRC:=Lib.hid (fun (s:Int) (h0:0<s) (h7:s≤7) (w':World) (hd:Ints w' DA N (drvTo d ts N)) (hxx:Ints w' NA N xs)=>(by
  have h:=node_at (k:=s - 1) hti (by omega) (by omega)
  rw [←Int.add_sub_assoc] at h
  exact l42Trace_any d ts pl N DA dc NA nc xs ((t:Int) * perT d+s - 1) w' hd hxx hN hc hx h.1 fun hp=>by
   rw [h.2.1,h.2.2] at *
   rw [hk1]
   unfold outPins
   simp only [Int.one_ne_zero,if_true,if_false]
   omega:Calls Tryz.prog 70 #[.slice DA N dc,.int .i64 (perT d),.slice NA N nc,.int .i64 ((t:Int) * perT d+s - 1)] w' fun e w''=>e = .returned (.int .i64 (tr d ts pl ((t:Int) * perT d+s - 1)))∧w'=w''))
 have HSN:=Lib.hid (fun (k:Nat) (s:Int) (hs:(leAt ts (t:Int) (e:Int)).sel[k]?.getD 0=s)=>selN_bd (d:=d) (pl:=pl) (k:=k) (by omega) (by omega) hs)
 have HK0:=Lib.hid (K7.start d ts pl (2 * (t:Int)+(e:Int)) k0)
 have i0:(0:Int)≤(t:Int):=by omega
 have i1:(t:Int)<(m:Int):=by omega
 have j0:(0:Int)≤(e:Int):=by omega
 have j1:(e:Int)<2:=by omega
 clear hT hN hc hDr hx S hexit htm' htq hcl hti hlf hl2 hs4 hs7 cl rl hll d0 r4 hcs hk1
 generalize hXX:2 * (t:Int)+(e:Int)=X at *
 clear hXX
 generalize leAt ts (t:Int) (e:Int)=le at *
 conv=>arg 2;whnf
 go_loopw [25,26] (fun kv jv wr=>∃(k:Nat) (A:Option Addr) (n c:Nat) (ins:List Int) (kn:Bool),k≤4∧n≤k∧jv = .int .i64 (k:Int)∧kv = .bool kn∧K7 d ts pl X k0 k kn ins∧Sepa W wr (.blk gX #[.slice A n c,.int .i64 mask] 110 :: .cel (celI (ins)) (.slice A n c) :: .cel (celI xs) (.slice NA N nc) :: rs)) (fun _ jv _=>4 - (intOf jv).toNat)
 case atStart=>exact ⟨0,none,0,0,[],k0,by omega,by omega,rfl,rfl,HK0.out,HS.out⟩
 case round =>
  obtain ⟨k,A,n,c,ins,kn,hk,hnk,rfl,rfl,hK,hs⟩:=hrel
  have HK:=Lib.hid hK
  have HSS:=Lib.hid hs
  clear hK
  by_cases hlt:k<4
  ·have hdk:decide ((k:Int)<4)=true:=by simp;omega
   cases kn with
   | true =>
    have x0:=cell_heap (k:=0) (hs.blk 0 rfl).1 rfl
    have f0:=frozen_heap (hs.blk 0 rfl).1 0
    have lx:=heap_lt0 (hs.blk 0 rfl).1
    have c1:=(hs.bel.cell (p:=⟨b,o+t * 4+1,none⟩) hbW).trans CL.out
    have c2:=(hs.bel.cell (p:=⟨bl,ol+e * 4,none⟩) hbl).trans D0.out
    have c3:=(hs.bel.cell (p:=⟨bs,os+k,none⟩) hbs).trans (HCS.out k hlt)
    have l1:=below_lt hs.bel hbW
    have l2:=below_lt hs.bel hbl
    have l3:=below_lt hs.bel hbs
    have h7:=HS7.out k hlt
    have HSE:=Lib.hid (HSN.out k _ rfl)
    have HTR:=Lib.hid (fun (s:Int) (h0:0<s) (h7:s≤7)=>HTRC.out s h0 h7 wr (HDR.out.below HSS.out.bel) (HSS.out.ints 2 rfl))
    clear hs
    generalize le.sel[k]?.getD 0=s at *
    generalize hU:selN d ts pl X k=U at *
    have HUU:=Lib.hid hU.symm
    clear hU
    have i3:(0:Int)≤(k:Int):=by omega
    have i4:(k:Int)<4:=by omega
    have hu01:decide (0≤U)=true∨decide (0≤U)=false:=by cases decide (0≤U) <;> simp
    have HU01:=Lib.hid hu01
    clear hu01
    by_cases hs0:0<s
    ·have hds:decide (0<s)=true:=by simpa using hs0
     have HU:Hid (U=tr d ts pl ((t:Int) * perT d+s - 1)):=by show _=_;rw [HSE.out,if_pos hs0]
     have HTQ:=Lib.hid (HTR.out s hs0 h7.2)
     clear HSE HTR HTRC
     generalize perT d=Q at *
     rcases HU01.out with hdu|hdu
     all_goals
      go_wp2_with fail
      refine HTQ.out.mono ?_
      rw [←HU.out]
      rintro _ w2 ⟨rfl,rfl⟩
      go_wp2_with (at_builtin;refine wpList_sepPush rfl _ _ rfl _ (HSS.out.alloc _) 1 A n c ins U _ (0,0) rfl rfl rfl (heap_new _ _) (by omega) ?_;intro g9 cap w9 S9 hz9;have y0:=cell_heap (k:=0) (S9.blk 0 rfl).1 rfl;have g0:=frozen_heap (S9.blk 0 rfl).1 0;have ly:=heap_lt0 (S9.blk 0 rfl).1;have HS9:=Lib.hid S9;clear S9)
      go_roundw
      case rel=>exact ⟨k+1,_,n+1,cap,ins++[U],_,by omega,by omega,by go_num,rfl,by rw [←hdu];exact HK.out.next HUU.out,HS9.out.put 0 rfl 0 _⟩
      case measure=>simp [intOf];omega
    ·have hds:decide (0<s)=false:=by simpa using hs0
     have HU:Hid (0=U):=by show _=_;rw [HSE.out,if_neg hs0]
     clear HSE HTR HTRC
     go_wp2_with (at_builtin;refine wpList_sepPush rfl _ _ rfl _ (HSS.out.alloc _) 1 A n c ins 0 _ (0,0) rfl rfl rfl (heap_new _ _) (by omega) ?_;intro g9 cap w9 S9 hz9;have y0:=cell_heap (k:=0) (S9.blk 0 rfl).1 rfl;have g0:=frozen_heap (S9.blk 0 rfl).1 0;have ly:=heap_lt0 (S9.blk 0 rfl).1;have HS9:=Lib.hid S9;clear S9)
     go_roundw
     case rel=>exact ⟨k+1,_,n+1,cap,ins++[0],true,by omega,by omega,by go_num,rfl,HK.out.next (U:=0) (HU.out.trans HUU.out),HS9.out.put 0 rfl 0 _⟩
     case measure=>simp [intOf];omega
   | false =>
    have HF:=Lib.hid (HK.out.done hk (.inr rfl))
    clear hs
    go_wp2_with fail
    apply HX.out
    exact ⟨by omega,HF.out,HSS.out⟩
  ·have hk4:k=4:=by omega
   subst hk4
   have HF:=Lib.hid (HK.out.done hk (.inl rfl))
   clear hs
   go_wp2_with fail
   apply HX.out
   exact ⟨by omega,HF.out,HSS.out⟩
end Go.Proofs.YtignkfhdkcgkgaaGreat

namespace Go.Proofs.YtignkfhdkcgkgaaGreat
set_option maxRecDepth 100000
open Go.RowKit

set_option maxRecDepth 100000 in
set_option maxHeartbeats 8000000 in
theorem dsr_lp6 (W:World) (gD gN gL gU:Nat) (d:Dev) (ts:List Tile) (TA:Option Addr) (m tc N nc M uc:Nat) (DA:Option Addr) (dc:Nat) (In:Int) (SA:Option Addr) (sn sc:Nat) (OA:Option Addr) (on oc:Nat) (pI pO pS pQ:Pc) (rs:List Pc) (pl:List Int) (lt:List Lt) (q:Nat) (LA:Option Addr) (lc:Nat) (t:Nat) {v0 v1 v3 v4 v5 v6 v7 v8 v13 v14 v16 v17 v18 v20 v24 v25 v26 v27 v28 v29 v30 v31 v32 v33 v34 v35 v36 v37 v38 v39 v40 v41 v42 v43 v44 v45 v46 v47 v48 v49 v50 v51 v52 v53 v54 v55 v56 v57 v58 v59 v60 v61 v62 v63 v64 v65 v66 v67 v68 v69 v70 v71 v72 v73 v74 v75 v76 v77 v78 v79 v80 v81 v82 v83 v84 v85 v86 v87 v88 v89 v90 v91 v92 v93 v94 v95 v96 v97 v98 v99 v100 v101 v102 v103 v104 v105 v106 v107 v108 v109 v110 v111 v112 v113 v114 v115 v116 v117 v118 v119 v120 v121 v122 v123 v124 v125 v126 v127 v128 v129 v130 v131 v132 v133 v134 v135 v136 v137 v138 v139 v140 v141 v142 v143 v144 v145 v146 v147 v148 v149 v150 v151 v152 v153 v154 v155 v156 v157 v158 v159 v160 v161 v162 v163 v164 v165 v166 v167 v168 v169 v170 v171 v172 v173 v174 v175 v176 v177 v178 v179 v180 v181 v182 v183 v184 v185 v186 v187 v188 v189 v190 v191 v192 v193 v194 v195 v196 v197 v198 v199 v200 v201 v202 v203 v204 v205 v206 v207 v208 v209 v210 v211 v212 v213 v214 v215 v216 v217 v218 v219 v220 v221 v222 v223 v224 v225 v226 v227 v228 v229 v230 v231 v232 v233 v234 v235 v236 v237 v238 v239 v240 v241 v242 v243 v244 v245 v246 v247 v248 v249 v250 v251 v252 v253 v254 v255 v256 v257 v258 v259 v260 v261 v262 v263 v264 v265 v266 v267 v268 v269 v270 v271 v272 v273 v274 v275 v276 v277 v278 v279 v280 v281 v282 v283 v284 v285 v286 v287 v288 v289 v290 v291 v292 v293 v294 v295 v296 v297 v298 v299 v300 v301 v302 v303 v304 v305 v306 v307 v308 v309 v310 v311 v312 v313 v314 v315 v316 v317 v318 v319 v320 v321 v322 v323 v324 v325 v326 v327 v328 v329 v330 v331 v332 v333 v334 v335 v336 v337 v338 v339 v340 v341 v342 v343 v344 v345 v346 v347 v348 v349 v350 v351 v352 v353 v354 v355 v356 v357 v358 v359 v360 v361 v362 v363 v364 v365 v366 v367 v368 v369 v370 v371 v372 v373 v374 v375 v376 v377 v378 v379 v380 v381 v382 v383 v384 v385 v386 v387 v388 v389 v390 v391 v392 v393 v394 v395 v396 v397 v398 v399 v400 v401 v402 v403 v404 v405 v406 v407 v408 v409 v410 v411 v412 v413 v414 v415 v416 v417 v418 v419 v420 v421 v422 v423 v424 v425 v426 v427 v428 v429 v430 v431 v432 v433 v434 v435 v436 v437 v438 v439 v440 v441 v442 v443 v444 v445 v446 v447 v448 v449 v450 v451 v452 v453 v454 v455 v456 v457 v458 v459 v460 v461 v462 v463 v464 v465 v466 v467 v468 v469 v470 v471:Value} {Q0:Exit→Act→World→Prop} (w:World) (hT:RdC W W.heap.size (celT ts) (.slice TA m tc)) (hN:(N:Int)=nodesOf d) (hc:CfgOk d ts) (hD:W.heap[gD]?=some (.cells #[.int .i64 d.W,.int .i64 d.H,.int .i64 d.T,.int .i64 d.R] 25 (0,0))) (hDr:Ints W DA N (drvTo d ts N)) (hlt:ltB d ts=1+In+(sn:Int)) (hIn0:0≤In) (hIn1:In≤36) (hsn:sn≤72) (hM:M=2 * m) (hpl:pl.length=q) (hll:lt.length=q) (hq:q≤72) (htm:t<m) (S:Srch W w d ts pl lt (fun pl lt LA q lc => .cel (celI ((List.range N).map (F3 d ts (pl)))) (.slice (some ⟨gN,0,none⟩) N nc) :: pI :: pO :: lnBlk gL In (.slice SA sn sc) (.slice LA q lc) (.slice OA on oc) :: .cel (celLt (lt)) (.slice LA q lc) :: pS :: pQ :: .cel (celI ((List.range M).map fun (y:Nat)=>numF (ltB d ts) (pl) (y:Int))) (.slice (some ⟨gU,0,none⟩) M uc) :: rs) q LA lc (2 * (t:Int)) false)
  (hexit:∀(fb:Bool) (y23 y24 y25 y26 y27 y227 y228 y229 y230 y231 y232 y233 y234 y235 y236 y237 y238 y239 y240 y241 y242 y243 y244 y245 y246 y247 y248 y249 y250 y251 y252 y253 y254 y255 y256 y257 y258 y259 y260 y261 y262 y263 y264 y265 y266 y267 y268 y269 y270 y271 y272 y273 y274 y275 y276 y277 y278 y279 y280 y281 y282 y283 y284 y285 y286 y287 y288 y289 y290 y291 y292 y293 y294 y295 y296 y297 y298 y299 y300 y301 y302 y303 y304 y305 y306 y307 y308 y309 y310 y311 y312 y313 y314 y315 y316 y317 y318 y319 y320 y321 y322 y323 y324 y325 y326 y327 y328 y329 y330 y331 y332 y333 y334 y335 y336 y337 y338 y339 y340 y341 y342 y343 y344 y345 y346 y347 y348 y349 y350 y351:Value) (w':World),Srch W w' d ts pl lt (fun pl lt LA q lc => .cel (celI ((List.range N).map (F3 d ts (pl)))) (.slice (some ⟨gN,0,none⟩) N nc) :: pI :: pO :: lnBlk gL In (.slice SA sn sc) (.slice LA q lc) (.slice OA on oc) :: .cel (celLt (lt)) (.slice LA q lc) :: pS :: pQ :: .cel (celI ((List.range M).map fun (y:Nat)=>numF (ltB d ts) (pl) (y:Int))) (.slice (some ⟨gU,0,none⟩) M uc) :: rs) q LA lc (2 * (t:Int)+2) fb→Q0 (.exit 10) ⟨List.toArray (v0 :: v1 :: .pointer (some ⟨gD,0,none⟩) :: v3 :: v4 :: v5 :: v6 :: v7 :: v8 :: .slice TA m tc :: .int .i64 (perT d) :: .slice DA N dc :: .pointer (some ⟨gL,0,none⟩) :: v13 :: v14 :: .slice (some ⟨gN,0,none⟩) N nc :: v16 :: v17 :: v18 :: .slice (some ⟨gU,0,none⟩) M uc :: v20 :: .bool fb :: .int .i64 (t:Int) :: y23 :: y24 :: y25 :: y26 :: y27 :: v28 :: v29 :: v30 :: v31 :: v32 :: v33 :: v34 :: v35 :: v36 :: v37 :: v38 :: v39 :: v40 :: v41 :: v42 :: v43 :: v44 :: v45 :: v46 :: v47 :: v48 :: v49 :: v50 :: v51 :: v52 :: v53 :: v54 :: v55 :: v56 :: v57 :: v58 :: v59 :: v60 :: v61 :: v62 :: v63 :: v64 :: v65 :: v66 :: v67 :: v68 :: v69 :: v70 :: v71 :: v72 :: v73 :: v74 :: v75 :: v76 :: v77 :: v78 :: v79 :: v80 :: v81 :: v82 :: v83 :: v84 :: v85 :: v86 :: v87 :: v88 :: v89 :: v90 :: v91 :: v92 :: v93 :: v94 :: v95 :: v96 :: v97 :: v98 :: v99 :: v100 :: v101 :: v102 :: v103 :: v104 :: v105 :: v106 :: v107 :: v108 :: v109 :: v110 :: v111 :: v112 :: v113 :: v114 :: v115 :: v116 :: v117 :: v118 :: v119 :: v120 :: v121 :: v122 :: v123 :: v124 :: v125 :: v126 :: v127 :: v128 :: v129 :: v130 :: v131 :: v132 :: v133 :: v134 :: v135 :: v136 :: v137 :: v138 :: v139 :: v140 :: v141 :: v142 :: v143 :: v144 :: v145 :: v146 :: v147 :: v148 :: v149 :: v150 :: v151 :: v152 :: v153 :: v154 :: v155 :: v156 :: v157 :: v158 :: v159 :: v160 :: v161 :: v162 :: v163 :: v164 :: v165 :: v166 :: v167 :: v168 :: v169 :: v170 :: v171 :: v172 :: v173 :: v174 :: v175 :: v176 :: v177 :: v178 :: v179 :: v180 :: v181 :: v182 :: v183 :: v184 :: v185 :: v186 :: v187 :: v188 :: v189 :: v190 :: v191 :: v192 :: v193 :: v194 :: v195 :: v196 :: v197 :: v198 :: v199 :: v200 :: v201 :: v202 :: v203 :: v204 :: v205 :: v206 :: v207 :: v208 :: v209 :: v210 :: v211 :: v212 :: v213 :: v214 :: v215 :: v216 :: v217 :: v218 :: v219 :: v220 :: v221 :: v222 :: v223 :: v224 :: v225 :: v226 :: y227 :: y228 :: y229 :: y230 :: y231 :: y232 :: y233 :: y234 :: y235 :: y236 :: y237 :: y238 :: y239 :: y240 :: y241 :: y242 :: y243 :: y244 :: y245 :: y246 :: y247 :: y248 :: y249 :: y250 :: y251 :: y252 :: y253 :: y254 :: y255 :: y256 :: y257 :: y258 :: y259 :: y260 :: y261 :: y262 :: y263 :: y264 :: y265 :: y266 :: y267 :: y268 :: y269 :: y270 :: y271 :: y272 :: y273 :: y274 :: y275 :: y276 :: y277 :: y278 :: y279 :: y280 :: y281 :: y282 :: y283 :: y284 :: y285 :: y286 :: y287 :: y288 :: y289 :: y290 :: y291 :: y292 :: y293 :: y294 :: y295 :: y296 :: y297 :: y298 :: y299 :: y300 :: y301 :: y302 :: y303 :: y304 :: y305 :: y306 :: y307 :: y308 :: y309 :: y310 :: y311 :: y312 :: y313 :: y314 :: y315 :: y316 :: y317 :: y318 :: y319 :: y320 :: y321 :: y322 :: y323 :: y324 :: y325 :: y326 :: y327 :: y328 :: y329 :: y330 :: y331 :: y332 :: y333 :: y334 :: y335 :: y336 :: y337 :: y338 :: y339 :: y340 :: y341 :: y342 :: y343 :: y344 :: y345 :: y346 :: y347 :: y348 :: y349 :: y350 :: y351 :: v352 :: v353 :: v354 :: v355 :: v356 :: v357 :: v358 :: v359 :: v360 :: v361 :: v362 :: v363 :: v364 :: v365 :: v366 :: v367 :: v368 :: v369 :: v370 :: v371 :: v372 :: v373 :: v374 :: v375 :: v376 :: v377 :: v378 :: v379 :: v380 :: v381 :: v382 :: v383 :: v384 :: v385 :: v386 :: v387 :: v388 :: v389 :: v390 :: v391 :: v392 :: v393 :: v394 :: v395 :: v396 :: v397 :: v398 :: v399 :: v400 :: v401 :: v402 :: v403 :: v404 :: v405 :: v406 :: v407 :: v408 :: v409 :: v410 :: v411 :: v412 :: v413 :: v414 :: v415 :: v416 :: v417 :: v418 :: v419 :: v420 :: v421 :: v422 :: v423 :: v424 :: v425 :: v426 :: v427 :: v428 :: v429 :: v430 :: v431 :: v432 :: v433 :: v434 :: v435 :: v436 :: v437 :: v438 :: v439 :: v440 :: v441 :: v442 :: v443 :: v444 :: v445 :: v446 :: v447 :: v448 :: v449 :: v450 :: v451 :: v452 :: v453 :: v454 :: v455 :: v456 :: v457 :: v458 :: v459 :: v460 :: v461 :: v462 :: v463 :: v464 :: v465 :: v466 :: v467 :: v468 :: v469 :: v470 :: v471 :: []),[]⟩ w')
  : Code.wp Tryz.prog (loopD (loopD (loopAt Tryz.f29 2) 0) 0) Q0 ⟨List.toArray (v0 :: v1 :: .pointer (some ⟨gD,0,none⟩) :: v3 :: v4 :: v5 :: v6 :: v7 :: v8 :: .slice TA m tc :: .int .i64 (perT d) :: .slice DA N dc :: .pointer (some ⟨gL,0,none⟩) :: v13 :: v14 :: .slice (some ⟨gN,0,none⟩) N nc :: v16 :: v17 :: v18 :: .slice (some ⟨gU,0,none⟩) M uc :: v20 :: .bool false :: .int .i64 (t:Int) :: .int .i64 0 :: v24 :: v25 :: v26 :: v27 :: v28 :: v29 :: v30 :: v31 :: v32 :: v33 :: v34 :: v35 :: v36 :: v37 :: v38 :: v39 :: v40 :: v41 :: v42 :: v43 :: v44 :: v45 :: v46 :: v47 :: v48 :: v49 :: v50 :: v51 :: v52 :: v53 :: v54 :: v55 :: v56 :: v57 :: v58 :: v59 :: v60 :: v61 :: v62 :: v63 :: v64 :: v65 :: v66 :: v67 :: v68 :: v69 :: v70 :: v71 :: v72 :: v73 :: v74 :: v75 :: v76 :: v77 :: v78 :: v79 :: v80 :: v81 :: v82 :: v83 :: v84 :: v85 :: v86 :: v87 :: v88 :: v89 :: v90 :: v91 :: v92 :: v93 :: v94 :: v95 :: v96 :: v97 :: v98 :: v99 :: v100 :: v101 :: v102 :: v103 :: v104 :: v105 :: v106 :: v107 :: v108 :: v109 :: v110 :: v111 :: v112 :: v113 :: v114 :: v115 :: v116 :: v117 :: v118 :: v119 :: v120 :: v121 :: v122 :: v123 :: v124 :: v125 :: v126 :: v127 :: v128 :: v129 :: v130 :: v131 :: v132 :: v133 :: v134 :: v135 :: v136 :: v137 :: v138 :: v139 :: v140 :: v141 :: v142 :: v143 :: v144 :: v145 :: v146 :: v147 :: v148 :: v149 :: v150 :: v151 :: v152 :: v153 :: v154 :: v155 :: v156 :: v157 :: v158 :: v159 :: v160 :: v161 :: v162 :: v163 :: v164 :: v165 :: v166 :: v167 :: v168 :: v169 :: v170 :: v171 :: v172 :: v173 :: v174 :: v175 :: v176 :: v177 :: v178 :: v179 :: v180 :: v181 :: v182 :: v183 :: v184 :: v185 :: v186 :: v187 :: v188 :: v189 :: v190 :: v191 :: v192 :: v193 :: v194 :: v195 :: v196 :: v197 :: v198 :: v199 :: v200 :: v201 :: v202 :: v203 :: v204 :: v205 :: v206 :: v207 :: v208 :: v209 :: v210 :: v211 :: v212 :: v213 :: v214 :: v215 :: v216 :: v217 :: v218 :: v219 :: v220 :: v221 :: v222 :: v223 :: v224 :: v225 :: v226 :: v227 :: v228 :: v229 :: v230 :: v231 :: v232 :: v233 :: v234 :: v235 :: v236 :: v237 :: v238 :: v239 :: v240 :: v241 :: v242 :: v243 :: v244 :: v245 :: v246 :: v247 :: v248 :: v249 :: v250 :: v251 :: v252 :: v253 :: v254 :: v255 :: v256 :: v257 :: v258 :: v259 :: v260 :: v261 :: v262 :: v263 :: v264 :: v265 :: v266 :: v267 :: v268 :: v269 :: v270 :: v271 :: v272 :: v273 :: v274 :: v275 :: v276 :: v277 :: v278 :: v279 :: v280 :: v281 :: v282 :: v283 :: v284 :: v285 :: v286 :: v287 :: v288 :: v289 :: v290 :: v291 :: v292 :: v293 :: v294 :: v295 :: v296 :: v297 :: v298 :: v299 :: v300 :: v301 :: v302 :: v303 :: v304 :: v305 :: v306 :: v307 :: v308 :: v309 :: v310 :: v311 :: v312 :: v313 :: v314 :: v315 :: v316 :: v317 :: v318 :: v319 :: v320 :: v321 :: v322 :: v323 :: v324 :: v325 :: v326 :: v327 :: v328 :: v329 :: v330 :: v331 :: v332 :: v333 :: v334 :: v335 :: v336 :: v337 :: v338 :: v339 :: v340 :: v341 :: v342 :: v343 :: v344 :: v345 :: v346 :: v347 :: v348 :: v349 :: v350 :: v351 :: v352 :: v353 :: v354 :: v355 :: v356 :: v357 :: v358 :: v359 :: v360 :: v361 :: v362 :: v363 :: v364 :: v365 :: v366 :: v367 :: v368 :: v369 :: v370 :: v371 :: v372 :: v373 :: v374 :: v375 :: v376 :: v377 :: v378 :: v379 :: v380 :: v381 :: v382 :: v383 :: v384 :: v385 :: v386 :: v387 :: v388 :: v389 :: v390 :: v391 :: v392 :: v393 :: v394 :: v395 :: v396 :: v397 :: v398 :: v399 :: v400 :: v401 :: v402 :: v403 :: v404 :: v405 :: v406 :: v407 :: v408 :: v409 :: v410 :: v411 :: v412 :: v413 :: v414 :: v415 :: v416 :: v417 :: v418 :: v419 :: v420 :: v421 :: v422 :: v423 :: v424 :: v425 :: v426 :: v427 :: v428 :: v429 :: v430 :: v431 :: v432 :: v433 :: v434 :: v435 :: v436 :: v437 :: v438 :: v439 :: v440 :: v441 :: v442 :: v443 :: v444 :: v445 :: v446 :: v447 :: v448 :: v449 :: v450 :: v451 :: v452 :: v453 :: v454 :: v455 :: v456 :: v457 :: v458 :: v459 :: v460 :: v461 :: v462 :: v463 :: v464 :: v465 :: v466 :: v467 :: v468 :: v469 :: v470 :: v471 :: []),[]⟩ w:=by
 have htl:=hT.tlen
 have htq:=tiles_eq hc.dev
 have hcl:=hc.len
 have hti:tileIn d (t:Int)=true:=tileIn_iff.2 ⟨hc.dev,by omega,by omega⟩
 have hpb:=perT_bd hc.dev
 obtain ⟨b,o,S',m3,q',L,l,q4,rfl,hbW,-,cl,-,-,-,rl⟩:=hT.tile (k:=t) (by omega)
 change RdC W W.heap.size (celE (tileAt ts (t:Int)).les) (.slice L l q4) at rl
 have hll':=rl.elen
 have hl2:=(le_fit (e:=0) hc hti (by omega)).2.1
 have hl:l=2:=by rw [←hll'];exact hl2
 subst hl
 have HLE:=Lib.hid (fun (e:Nat) (he:e<2)=>rl.le (k:=e) (by rw [hll'];exact he))
 have CL:=Lib.hid cl
 have HT:=Lib.hid hT
 have HN:=Lib.hid hN
 have HC:=Lib.hid hc
 have HD:=Lib.hid hD
 have HDR:=Lib.hid hDr
 have HLT:=Lib.hid hlt
 have HPL:=Lib.hid hpl
 have HLL:=Lib.hid hll
 have HX:=Lib.hid hexit
 have HTI:=Lib.hid hti
 have HTK:=Lib.hid (fun w'=>stileKind_in d (t:Int) w' hti)
 have hmul0:0≤(t:Int) * perT d:=Int.mul_nonneg (by omega) (by omega)
 have hmul1:(t:Int) * perT d≤36 * 23:=Int.mul_le_mul (by omega) (by omega) (by omega) (by omega)
 have HIX:Hid ((t:Int) * perT d+6<(N:Int)):=by
  have h1:=(node_at (k:=6) hti (by omega) (by omega)).1
  have h2:=(nodeIn_rnP.1 h1).2.2
  show _<_
  rw [hN];exact h2
 have HLG:Hid (∀y,y∈lgL d ts→kindOf d (y / 2)=1):=fun y hy=>(lgTo_in.1 hy).2.2
 have HLH:Hid (∀y:Int,0≤y→y<2 * (m:Int)→kindOf d (y / 2)=1→y∈lgL d ts):=fun y h0 h1 h2=>by
  unfold lgL
  rw [htl]
  exact lgTo_in.2 ⟨h0,h1,h2⟩
 have HMM:=Lib.hid hM
 have hM72:M≤72:=by omega
 have HS0:=Lib.hid (show Srch W w d ts pl lt (fun pl lt LA q lc => .cel (celI ((List.range N).map (F3 d ts (pl)))) (.slice (some ⟨gN,0,none⟩) N nc) :: pI :: pO :: lnBlk gL In (.slice SA sn sc) (.slice LA q lc) (.slice OA on oc) :: .cel (celLt (lt)) (.slice LA q lc) :: pS :: pQ :: .cel (celI ((List.range M).map fun (y:Nat)=>numF (ltB d ts) (pl) (y:Int))) (.slice (some ⟨gU,0,none⟩) M uc) :: rs) q LA lc (2 * (t:Int)+((0:Nat):Int)) false from by rw [show 2 * (t:Int)+((0:Nat):Int)=2 * (t:Int) by omega];exact S)
 have i0:(0:Int)≤(t:Int):=by omega
 have i1:(t:Int)<(m:Int):=by omega
 have i3:(t:Int)≤36:=by omega
 have HM1:Hid (2 * (t:Int)+2≤(M:Int)):=by show _≤_;omega
 have lD0:=heap_lt0 hD
 obtain ⟨ti,ht1,ht2,ht3,ht4⟩:=info_parts lut_info
 have HTF:=Lib.hid (And.intro ht1 (And.intro ht2 (And.intro ht3 ht4)))
 clear hT hN hc hD hDr hlt hpl hll hexit htl htq hcl hti cl rl hll' hl2 hM S ht1 ht2 ht3 ht4
 generalize hK:kindOf d (t:Int)=K at *
 have HK:=Lib.hid hK
 clear hK
 conv=>arg 2;whnf
 go_loopw [21,23] (fun fv ev wr=>∃(e:Nat) (fb:Bool),e≤2∧ev = .int .i64 (e:Int)∧fv = .bool fb∧Srch W wr d ts pl lt (fun pl lt LA q lc => .cel (celI ((List.range N).map (F3 d ts (pl)))) (.slice (some ⟨gN,0,none⟩) N nc) :: pI :: pO :: lnBlk gL In (.slice SA sn sc) (.slice LA q lc) (.slice OA on oc) :: .cel (celLt (lt)) (.slice LA q lc) :: pS :: pQ :: .cel (celI ((List.range M).map fun (y:Nat)=>numF (ltB d ts) (pl) (y:Int))) (.slice (some ⟨gU,0,none⟩) M uc) :: rs) q LA lc (2 * (t:Int)+(e:Int)) fb) (fun _ ev _=>2 - (intOf ev).toNat)
 case atStart=>exact ⟨0,false,by omega,rfl,rfl,HS0.out⟩
 case round =>
  obtain ⟨e,fb,he,rfl,rfl,hs⟩:=hrel
  have HSS:=Lib.hid hs
  have hD':=heap_tr hs.bel HD.out
  have d0:=cell_heap (k:=0) hD' rfl
  have d1:=cell_heap (k:=1) hD' rfl
  have d2:=cell_heap (k:=2) hD' rfl
  have d3:=cell_heap (k:=3) hD' rfl
  have lD:=heap_lt0 hD'
  clear hs hD'
  by_cases hlt2:e<2
  ·have hde:decide ((e:Int)<2)=true:=by simp;omega
   by_cases hk:K=1
   ·have hK1:(K==1)=true:=by simp [hk]
    have HK1:Hid (kindOf d (t:Int)=1):=HK.out.trans hk
    clear hk HK
    cases fb with
    | true =>
     go_wp2_with fail
     refine (HTK.out _).mono ?_
     rintro _ w3 ⟨rfl,b3⟩
     have HS3:=Lib.hid ((HSS.out.below b3).any (c':=2 * (t:Int)+2))
     clear b3 d0 d1 d2 d3 lD
     go_wp2_with fail
     apply HX.out
     exact HS3.out
    | false =>
     have hsr:=HSS.out
     unfold Srch at hsr
     rw [if_neg (by simp)] at hsr
     obtain ⟨hno,hs⟩:=hsr
     have HNO:=Lib.hid hno
     have HS1:=Lib.hid hs
     clear hno hs
     obtain ⟨bl,ol,A5,n5,c5,hL,hbl,-,x1,x2,-,-⟩:=HLE.out e hlt2
     subst hL
     change W.cell? ⟨bl,ol+e * 4+1,none⟩=some (.int .i64 (leAt ts (t:Int) (e:Int)).mask) at x1
     change W.cell? ⟨bl,ol+e * 4+2,none⟩=some (.int .i64 (leAt ts (t:Int) (e:Int)).flop) at x2
     have X1:=Lib.hid x1
     have X2:=Lib.hid x2
     have HLX:=Lib.hid (leX_eq ts (t:Int) (e:Int) (by omega) (by omega))
     have HFL:=Lib.hid (le_fit (e:=(e:Int)) HC.out HTI.out (by omega)).1.flop
     have HL1:Hid (ltOf d ts pl (2 * (t:Int)+(e:Int))=⟨selTo d ts pl (2 * (t:Int)+(e:Int)) 4,(leAt ts (t:Int) (e:Int)).mask⟩):=by show _=_;unfold ltOf;rw [HLX.out]
     clear x1 x2 HLE
     generalize leAt ts (t:Int) (e:Int)=le at *
     have j0:(0:Int)≤(e:Int):=by omega
     have j1:(e:Int)<2:=by omega
     have j2:(2 * (t:Int)+(e:Int)).toNat=2 * t+e:=by omega
     have j3:(0:Int)≤2 * (t:Int)+(e:Int):=by omega
     have j4:2 * (t:Int)+(e:Int)<(M:Int):=by have:=HM1.out;omega
     have j5:2 * t+e<M:=by omega
     have HUX:Hid (((2 * t+e:Nat):Int)=2 * (t:Int)+(e:Int)):=by show _=_;omega
     go_wp2_with fail
     refine (HTK.out _).mono ?_
     rintro _ w3 ⟨rfl,b3⟩
     have HS3:=Lib.hid (HS1.out.below b3)
     have cU:=ints_at0 (HS3.out.ints 7 rfl) (luts_get (base:=ltB d ts) (pl:=pl) j5)
     have lU:gU<w3.heap.size:=by
      obtain ⟨_,hg,_,h,-⟩:=HS3.out.setI 7 rfl j5
      injection hg with hg
      injection hg with hg
      rw [hg];exact h
     have x1:=(HS3.out.bel.cell (p:=⟨bl,ol+e * 4+1,none⟩) hbl).trans X1.out
     have c1:=(HS3.out.bel.cell (p:=⟨b,o+t * 4+1,none⟩) hbW).trans CL.out
     have l1:=below_lt HS3.out.bel hbW
     have l2:=below_lt HS3.out.bel hbl
     rw [HUX.out] at cU
     have HV0:Hid (2 * (t:Int)+(e:Int)∉pl↔(numF (ltB d ts) pl (2 * (t:Int)+(e:Int))==0)=true):=by
      show _↔_
      have h1:=numF_mem (base:=ltB d ts) (l:=pl) (x:=2 * (t:Int)+(e:Int)) (by rw [HLT.out];omega)
      have h2:=(numF_bd (base:=ltB d ts) (l:=pl) (x:=2 * (t:Int)+(e:Int)) (by rw [HLT.out];omega)).1
      rw [beq_iff_eq]
      constructor
      ·intro h;have:=mt h1.1 h;omega
      ·intro h h3;have:=h1.2 h3;omega
     generalize numF (ltB d ts) pl (2 * (t:Int)+(e:Int))=V at *
     have HS4:=Lib.hid ((HS3.out.consNil 3 1).consBlk #[.slice none 0 0,.int .i64 le.mask] 110)
     clear b3 d0 d1 d2 d3 lD HS3
     go_upto_region 48 with fail
     refine dsr_lp7 W w3.heap.size d ts _ m tc N _ nc DA dc _ pl t e le.mask (V==0) _ _ HT.out HN.out HC.out HDR.out (F3_ok HN.out) (by omega) HK1.out hlt2 HS4.out ?_
     clear HS4 cU lU x1 c1 l1 l2
     intro kn ins A n c
     intros
     rename_i w4 h4
     obtain ⟨hn4,hK7,hS4⟩:=h4
     have HS4:=Lib.hid hS4
     have HK7:=Lib.hid hK7
     clear hK7
     cases kn with
     | false =>
      have HS5:=Lib.hid (show Srch W w4 d ts pl lt (fun pl lt LA q lc => .cel (celI ((List.range N).map (F3 d ts (pl)))) (.slice (some ⟨gN,0,none⟩) N nc) :: pI :: pO :: lnBlk gL In (.slice SA sn sc) (.slice LA q lc) (.slice OA on oc) :: .cel (celLt (lt)) (.slice LA q lc) :: pS :: pQ :: .cel (celI ((List.range M).map fun (y:Nat)=>numF (ltB d ts) (pl) (y:Int))) (.slice (some ⟨gU,0,none⟩) M uc) :: rs) q LA lc (2 * (t:Int)+((e+1:Nat):Int)) false from by
       refine Srch.skip (c:=2 * (t:Int)+(e:Int)) ?_ fun y hy h1 h2=>?_
       ·unfold Srch
        rw [if_neg (by simp)]
        exact ⟨HNO.out,hS4.tail.tail⟩
       ·have hye:y=2 * (t:Int)+(e:Int):=by omega
        subst hye
        have h3:=HK7.out.1
        by_cases hp:2 * (t:Int)+(e:Int)∈pl
        ·exact .inl hp
        ·refine .inr ?_
         rw [HV0.out.1 hp,Bool.true_and] at h3
         exact h3.symm)
      clear hS4
      go_wp2_with fail
      go_roundw
      case rel=>exact ⟨e+1,false,by omega,by go_num,rfl,HS5.out⟩
      case measure=>simp [intOf];omega
     | true =>
      have hkk:=HK7.out.1
      rw [eq_comm,Bool.and_eq_true] at hkk
      have HNP:=Lib.hid (HV0.out.2 hkk.1)
      have HKN:=Lib.hid (show known d ts pl (2 * (t:Int)+(e:Int))=true from hkk.2)
      have HIN:=Lib.hid (HK7.out.2 rfl)
      have hn:n=4:=by have h1:=(hS4.ints 1 rfl).1;rw [HIN.out,selTo_length] at h1;omega
      subst hn
      clear hS4 hkk
      have HVQ:Hid (ltB d ts+(pl.length:Int)=1+In+(sn:Int)+(q:Int)):=by show _=_;rw [HLT.out,HPL.out]
      have hls:=luts_set (base:=ltB d ts) (pl:=pl) (M:=M) HNP.out HUX.out j5
      rw [HVQ.out] at hls
      have HLS:=Lib.hid hls
      clear hls
      go_upto_region 57 with fail
      go_cut [] from 309 to 320 (fun wx=>Sepa W wx (.blk w3.heap.size #[.slice A 4 c,.int .i64 le.mask] 110 :: .cel (celI ins) (.slice A 4 c) :: .cel (celI ((List.range N).map (F3 d ts (pl)))) (.slice (some ⟨gN,0,none⟩) N nc) :: pI :: pO :: lnBlk gL In (.slice SA sn sc) (.slice LA q lc) (.slice OA on oc) :: .cel (celLt (lt)) (.slice LA q lc) :: pS :: pQ :: .cel (celI ((List.range M).map fun (y:Nat)=>numF (ltB d ts) (pl++[2 * (t:Int)+(e:Int)]) (y:Int))) (.slice (some ⟨gU,0,none⟩) M uc) :: rs))
      case first =>
       have h0:=cell_heap (k:=0) (HS4.out.blk 5 rfl).1 rfl
       have h1:=cell_heap (k:=1) (HS4.out.blk 5 rfl).1 rfl
       have h2:=cell_heap (k:=2) (HS4.out.blk 5 rfl).1 rfl
       have h3:=cell_heap (k:=3) (HS4.out.blk 5 rfl).1 rfl
       have lL:=heap_lt0 (HS4.out.blk 5 rfl).1
       have v1:IntKind.i64.wrap (2 * (t:Int))=2 * (t:Int):=IntWalk.i64_in _ (by omega)
       have v2:IntKind.i64.wrap (2 * (t:Int)+(e:Int))=2 * (t:Int)+(e:Int):=IntWalk.i64_in _ (by omega)
       have v3:IntKind.i64.wrap (1+In+(sn:Int)+(q:Int))=1+In+(sn:Int)+(q:Int):=IntWalk.i64_in _ (by omega)
       refine wp_region_noPanic ?_
       go_region_with (go_at_call 71;(with_reducible refine (l20First_any In SA LA OA sn sc q lc on oc _ hIn0 (by omega) (by omega)).mono ?_);rintro _ w5 ⟨rfl,b5⟩;have S5:=HS4.out.drew.below b5;have r2:=cell_heap (k:=2) (S5.blk 5 rfl).1 rfl;have rL:=heap_lt0 (S5.blk 5 rfl).1;obtain ⟨_,hg',_,lU,cU,fU,hN5⟩:=S5.setI 9 rfl j5;injection hg' with hg';injection hg' with hg';subst hg';have HN5:=Lib.hid (hN5 (1+In+(sn:Int)+(q:Int)));clear S5 hN5 b5)
       all_goals
        refine NoPanic.normal ?_
        go_wp2_with fail
        go_meet
        have hh:=(show Sepa W _ (.blk w3.heap.size #[.slice A 4 c,.int .i64 le.mask] 110 :: .cel (celI ins) (.slice A 4 c) :: .cel (celI ((List.range N).map (F3 d ts (pl)))) (.slice (some ⟨gN,0,none⟩) N nc) :: pI :: pO :: lnBlk gL In (.slice SA sn sc) (.slice LA q lc) (.slice OA on oc) :: .cel (celLt (lt)) (.slice LA q lc) :: pS :: pQ :: .cel (celI (((List.range M).map fun (y:Nat)=>numF (ltB d ts) (pl) (y:Int)).set (2 * t+e) (1+In+(sn:Int)+(q:Int)))) (.slice (some ⟨gU,0,none⟩) M uc) :: rs) from HN5.out)
        rw [HLS.out] at hh
        exact hh
      have HS5:=Lib.hid hcut
      have b0:=cell_heap (k:=0) (hcut.blk 0 rfl).1 rfl
      have b1:=cell_heap (k:=1) (hcut.blk 0 rfl).1 rfl
      have lB:=heap_lt0 (hcut.blk 0 rfl).1
      have g2:=cell_heap (k:=2) (hcut.blk 5 rfl).1 rfl
      have lL:=heap_lt0 (hcut.blk 5 rfl).1
      clear hcut
      go_upto_region 59 with (at_builtin;refine wpList_sepPushG rfl _ _ _ 110 rfl ti _ 2 32 Tryz.underlying59 HTF.out.1 HTF.out.2.1 HTF.out.2.2.1 HTF.out.2.2.2 rfl (by decide) (by decide) _ ((HS5.out.alloc _).lutCels 1 rfl) 6 1 (by decide) q lc _ LA (lt.flatMap Lt.cells) _ #[.slice A 4 c,.int .i64 le.mask] _ rfl rfl rfl rfl (heap_new _ _) rfl (by omega) ?_;intro g9 cap w9 S9 hz9;have l9:=cell_heap (k:=2) (S9.blk 5 rfl).1 rfl;have f9:=frozen_heap (S9.blk 5 rfl).1 2;have q9:=heap_lt0 (S9.blk 5 rfl).1;have HS9:=Lib.hid S9;clear S9 hz9)
      have hs10:=(HS9.out.put 5 rfl 2 (.slice (some ⟨g9,0,none⟩) (q+1) cap)).tail.tail
      rw [show Pc.cel (Cel.row 110 2 (lt.flatMap Lt.cells++[celI ins,.int le.mask])) (.slice (some ⟨g9,0,none⟩) (q+1) cap) = .cel (celLt (lt++[⟨ins,le.mask⟩])) (.slice (some ⟨g9,0,none⟩) (q+1) cap) by rw [celLt,lts_snoc];rfl] at hs10
      replace hs10:=(show Sepa W _ (.cel (celI ((List.range N).map (F3 d ts (pl)))) (.slice (some ⟨gN,0,none⟩) N nc) :: pI :: pO :: lnBlk gL In (.slice SA sn sc) (.slice (some ⟨g9,0,none⟩) (q+1) cap) (.slice OA on oc) :: .cel (celLt (lt++[⟨ins,le.mask⟩])) (.slice (some ⟨g9,0,none⟩) (q+1) cap) :: pS :: pQ :: .cel (celI ((List.range M).map fun (y:Nat)=>numF (ltB d ts) (pl++[2 * (t:Int)+(e:Int)]) (y:Int))) (.slice (some ⟨gU,0,none⟩) M uc) :: rs) from hs10)
      have HS10:=Lib.hid hs10
      clear hs10 l9 f9 q9 b0 b1 lB g2 lL
      generalize w9.setCell _ _=w10 at *
      have hl1:=HL1.out
      rw [←HIN.out] at hl1
      have HL2:=Lib.hid hl1
      have HIL:Hid (2 * (t:Int)+(e:Int)∈lgL d ts):=HLH.out _ (by omega) (by omega) (by rw [show (2 * (t:Int)+(e:Int)) / 2=(t:Int) by omega];exact HK1.out)
      have x2:=(HS10.out.bel.cell (p:=⟨bl,ol+e * 4+2,none⟩) hbl).trans X2.out
      have c1:=(HS10.out.bel.cell (p:=⟨b,o+t * 4+1,none⟩) hbW).trans CL.out
      have l1:=below_lt HS10.out.bel hbW
      have l2:=below_lt HS10.out.bel hbl
      clear hl1
      by_cases hf:le.flop=0
      ·have hf0:(le.flop==0)=true:=by simp [hf]
       have HNF:Hid (¬(leX ts (2 * (t:Int)+(e:Int))).flop=1):=by show ¬_;rw [HLX.out,hf];omega
       obtain ⟨ix,hix⟩:∃ix:Nat,(t:Int) * perT d+5+(e:Int)=(ix:Int):=⟨((t:Int) * perT d+5+(e:Int)).toNat,by omega⟩
       have i5:ix<N:=by have:=HIX.out;omega
       have cU:=ints_at0 (HS10.out.ints 7 rfl) (luts_get (base:=ltB d ts) (pl:=pl++[2 * (t:Int)+(e:Int)]) j5)
       rw [HUX.out,numF_snoc HNP.out,if_pos rfl,HVQ.out] at cU
       obtain ⟨_,hgN,_,lN,cN,fN,hN10⟩:=HS10.out.setI 0 rfl i5
       injection hgN with hgN
       injection hgN with hgN
       subst hgN
       have lU:gU<w10.heap.size:=by
        obtain ⟨_,hg,_,h,-⟩:=HS10.out.setI 7 rfl j5
        injection hg with hg
        injection hg with hg
        rw [hg];exact h
       have hs11:=(show Sepa W _ (.cel (celI (((List.range N).map (F3 d ts (pl))).set ix (1+In+(sn:Int)+(q:Int)))) (.slice (some ⟨gN,0,none⟩) N nc) :: pI :: pO :: lnBlk gL In (.slice SA sn sc) (.slice (some ⟨g9,0,none⟩) (q+1) cap) (.slice OA on oc) :: .cel (celLt (lt++[⟨ins,le.mask⟩])) (.slice (some ⟨g9,0,none⟩) (q+1) cap) :: pS :: pQ :: .cel (celI ((List.range M).map fun (y:Nat)=>numF (ltB d ts) (pl++[2 * (t:Int)+(e:Int)]) (y:Int))) (.slice (some ⟨gU,0,none⟩) M uc) :: rs) from hN10 (1+In+(sn:Int)+(q:Int)))
       rw [←HVQ.out,F3_set HC.out.dev HK1.out (by omega) HNP.out HNF.out (by omega) i5,HVQ.out] at hs11
       have HS11:=Lib.hid hs11
       clear hs11 hN10 hf
       go_wp2_with fail
       go_roundw
       case rel=>exact ⟨e+1,true,by omega,by go_num,rfl,Srch.hit HNO.out HIL.out HNP.out HKN.out (by rw [HL2.out];exact HS11.out)⟩
       case measure=>simp [intOf];omega
      ·have hf0:(le.flop==0)=false:=by simp [hf]
       have HF1:Hid ((leX ts (2 * (t:Int)+(e:Int))).flop=1):=by show _=_;rw [HLX.out];have:=HFL.out;omega
       have hs11:=HS10.out
       rw [F3_flop HNP.out HF1.out] at hs11
       have HS11:=Lib.hid hs11
       clear hs11 hf
       go_wp2_with fail
       go_roundw
       case rel=>exact ⟨e+1,true,by omega,by go_num,rfl,Srch.hit HNO.out HIL.out HNP.out HKN.out (by rw [HL2.out];exact HS11.out)⟩
       case measure=>simp [intOf];omega
   ·have hK1:(K==1)=false:=by simp [hk]
    go_wp2_with fail
    refine (HTK.out _).mono ?_
    rintro _ w3 ⟨rfl,b3⟩
    have HS3:=Lib.hid ((HSS.out.below b3).skip (c':=2 * (t:Int)+2) fun y hy h1 h2=>by
     exfalso
     have h3:=HLG.out y hy
     rw [show y / 2=(t:Int) by omega,HK.out] at h3
     exact hk h3)
    clear b3 d0 d1 d2 d3 lD
    go_wp2_with fail
    apply HX.out
    exact HS3.out
  ·have he2:e=2:=by omega
   subst he2
   have HS3:=Lib.hid (show Srch W wr d ts pl lt (fun pl lt LA q lc => .cel (celI ((List.range N).map (F3 d ts (pl)))) (.slice (some ⟨gN,0,none⟩) N nc) :: pI :: pO :: lnBlk gL In (.slice SA sn sc) (.slice LA q lc) (.slice OA on oc) :: .cel (celLt (lt)) (.slice LA q lc) :: pS :: pQ :: .cel (celI ((List.range M).map fun (y:Nat)=>numF (ltB d ts) (pl) (y:Int))) (.slice (some ⟨gU,0,none⟩) M uc) :: rs) q LA lc (2 * (t:Int)+2) fb from HSS.out)
   clear d0 d1 d2 d3 lD
   go_wp2_with fail
   apply HX.out
   exact HS3.out
end Go.Proofs.YtignkfhdkcgkgaaGreat
