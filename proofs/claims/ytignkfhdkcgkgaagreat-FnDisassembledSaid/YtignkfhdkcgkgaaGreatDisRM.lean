/- The last loop of the reference's Disassemble: the outputs (printed by mkdiss4.py). TilesOf: the tiles of a kind: both. The reference's Disassemble (printed by mkdissm.py). -/
import Derived.Test.YtignkfhdkcgkgaaGreatDisPM
import Derived.Test.YtignkfhdkcgkgaaGreatDisR1
import Derived.Test.YtignkfhdkcgkgaaGreatDisR2
import Derived.Test.YtignkfhdkcgkgaaGreatDisR4
import Derived.Test.YtignkfhdkcgkgaaGreatDisR8
import Derived.Test.YtignkfhdkcgkgaaGreatDisRB
import Derived.Test.YtignkfhdkcgkgaaGreatDrvS
import Derived.Test.YtignkfhdkcgkgaaGreatEmu
import Derived.Test.YtignkfhdkcgkgaaGreatStartS
namespace Go.Proofs.YtignkfhdkcgkgaaGreat
set_option maxRecDepth 100000
open Go.RowKit

set_option maxRecDepth 100000 in
set_option maxHeartbeats 8000000 in
theorem dsr_lp11 (W:World) (gR gN gL:Nat) (d:Dev) (ts:List Tile) (m N nc:Nat) (DA:Option Addr) (dc:Nat) (In:Int) (Sv Lv nv:Value) (UA:Option Addr) (un uc:Nat) (pl:List Int) (pI:Pc) (rs:List Pc) {v0 v1 v2 v3 v5 v6 v7 v9 v13 v16 v17 v18 v19 v20 v21 v22 v23 v24 v25 v26 v27 v28 v29 v30 v31 v32 v34 v35 v36 v37 v38 v39 v40 v41 v42 v43 v44 v45 v46 v47 v48 v49 v50 v51 v52 v53 v54 v55 v56 v57 v58 v59 v60 v61 v62 v63 v64 v65 v66 v67 v68 v69 v70 v71 v72 v73 v74 v75 v76 v77 v78 v79 v80 v81 v82 v83 v84 v85 v86 v87 v88 v89 v90 v91 v92 v93 v94 v95 v96 v97 v98 v99 v100 v101 v102 v103 v104 v105 v106 v107 v108 v109 v110 v111 v112 v113 v114 v115 v116 v117 v118 v119 v120 v121 v122 v123 v124 v125 v126 v127 v128 v129 v130 v131 v132 v133 v134 v135 v136 v137 v138 v139 v140 v141 v142 v143 v144 v145 v146 v147 v148 v149 v150 v151 v152 v153 v154 v155 v156 v157 v158 v159 v160 v161 v162 v163 v164 v165 v166 v167 v168 v169 v170 v171 v172 v173 v174 v175 v176 v177 v178 v179 v180 v181 v182 v183 v184 v185 v186 v187 v188 v189 v190 v191 v192 v193 v194 v195 v196 v197 v198 v199 v200 v201 v202 v203 v204 v205 v206 v207 v208 v209 v210 v211 v212 v213 v214 v215 v216 v217 v218 v219 v220 v221 v222 v223 v224 v225 v226 v227 v228 v229 v230 v231 v232 v233 v234 v235 v236 v237 v238 v239 v240 v241 v242 v243 v244 v245 v246 v247 v248 v249 v250 v251 v252 v253 v254 v255 v256 v257 v258 v259 v260 v261 v262 v263 v264 v265 v266 v267 v268 v269 v270 v271 v272 v273 v274 v275 v276 v277 v278 v279 v280 v281 v282 v283 v284 v285 v286 v287 v288 v289 v290 v291 v292 v293 v294 v295 v296 v297 v298 v299 v300 v301 v302 v303 v304 v305 v306 v307 v308 v309 v310 v311 v312 v313 v314 v315 v316 v317 v318 v319 v320 v321 v322 v323 v324 v325 v326 v327 v328 v329 v330 v331 v332 v333 v334 v335 v336 v337 v338 v339 v340 v341 v342 v343 v344 v345 v346 v347 v348 v349 v350 v351 v352 v353 v354 v355 v356 v357 v358 v359 v360 v361 v362 v363 v364 v365 v366 v367 v368 v369 v370 v371 v372 v373 v374 v375 v376 v377 v378 v379 v380 v381 v382 v383 v384 v385 v386 v387 v388 v389 v390 v391 v392 v393 v394 v395 v396 v397 v398 v399 v400 v401 v402 v403 v404 v405 v406 v407 v408 v409 v410 v411 v412 v413 v414 v415 v416 v417 v418 v419 v420 v421 v422 v423 v424 v425 v426 v427 v428 v429 v430 v431 v432 v433 v434 v435 v436 v437 v438 v439 v440 v441 v442 v443 v444 v445 v446 v447 v448 v449 v450 v451 v452 v453 v454 v455 v456 v457 v458 v459 v460 v461 v462 v463 v464 v465 v466 v467 v468 v469 v470 v471:Value} {Q0:Exit→Act→World→Prop} (w:World) (htl:ts.length=m) (hN:(N:Int)=nodesOf d) (hc:CfgOk d ts) (hR:W.heap[gR]?=some (.cells #[.int .i64 0,.slice none 0 0,.slice none 0 0,.slice none 0 0] 61 (0,0))) (hDr:Ints W DA N (drvTo d ts N)) (S:Sepa W w (.cel (celI ((List.range N).map (F3 d ts pl))) (.slice (some ⟨gN,0,none⟩) N nc) :: .cel (celI ([])) (.slice none 0 0) :: pI :: .cel (celI (outL d ts)) (.slice UA un uc) :: lnBlk gL In Sv Lv (.slice none 0 0) :: rs))
  (hexit:∀(OA:Option Addr) (oc:Nat) (y5 y6 y7 y33 y34 y442 y443 y444 y445 y446 y447 y448 y449 y450 y451 y452 y453 y454 y455 y456 y457 y458 y459 y460 y461 y462 y463 y464 y465 y466 y467 y468:Value) (w':World),(∀t∈outL d ts,0≤outN d ts pl t)∧Sepa W w' (.cel (celI ((List.range N).map (F3 d ts pl))) (.slice (some ⟨gN,0,none⟩) N nc) :: .cel (celI ((outL d ts).map (outN d ts pl))) (.slice OA (outL d ts).length oc) :: pI :: .cel (celI (outL d ts)) (.slice UA un uc) :: lnBlk gL In Sv Lv (.slice OA (outL d ts).length oc) :: rs)→Q0 (.exit 20) ⟨List.toArray (v0 :: v1 :: v2 :: v3 :: .pointer (some ⟨gR,0,none⟩) :: y5 :: y6 :: y7 :: nv :: v9 :: .int .i64 (perT d) :: .slice DA N dc :: .pointer (some ⟨gL,0,none⟩) :: v13 :: .slice UA un uc :: .slice (some ⟨gN,0,none⟩) N nc :: v16 :: v17 :: v18 :: v19 :: v20 :: v21 :: v22 :: v23 :: v24 :: v25 :: v26 :: v27 :: v28 :: v29 :: v30 :: v31 :: v32 :: y33 :: y34 :: v35 :: v36 :: v37 :: v38 :: v39 :: v40 :: v41 :: v42 :: v43 :: v44 :: v45 :: v46 :: v47 :: v48 :: v49 :: v50 :: v51 :: v52 :: v53 :: v54 :: v55 :: v56 :: v57 :: v58 :: v59 :: v60 :: v61 :: v62 :: v63 :: v64 :: v65 :: v66 :: v67 :: v68 :: v69 :: v70 :: v71 :: v72 :: v73 :: v74 :: v75 :: v76 :: v77 :: v78 :: v79 :: v80 :: v81 :: v82 :: v83 :: v84 :: v85 :: v86 :: v87 :: v88 :: v89 :: v90 :: v91 :: v92 :: v93 :: v94 :: v95 :: v96 :: v97 :: v98 :: v99 :: v100 :: v101 :: v102 :: v103 :: v104 :: v105 :: v106 :: v107 :: v108 :: v109 :: v110 :: v111 :: v112 :: v113 :: v114 :: v115 :: v116 :: v117 :: v118 :: v119 :: v120 :: v121 :: v122 :: v123 :: v124 :: v125 :: v126 :: v127 :: v128 :: v129 :: v130 :: v131 :: v132 :: v133 :: v134 :: v135 :: v136 :: v137 :: v138 :: v139 :: v140 :: v141 :: v142 :: v143 :: v144 :: v145 :: v146 :: v147 :: v148 :: v149 :: v150 :: v151 :: v152 :: v153 :: v154 :: v155 :: v156 :: v157 :: v158 :: v159 :: v160 :: v161 :: v162 :: v163 :: v164 :: v165 :: v166 :: v167 :: v168 :: v169 :: v170 :: v171 :: v172 :: v173 :: v174 :: v175 :: v176 :: v177 :: v178 :: v179 :: v180 :: v181 :: v182 :: v183 :: v184 :: v185 :: v186 :: v187 :: v188 :: v189 :: v190 :: v191 :: v192 :: v193 :: v194 :: v195 :: v196 :: v197 :: v198 :: v199 :: v200 :: v201 :: v202 :: v203 :: v204 :: v205 :: v206 :: v207 :: v208 :: v209 :: v210 :: v211 :: v212 :: v213 :: v214 :: v215 :: v216 :: v217 :: v218 :: v219 :: v220 :: v221 :: v222 :: v223 :: v224 :: v225 :: v226 :: v227 :: v228 :: v229 :: v230 :: v231 :: v232 :: v233 :: v234 :: v235 :: v236 :: v237 :: v238 :: v239 :: v240 :: v241 :: v242 :: v243 :: v244 :: v245 :: v246 :: v247 :: v248 :: v249 :: v250 :: v251 :: v252 :: v253 :: v254 :: v255 :: v256 :: v257 :: v258 :: v259 :: v260 :: v261 :: v262 :: v263 :: v264 :: v265 :: v266 :: v267 :: v268 :: v269 :: v270 :: v271 :: v272 :: v273 :: v274 :: v275 :: v276 :: v277 :: v278 :: v279 :: v280 :: v281 :: v282 :: v283 :: v284 :: v285 :: v286 :: v287 :: v288 :: v289 :: v290 :: v291 :: v292 :: v293 :: v294 :: v295 :: v296 :: v297 :: v298 :: v299 :: v300 :: v301 :: v302 :: v303 :: v304 :: v305 :: v306 :: v307 :: v308 :: v309 :: v310 :: v311 :: v312 :: v313 :: v314 :: v315 :: v316 :: v317 :: v318 :: v319 :: v320 :: v321 :: v322 :: v323 :: v324 :: v325 :: v326 :: v327 :: v328 :: v329 :: v330 :: v331 :: v332 :: v333 :: v334 :: v335 :: v336 :: v337 :: v338 :: v339 :: v340 :: v341 :: v342 :: v343 :: v344 :: v345 :: v346 :: v347 :: v348 :: v349 :: v350 :: v351 :: v352 :: v353 :: v354 :: v355 :: v356 :: v357 :: v358 :: v359 :: v360 :: v361 :: v362 :: v363 :: v364 :: v365 :: v366 :: v367 :: v368 :: v369 :: v370 :: v371 :: v372 :: v373 :: v374 :: v375 :: v376 :: v377 :: v378 :: v379 :: v380 :: v381 :: v382 :: v383 :: v384 :: v385 :: v386 :: v387 :: v388 :: v389 :: v390 :: v391 :: v392 :: v393 :: v394 :: v395 :: v396 :: v397 :: v398 :: v399 :: v400 :: v401 :: v402 :: v403 :: v404 :: v405 :: v406 :: v407 :: v408 :: v409 :: v410 :: v411 :: v412 :: v413 :: v414 :: v415 :: v416 :: v417 :: v418 :: v419 :: v420 :: v421 :: v422 :: v423 :: v424 :: v425 :: v426 :: v427 :: v428 :: v429 :: v430 :: v431 :: v432 :: v433 :: v434 :: v435 :: v436 :: v437 :: v438 :: v439 :: v440 :: v441 :: y442 :: y443 :: y444 :: y445 :: y446 :: y447 :: y448 :: y449 :: y450 :: y451 :: y452 :: y453 :: y454 :: y455 :: y456 :: y457 :: y458 :: y459 :: y460 :: y461 :: y462 :: y463 :: y464 :: y465 :: y466 :: y467 :: y468 :: v469 :: v470 :: v471 :: []),[]⟩ w')
  (hret:∀(y33 y34 y442 y443 y444 y445 y446 y447 y448 y449 y450 y451 y452 y453 y454 y455 y456 y457 y458 y459 y460 y461 y462 y463 y464 y465 y466 y467 y468:Value) (w':World),(∃t∈outL d ts,outN d ts pl t<0)∧Below W.heap.size W w'→Q0 .ret ⟨List.toArray (v0 :: v1 :: v2 :: v3 :: .pointer (some ⟨gR,0,none⟩) :: nv :: nv :: .bool false :: nv :: v9 :: .int .i64 (perT d) :: .slice DA N dc :: .pointer (some ⟨gL,0,none⟩) :: v13 :: .slice UA un uc :: .slice (some ⟨gN,0,none⟩) N nc :: v16 :: v17 :: v18 :: v19 :: v20 :: v21 :: v22 :: v23 :: v24 :: v25 :: v26 :: v27 :: v28 :: v29 :: v30 :: v31 :: v32 :: y33 :: y34 :: v35 :: v36 :: v37 :: v38 :: v39 :: v40 :: v41 :: v42 :: v43 :: v44 :: v45 :: v46 :: v47 :: v48 :: v49 :: v50 :: v51 :: v52 :: v53 :: v54 :: v55 :: v56 :: v57 :: v58 :: v59 :: v60 :: v61 :: v62 :: v63 :: v64 :: v65 :: v66 :: v67 :: v68 :: v69 :: v70 :: v71 :: v72 :: v73 :: v74 :: v75 :: v76 :: v77 :: v78 :: v79 :: v80 :: v81 :: v82 :: v83 :: v84 :: v85 :: v86 :: v87 :: v88 :: v89 :: v90 :: v91 :: v92 :: v93 :: v94 :: v95 :: v96 :: v97 :: v98 :: v99 :: v100 :: v101 :: v102 :: v103 :: v104 :: v105 :: v106 :: v107 :: v108 :: v109 :: v110 :: v111 :: v112 :: v113 :: v114 :: v115 :: v116 :: v117 :: v118 :: v119 :: v120 :: v121 :: v122 :: v123 :: v124 :: v125 :: v126 :: v127 :: v128 :: v129 :: v130 :: v131 :: v132 :: v133 :: v134 :: v135 :: v136 :: v137 :: v138 :: v139 :: v140 :: v141 :: v142 :: v143 :: v144 :: v145 :: v146 :: v147 :: v148 :: v149 :: v150 :: v151 :: v152 :: v153 :: v154 :: v155 :: v156 :: v157 :: v158 :: v159 :: v160 :: v161 :: v162 :: v163 :: v164 :: v165 :: v166 :: v167 :: v168 :: v169 :: v170 :: v171 :: v172 :: v173 :: v174 :: v175 :: v176 :: v177 :: v178 :: v179 :: v180 :: v181 :: v182 :: v183 :: v184 :: v185 :: v186 :: v187 :: v188 :: v189 :: v190 :: v191 :: v192 :: v193 :: v194 :: v195 :: v196 :: v197 :: v198 :: v199 :: v200 :: v201 :: v202 :: v203 :: v204 :: v205 :: v206 :: v207 :: v208 :: v209 :: v210 :: v211 :: v212 :: v213 :: v214 :: v215 :: v216 :: v217 :: v218 :: v219 :: v220 :: v221 :: v222 :: v223 :: v224 :: v225 :: v226 :: v227 :: v228 :: v229 :: v230 :: v231 :: v232 :: v233 :: v234 :: v235 :: v236 :: v237 :: v238 :: v239 :: v240 :: v241 :: v242 :: v243 :: v244 :: v245 :: v246 :: v247 :: v248 :: v249 :: v250 :: v251 :: v252 :: v253 :: v254 :: v255 :: v256 :: v257 :: v258 :: v259 :: v260 :: v261 :: v262 :: v263 :: v264 :: v265 :: v266 :: v267 :: v268 :: v269 :: v270 :: v271 :: v272 :: v273 :: v274 :: v275 :: v276 :: v277 :: v278 :: v279 :: v280 :: v281 :: v282 :: v283 :: v284 :: v285 :: v286 :: v287 :: v288 :: v289 :: v290 :: v291 :: v292 :: v293 :: v294 :: v295 :: v296 :: v297 :: v298 :: v299 :: v300 :: v301 :: v302 :: v303 :: v304 :: v305 :: v306 :: v307 :: v308 :: v309 :: v310 :: v311 :: v312 :: v313 :: v314 :: v315 :: v316 :: v317 :: v318 :: v319 :: v320 :: v321 :: v322 :: v323 :: v324 :: v325 :: v326 :: v327 :: v328 :: v329 :: v330 :: v331 :: v332 :: v333 :: v334 :: v335 :: v336 :: v337 :: v338 :: v339 :: v340 :: v341 :: v342 :: v343 :: v344 :: v345 :: v346 :: v347 :: v348 :: v349 :: v350 :: v351 :: v352 :: v353 :: v354 :: v355 :: v356 :: v357 :: v358 :: v359 :: v360 :: v361 :: v362 :: v363 :: v364 :: v365 :: v366 :: v367 :: v368 :: v369 :: v370 :: v371 :: v372 :: v373 :: v374 :: v375 :: v376 :: v377 :: v378 :: v379 :: v380 :: v381 :: v382 :: v383 :: v384 :: v385 :: v386 :: v387 :: v388 :: v389 :: v390 :: v391 :: v392 :: v393 :: v394 :: v395 :: v396 :: v397 :: v398 :: v399 :: v400 :: v401 :: v402 :: v403 :: v404 :: v405 :: v406 :: v407 :: v408 :: v409 :: v410 :: v411 :: v412 :: v413 :: v414 :: v415 :: v416 :: v417 :: v418 :: v419 :: v420 :: v421 :: v422 :: v423 :: v424 :: v425 :: v426 :: v427 :: v428 :: v429 :: v430 :: v431 :: v432 :: v433 :: v434 :: v435 :: v436 :: v437 :: v438 :: v439 :: v440 :: v441 :: y442 :: y443 :: y444 :: y445 :: y446 :: y447 :: y448 :: y449 :: y450 :: y451 :: y452 :: y453 :: y454 :: y455 :: y456 :: y457 :: y458 :: y459 :: y460 :: y461 :: y462 :: y463 :: y464 :: y465 :: y466 :: y467 :: y468 :: v469 :: v470 :: v471 :: []),[]⟩ ((((w'.setCell ⟨gR,0,none⟩ (.int .i64 0)).setCell ⟨gR,1,none⟩ (.slice none 0 0)).setCell ⟨gR,2,none⟩ (.slice none 0 0)).setCell ⟨gR,3,none⟩ (.slice none 0 0)))
  : Code.wp Tryz.prog (loopAt Tryz.f29 4) Q0 ⟨List.toArray (v0 :: v1 :: v2 :: v3 :: .pointer (some ⟨gR,0,none⟩) :: v5 :: v6 :: v7 :: nv :: v9 :: .int .i64 (perT d) :: .slice DA N dc :: .pointer (some ⟨gL,0,none⟩) :: v13 :: .slice UA un uc :: .slice (some ⟨gN,0,none⟩) N nc :: v16 :: v17 :: v18 :: v19 :: v20 :: v21 :: v22 :: v23 :: v24 :: v25 :: v26 :: v27 :: v28 :: v29 :: v30 :: v31 :: v32 :: .int .i64 0 :: v34 :: v35 :: v36 :: v37 :: v38 :: v39 :: v40 :: v41 :: v42 :: v43 :: v44 :: v45 :: v46 :: v47 :: v48 :: v49 :: v50 :: v51 :: v52 :: v53 :: v54 :: v55 :: v56 :: v57 :: v58 :: v59 :: v60 :: v61 :: v62 :: v63 :: v64 :: v65 :: v66 :: v67 :: v68 :: v69 :: v70 :: v71 :: v72 :: v73 :: v74 :: v75 :: v76 :: v77 :: v78 :: v79 :: v80 :: v81 :: v82 :: v83 :: v84 :: v85 :: v86 :: v87 :: v88 :: v89 :: v90 :: v91 :: v92 :: v93 :: v94 :: v95 :: v96 :: v97 :: v98 :: v99 :: v100 :: v101 :: v102 :: v103 :: v104 :: v105 :: v106 :: v107 :: v108 :: v109 :: v110 :: v111 :: v112 :: v113 :: v114 :: v115 :: v116 :: v117 :: v118 :: v119 :: v120 :: v121 :: v122 :: v123 :: v124 :: v125 :: v126 :: v127 :: v128 :: v129 :: v130 :: v131 :: v132 :: v133 :: v134 :: v135 :: v136 :: v137 :: v138 :: v139 :: v140 :: v141 :: v142 :: v143 :: v144 :: v145 :: v146 :: v147 :: v148 :: v149 :: v150 :: v151 :: v152 :: v153 :: v154 :: v155 :: v156 :: v157 :: v158 :: v159 :: v160 :: v161 :: v162 :: v163 :: v164 :: v165 :: v166 :: v167 :: v168 :: v169 :: v170 :: v171 :: v172 :: v173 :: v174 :: v175 :: v176 :: v177 :: v178 :: v179 :: v180 :: v181 :: v182 :: v183 :: v184 :: v185 :: v186 :: v187 :: v188 :: v189 :: v190 :: v191 :: v192 :: v193 :: v194 :: v195 :: v196 :: v197 :: v198 :: v199 :: v200 :: v201 :: v202 :: v203 :: v204 :: v205 :: v206 :: v207 :: v208 :: v209 :: v210 :: v211 :: v212 :: v213 :: v214 :: v215 :: v216 :: v217 :: v218 :: v219 :: v220 :: v221 :: v222 :: v223 :: v224 :: v225 :: v226 :: v227 :: v228 :: v229 :: v230 :: v231 :: v232 :: v233 :: v234 :: v235 :: v236 :: v237 :: v238 :: v239 :: v240 :: v241 :: v242 :: v243 :: v244 :: v245 :: v246 :: v247 :: v248 :: v249 :: v250 :: v251 :: v252 :: v253 :: v254 :: v255 :: v256 :: v257 :: v258 :: v259 :: v260 :: v261 :: v262 :: v263 :: v264 :: v265 :: v266 :: v267 :: v268 :: v269 :: v270 :: v271 :: v272 :: v273 :: v274 :: v275 :: v276 :: v277 :: v278 :: v279 :: v280 :: v281 :: v282 :: v283 :: v284 :: v285 :: v286 :: v287 :: v288 :: v289 :: v290 :: v291 :: v292 :: v293 :: v294 :: v295 :: v296 :: v297 :: v298 :: v299 :: v300 :: v301 :: v302 :: v303 :: v304 :: v305 :: v306 :: v307 :: v308 :: v309 :: v310 :: v311 :: v312 :: v313 :: v314 :: v315 :: v316 :: v317 :: v318 :: v319 :: v320 :: v321 :: v322 :: v323 :: v324 :: v325 :: v326 :: v327 :: v328 :: v329 :: v330 :: v331 :: v332 :: v333 :: v334 :: v335 :: v336 :: v337 :: v338 :: v339 :: v340 :: v341 :: v342 :: v343 :: v344 :: v345 :: v346 :: v347 :: v348 :: v349 :: v350 :: v351 :: v352 :: v353 :: v354 :: v355 :: v356 :: v357 :: v358 :: v359 :: v360 :: v361 :: v362 :: v363 :: v364 :: v365 :: v366 :: v367 :: v368 :: v369 :: v370 :: v371 :: v372 :: v373 :: v374 :: v375 :: v376 :: v377 :: v378 :: v379 :: v380 :: v381 :: v382 :: v383 :: v384 :: v385 :: v386 :: v387 :: v388 :: v389 :: v390 :: v391 :: v392 :: v393 :: v394 :: v395 :: v396 :: v397 :: v398 :: v399 :: v400 :: v401 :: v402 :: v403 :: v404 :: v405 :: v406 :: v407 :: v408 :: v409 :: v410 :: v411 :: v412 :: v413 :: v414 :: v415 :: v416 :: v417 :: v418 :: v419 :: v420 :: v421 :: v422 :: v423 :: v424 :: v425 :: v426 :: v427 :: v428 :: v429 :: v430 :: v431 :: v432 :: v433 :: v434 :: v435 :: v436 :: v437 :: v438 :: v439 :: v440 :: v441 :: v442 :: v443 :: v444 :: v445 :: v446 :: v447 :: v448 :: v449 :: v450 :: v451 :: v452 :: v453 :: v454 :: v455 :: v456 :: v457 :: v458 :: v459 :: v460 :: v461 :: v462 :: v463 :: v464 :: v465 :: v466 :: v467 :: v468 :: v469 :: v470 :: v471 :: []),[]⟩ w:=by
 have htq:=tiles_eq hc.dev
 have hcl:=hc.len
 have hm36:m≤36:=by omega
 have hpb:=perT_bd hc.dev
 have hun:=(S.ints 3 rfl).1
 have hou:un≤36:=by have h1:=padTo_length d ts 2 ts.length;unfold outL at hun;omega
 have HUN:=Lib.hid hun
 have HTRC:=Lib.hid (fun (t:Int) (ht:t∈outL d ts) (w':World) (hd:Ints w' DA N (drvTo d ts N)) (hxx:Ints w' (some ⟨gN,0,none⟩) N ((List.range N).map (F3 d ts pl)))=>(by
  have h1:=padTo_in ht
  have h:=node_at (k:=0) (tileIn_iff.2 ⟨hc.dev,h1.1,by omega⟩:tileIn d t=true) (by omega) (by omega)
  rw [Int.add_zero] at h
  exact l42Trace_any d ts pl N DA dc _ nc _ (t * perT d) w' hd hxx hN hc (F3_ok hN) h.1 fun hp=>by rw [h.2.2] at hp;omega:Calls Tryz.prog 70 #[.slice DA N dc,.int .i64 (perT d),.slice (some ⟨gN,0,none⟩) N nc,.int .i64 (t * perT d)] w' fun e w''=>e = .returned (.int .i64 (tr d ts pl (t * perT d)))∧w'=w''))
 have HTB:Hid (∀t,t∈outL d ts→0≤t∧t<(m:Int)):=fun t ht=>by have h1:=padTo_in ht;exact ⟨h1.1,by omega⟩
 have HRR:=Lib.hid hR
 have HDR:=Lib.hid hDr
 have HS:=Lib.hid S
 have HX:=Lib.hid hexit
 have HZ:=Lib.hid hret
 clear htl hN hc hR hDr S hexit hret htq hcl hun
 conv=>arg 2;whnf
 go_loopw [33] (fun i wr=>∃(k:Nat) (OA:Option Addr) (oc:Nat),k≤un∧i = .int .i64 (k:Int)∧(∀(j:Nat) (t:Int),j<k→(outL d ts)[j]?=some t→0≤outN d ts pl t)∧Sepa W wr (.cel (celI ((List.range N).map (F3 d ts pl))) (.slice (some ⟨gN,0,none⟩) N nc) :: .cel (celI (((outL d ts).take k).map (outN d ts pl))) (.slice OA k oc) :: pI :: .cel (celI (outL d ts)) (.slice UA un uc) :: lnBlk gL In Sv Lv (.slice OA k oc) :: rs)) (fun i _=>un - (intOf i).toNat)
 case atStart=>exact ⟨0,none,0,by omega,rfl,fun j t hj=>by omega,HS.out⟩
 case round =>
  obtain ⟨k,OA,oc,hk,rfl,hall,hs⟩:=hrel
  have HALL:=Lib.hid hall
  have HSS:=Lib.hid hs
  clear hall
  by_cases hlt:k<un
  ·have hdk:decide ((k:Int)<(un:Int))=true:=by simp;omega
   obtain ⟨t,ht⟩:∃t,(outL d ts)[k]?=some t:=⟨_,List.getElem?_eq_getElem (by rw [HUN.out];exact hlt)⟩
   obtain ⟨b,o,hUA,hbl,hcx⟩:=(hs.ints 3 rfl).2 (by omega)
   have hck:=hcx k hlt
   rw [ht,Option.getD_some] at hck
   obtain ⟨ht0,htm⟩:=HTB.out t (List.mem_of_getElem? ht)
   have HTX:=Lib.hid ht
   have hmul0:0≤t * perT d:=Int.mul_nonneg ht0 (by omega)
   have hmul1:t * perT d≤36 * 23:=Int.mul_le_mul (by omega) (by omega) (by omega) (by omega)
   have HTR:Hid (outN d ts pl t=tr d ts pl (t * perT d)):=rfl
   have HTK:=Lib.hid (HTRC.out t (List.mem_of_getElem? ht) wr (HDR.out.below hs.bel) (hs.ints 0 rfl))
   have i0:(0:Int)≤(k:Int):=by omega
   have i1:(k:Int)<(un:Int):=by omega
   have hno:=(hs.ints 1 rfl).1
   rw [List.length_map,List.length_take] at hno
   have l3:=cell_heap (k:=3) (hs.blk 4 rfl).1 rfl
   have l4:=heap_lt0 (hs.blk 4 rfl).1
   have hR':=heap_tr hs.bel HRR.out
   have r0:=cell_heap (k:=0) hR' rfl
   have r1:=cell_heap (k:=1) hR' rfl
   have r2:=cell_heap (k:=2) hR' rfl
   have r3:=cell_heap (k:=3) hR' rfl
   have f0:=frozen_heap hR' 0
   have f1:=frozen_heap hR' 1
   have f2:=frozen_heap hR' 2
   have f3:=frozen_heap hR' 3
   have lR:=heap_lt0 hR'
   clear hR'
   clear hs hcx ht HTRC hno
   subst hUA
   generalize perT d=Q at *
   generalize tr d ts pl (t * Q)=X at *
   go_wp2_with fail
   refine HTK.out.mono ?_
   rintro _ w2 ⟨rfl,rfl⟩
   by_cases hx:0≤X
   ·have hdx:decide (X<0)=false:=by simp;omega
    have HXX:=Lib.hid hx
    clear hx r0 r1 r2 r3 f0 f1 f2 f3 lR
    go_wp2_with (at_builtin;refine wpList_sepPush rfl _ _ rfl _ (HSS.out.alloc _) 1 OA k oc (((outL d ts).take k).map (outN d ts pl)) X _ (0,0) rfl rfl rfl (heap_new _ _) (by omega) ?_;intro g9 cap w9 S9 hz9;have l9:=cell_heap (k:=3) (S9.blk 4 rfl).1 rfl;have f9:=frozen_heap (S9.blk 4 rfl).1 3;have q9:=heap_lt0 (S9.blk 4 rfl).1;have HS9:=Lib.hid S9;clear S9)
    go_roundw
    case rel =>
     refine ⟨k+1,some ⟨g9,0,none⟩,cap,by omega,by go_num,fun j t' hj he=>?_,?_⟩
     ·rcases Nat.lt_or_ge j k with h|h
      ·exact HALL.out j t' h he
      ·obtain rfl:j=k:=by omega
       have e:=HTX.out
       rw [he] at e
       injection e with e
       subst e
       rw [HTR.out]
       exact HXX.out
     ·rw [List.take_add_one,HTX.out,Option.toList_some,List.map_append,List.map_cons,List.map_nil,HTR.out]
      exact HS9.out.put 4 rfl 3 _
    case measure=>simp [intOf];omega
   ·have hdx:decide (X<0)=true:=by simp;omega
    have HEX:Hid (∃t∈outL d ts,outN d ts pl t<0):=⟨t,List.mem_of_getElem? HTX.out,by rw [HTR.out];omega⟩
    clear hx
    go_wp2_with fail
    apply HZ.out
    exact ⟨HEX.out,HSS.out.bel⟩
  ·have hkm:k=un:=by omega
   have hdk:decide ((k:Int)<(un:Int))=false:=by simp;omega
   have hfin:(outL d ts).take k=outL d ts:=List.take_of_length_le (by rw [HUN.out];omega)
   have hul:(outL d ts).length=k:=by rw [HUN.out];omega
   rw [hfin] at hs
   have HS2:=Lib.hid (And.intro (show ∀t∈outL d ts,0≤outN d ts pl t from fun t ht=>by obtain ⟨j,hj,rfl⟩:=List.getElem_of_mem ht;exact HALL.out j _ (by omega) (List.getElem?_eq_getElem hj)) hs)
   have HUL:=Lib.hid hul
   clear hs hkm hfin hul
   go_wp2_with fail
   apply HX.out
   rw [HUL.out]
   exact HS2.out
end Go.Proofs.YtignkfhdkcgkgaaGreat

namespace Go.Proofs.YtignkfhdkcgkgaaGreat
set_option maxRecDepth 100000
open Go.RowKit

def tofTo (d:Dev) (kd:Int):Nat→List Int
 | 0=>[]
 | k+1=>tofTo d kd k++if kindOf d (k:Int)=kd then [(k:Int)] else []
def tofF (d:Dev) (kd:Int):List Int:=if devOk d then tofTo d kd (tiles d) else []
theorem stileKind_is (d:Dev) (t:Int) (w:World) (hd:devOk d=true) (h0:0≤t) (h1:t<(tiles d:Int)) :
  Calls Tryz.prog 68 #[.agg #[.int .i64 d.W,.int .i64 d.H,.int .i64 d.T,.int .i64 d.R],.int .i64 t] w fun e w'=>e = .returned (.int .i64 (kindOf d t))∧Below w.heap.size w w':=by
 have h:=stileKind_any d t w (by have:=tiles_eq hd;omega)
 rw [tileKind,if_pos ⟨hd,h0,by have:=(tiles_eq hd).1;omega⟩] at h
 exact h
set_option maxHeartbeats 1000000 in
theorem stilesOf_kd (d:Dev) (kd:Int) (w:World) :
  Calls Tryz.prog 69 #[.agg #[.int .i64 d.W,.int .i64 d.H,.int .i64 d.T,.int .i64 d.R],.int .i64 kd] w fun e w'=>∃A m c,e = .returned (.slice A m c)∧Own w.heap.size w' A m c (tofF d kd)∧Below w.heap.size w w':=by
 have hB0:Below w.heap.size w (w.alloc (.cells #[.int .i64 d.W,.int .i64 d.H,.int .i64 d.T,.int .i64 d.R] 25)):=below_new (Below.refl _ _) _
 go_enter Tryz.func69,Tryz.ntmps69
 go_wp2_with fail
 refine (sdeviceOk_any d _).mono ?_
 rintro e w1 ⟨rfl,b1⟩
 have hs1:=b1.size
 simp only [World.size_alloc] at hs1
 replace hs1:w.heap.size+2≤w1.heap.size:=by omega
 have O1:=Lib.hid ((Own.newAt (base:=((w.alloc (.cells #[.int .i64 d.W,.int .i64 d.H,.int .i64 d.T,.int .i64 d.R] 25))).heap.size) (w:=(w.alloc (.cells #[.int .i64 d.W,.int .i64 d.H,.int .i64 d.T,.int .i64 d.R] 25))) (g:=w.heap.size+1) (by simp) (by simp)).below b1)
 replace b1:=below_tr (below_new (Below.refl ((w.alloc (.cells #[.int .i64 d.W,.int .i64 d.H,.int .i64 d.T,.int .i64 d.R] 25))).heap.size (w.alloc (.cells #[.int .i64 d.W,.int .i64 d.H,.int .i64 d.T,.int .i64 d.R] 25))) _) b1
 obtain ⟨hcc,hff⟩:=bcell b1
 have B1:=Lib.hid b1
 clear b1
 cases hd:devOk d with
 | false =>
  have HD:=Lib.hid hd
  clear hd
  go_wp2_with fail
  go_ret
  exact ⟨_,0,0,rfl,by rw [tofF,HD.out];exact O1.out.more hB0.size,below_tr hB0 B1.out⟩
 | true =>
  obtain ⟨hN,hN1,hN2⟩:=tiles_eq hd
  have HD:=Lib.hid hd
  clear hd
  generalize hT:tiles d=N at *
  have HT:=Lib.hid hT
  clear hT
  go_wp2_with fail
  go_loopw [5,6] (fun v i wr=>∃(k:Nat) (A:Option Addr) (m c:Nat),k≤N∧m≤k∧i = .int .i64 k∧v = .slice A m c∧Own ((w.alloc (.cells #[.int .i64 d.W,.int .i64 d.H,.int .i64 d.T,.int .i64 d.R] 25))).heap.size wr A m c (tofTo d kd k)∧Below ((w.alloc (.cells #[.int .i64 d.W,.int .i64 d.H,.int .i64 d.T,.int .i64 d.R] 25))).heap.size (w.alloc (.cells #[.int .i64 d.W,.int .i64 d.H,.int .i64 d.T,.int .i64 d.R] 25)) wr) (fun _ i _=>N - (intOf i).toNat)
  case atStart=>exact ⟨0,_,0,0,Nat.zero_le _,Nat.zero_le _,rfl,rfl,O1.out,B1.out⟩
  case round =>
   obtain ⟨k,A,m,c,hk,hmk,rfl,rfl,ho,hbe⟩:=hrel
   clear hcc hff
   obtain ⟨hcc,hff⟩:=bcell hbe
   have hsw:=hbe.size
   simp only [World.size_alloc] at hsw
   have HO:=Lib.hid ho
   have HE:=Lib.hid hbe
   clear ho hbe
   by_cases hlt:k<N
   ·go_wp2_with fail
    refine (stileKind_is d k _ HD.out (by omega) (by rw [HT.out];omega)).mono ?_
    rintro e w3 ⟨rfl,b3⟩
    have O3:=Lib.hid (HO.out.below b3)
    have E3:=Lib.hid (below_tr HE.out b3)
    have s3:=b3.size
    clear b3
    have hs:=tofTo.eq_2 d kd k
    have HS:=Lib.hid hs
    clear hs
    by_cases hin:kindOf d (k:Int)=kd
    ·have hq:(kindOf d (k:Int)==kd)=true:=by simp [hin]
     have HI:=Lib.hid hin
     clear hin hcc hff
     obtain ⟨hcc,hff⟩:=bcell E3.out
     go_wp2_with (at_builtin;refine wpList_push rfl _ _ rfl ((w.alloc (.cells #[.int .i64 d.W,.int .i64 d.H,.int .i64 d.T,.int .i64 d.R] 25))).heap.size A m c (tofTo d kd k) (k:Int) rfl O3.out rfl (by omega) E3.out.size E3.out ?_;rintro g4 cap w4 o4 b4 gr4 hat4)
     go_roundw
     case rel=>exact ⟨k+1,_,_,_,by omega,by omega,by go_num,rfl,by rw [HS.out,if_pos HI.out];exact o4,b4⟩
     case measure=>simp [intOf];omega
    ·have hq:(kindOf d (k:Int)==kd)=false:=by simp [hin]
     have HI:=Lib.hid hin
     clear hin hcc hff
     obtain ⟨hcc,hff⟩:=bcell E3.out
     go_wp2_with fail
     go_roundw
     case rel=>exact ⟨k+1,A,m,c,by omega,by omega,by go_num,rfl,by rw [HS.out,if_neg HI.out];simpa using O3.out,E3.out⟩
     case measure=>simp [intOf];omega
   ·have hkn:k=N:=by omega
    subst hkn
    go_wp2_with fail
    go_ret
    exact ⟨_,_,_,rfl,by rw [tofF,HD.out,if_pos rfl,HT.out];exact HO.out.more hB0.size,below_tr hB0 HE.out⟩
end Go.Proofs.YtignkfhdkcgkgaaGreat

namespace Go.Proofs.YtignkfhdkcgkgaaGreat
set_option maxRecDepth 100000
open Go.RowKit

theorem PcsAt.move {w:World}:∀{ps:List Pc} {F:List Nat} {j:Nat} {p:Pc},PcsAt w ps F→ps[j]?=some p→∃G,PcsAt w (p :: ps.eraseIdx j) G∧G.Perm F
 | [],F,j,p,_,hj=>by simp at hj
 | q :: ps,F,0,p,h,hj=>by
  simp only [List.getElem?_cons_zero,Option.some.injEq] at hj
  subst hj
  exact ⟨F,h,List.Perm.refl _⟩
 | q :: ps,F,j+1,p,h,hj=>by
  rw [List.getElem?_cons_succ] at hj
  obtain ⟨F1,F2,rfl,h1,h2⟩:=h
  obtain ⟨G,⟨G1,G2,rfl,g1,g2⟩,hp⟩:=PcsAt.move h2 hj
  refine ⟨G1++(F1++G2),⟨G1,F1++G2,rfl,g1,F1,G2,rfl,h1,g2⟩,?_⟩
  rw [←List.append_assoc]
  exact ((List.perm_append_comm (l₁:=G1) (l₂:=F1)).append_right G2).trans (by rw [List.append_assoc];exact hp.append_left F1)
/-- One of the pieces ahead of the others. -/
theorem Sepa.move {W w:World} {ps:List Pc} (h:Sepa W w ps) (j:Nat) {p:Pc} (hj:ps[j]?=some p):Sepa W w (p :: ps.eraseIdx j):=by
 obtain ⟨h1,F,h2,h3,h4⟩:=h
 obtain ⟨G,g1,g2⟩:=h2.move hj
 exact ⟨h1,G,g1,g2.nodup_iff.2 h3,fun k hk=>h4 k (g2.mem_iff.1 hk)⟩
theorem lg_tof (d:Dev) (k:Nat):(lgTo d k).length=2 * (tofTo d 1 k).length:=by
 induction k with
 | zero=>rfl
 | succ k ih =>
  rw [lgTo,tofTo,List.length_append,List.length_append,ih]
  split <;> simp <;> omega
theorem luts_zero (base:Int) (M:Nat):List.replicate M (0:Int)=(List.range M).map fun (y:Nat)=>numF base [] (y:Int):=by
 apply List.ext_getElem?
 intro i
 rw [List.getElem?_map]
 rcases Nat.lt_or_ge i M with h|h
 ·rw [List.getElem?_range h,Option.map_some,List.getElem?_replicate,if_pos h,numF_nil]
 ·rw [List.getElem?_eq_none (by simpa using h),List.getElem?_eq_none (by simpa using h)];rfl
/-- What the reference's Disassemble returns. -/
def SDisPost (V:World) (r:LNet × List Int × List Int × Bool) (e:Ending) (w':World):Prop:=∃(SA:Option Addr) (sn sc:Nat) (LA:Option Addr) (ln lc:Nat) (OA:Option Addr) (on oc:Nat) (IA:Option Addr) (ni ic:Nat) (UA:Option Addr) (un uc:Nat),
 e = .returned (.tuple #[.agg #[.int .i64 r.1.inputs,.slice SA sn sc,.slice LA ln lc,.slice OA on oc],.slice IA ni ic,.slice UA un uc,.bool r.2.2.2]) ∧
 RdC w' w'.heap.size (celLt r.1.luts) (.slice LA ln lc)∧RdC w' w'.heap.size (celSq r.1.seqs) (.slice SA sn sc)∧RdC w' w'.heap.size (celI r.1.outs) (.slice OA on oc)∧RdC w' w'.heap.size (celI r.2.1) (.slice IA ni ic)∧RdC w' w'.heap.size (celI r.2.2.1) (.slice UA un uc)∧Below V.heap.size V w'
theorem rd_none (w:World) (e s:Nat) (A:Option Addr) (c:Nat):RdC w w.heap.size (.row e s []) (.slice A 0 c):=by
 rw [rdC_row];exact ⟨A,0,c,rfl,by simp,.inl rfl⟩
theorem sdisPost_no {V w':World} {r:LNet × List Int × List Int × Bool} {A:Option Addr} {c:Nat} (h:r=(LNet.zero,[],[],false)) (hb:Below V.heap.size V w'):SDisPost V r (.returned (.tuple #[.agg #[.int .i64 0,.slice none 0 0,.slice none 0 0,.slice none 0 0],.slice A 0 c,.slice A 0 c,.bool false])) w':=by
 subst h
 exact ⟨none,0,0,none,0,0,none,0,0,A,0,c,A,0,c,rfl,rd_none _ _ _ _ _,rd_none _ _ _ _ _,rd_none _ _ _ _ _,rd_none _ _ _ _ _,rd_none _ _ _ _ _,hb⟩
set_option maxRecDepth 100000 in
set_option maxHeartbeats 8000000 in
theorem sdisassemble_any (d:Dev) (A:Option Addr) (n c:Nat) (fs:List (List Int)) (w:World) (hA:Rows2 w A n fs) (hz:size2 fs≤1099511627776) :
  Calls Tryz.prog 29 #[.agg #[.int .i64 d.W,.int .i64 d.H,.int .i64 d.T,.int .i64 d.R],.slice A n c] w (SDisPost w (disF d fs)):=by
 have HB0:=Lib.hid (below_new (below_new (below_new (Below.refl w.heap.size w) (.cells #[.int .i64 d.W,.int .i64 d.H,.int .i64 d.T,.int .i64 d.R] 25)) (.cells #[.int .i64 0,.slice none 0 0,.slice none 0 0,.slice none 0 0] 61)) (.cells #[] 3))
 have HI:=Lib.hid hA
 clear hA
 have HRES:=Lib.hid (fun (w':World) (v0 v1 v2 v3:Value) (h:w'.heap[w.heap.size+1]?=some (.cells #[.int .i64 0,.slice none 0 0,.slice none 0 0,.slice none 0 0] 61 (0,0)))=>put4_heap h v0 v1 v2 v3)
 go_enter Tryz.func29,Tryz.ntmps29
 go_wp2_with fail
 refine (sreadFrames_any d A n c fs _ (HI.out.below HB0.out) hz).mono ?_
 rintro e w1 ⟨TA,m,tc,rfl,hT,b1⟩
 have hs1:=b1.size
 simp only [World.size_alloc] at hs1
 have D1:=Lib.hid b1
 obtain ⟨hcc,hff⟩:=bcell b1
 have hR1:=heap_tr b1 (heap_al (.cells #[] 3) (heap_new (w.alloc (.cells #[.int .i64 d.W,.int .i64 d.H,.int .i64 d.T,.int .i64 d.R] 25)) (.cells #[.int .i64 0,.slice none 0 0,.slice none 0 0,.slice none 0 0] 61)))
 have hD1:=heap_tr b1 (heap_al (.cells #[] 3) (heap_al (.cells #[.int .i64 0,.slice none 0 0,.slice none 0 0,.slice none 0 0] 61) (heap_new w (.cells #[.int .i64 d.W,.int .i64 d.H,.int .i64 d.T,.int .i64 d.R] 25))))
 simp only [World.size_alloc] at hR1
 have HR1:=Lib.hid hR1
 have HD1:=Lib.hid hD1
 clear b1 hR1 hD1
 have HB1:=Lib.hid (below_tr HB0.out D1.out)
 cases hf:framesOk d fs with
 | false =>
  have HF:=Lib.hid (disF_bad hf)
  rw [readF,hf,if_neg (by simp)] at hT
  have hm0:=hT.rd.tlen
  obtain rfl:m=0:=hm0.symm
  have r0:=cell_heap (k:=0) HR1.out rfl
  have r1:=cell_heap (k:=1) HR1.out rfl
  have r2:=cell_heap (k:=2) HR1.out rfl
  have r3:=cell_heap (k:=3) HR1.out rfl
  have f0:=frozen_heap HR1.out 0
  have f1:=frozen_heap HR1.out 1
  have f2:=frozen_heap HR1.out 2
  have f3:=frozen_heap HR1.out 3
  have lR:=heap_lt0 HR1.out
  have hzs:w.heap.size+1<w1.heap.size:=by omega
  clear hf hcc hff hT hm0
  go_wp2_with fail
  refine bodyPost_ret (v := .tuple #[.agg #[.int .i64 0,.slice none 0 0,.slice none 0 0,.slice none 0 0],.slice (some ⟨w.heap.size+1+1,0,none⟩) 0 0,.slice (some ⟨w.heap.size+1+1,0,none⟩) 0 0,.bool false]) (results_cell4t Tryz.results29 rfl (HRES.out w1 _ _ _ _ HR1.out) Tryz.underlying61 (by kernel_rfl)) rfl (sdisPost_no HF.out ((Sepa.nil (Below.refl w1.heap.size w1)).lower (g:=w.heap.size+1) HB1.out (by omega) hzs (put4_only _ _ _ _ _ _)).bel)
 | true =>
  have HFO:=Lib.hid hf
  have hdv:=(framesOk_iff hf).1
  have HDV:=Lib.hid hdv
  have hc:=cfg_of_frames hf
  rw [readF,hf,if_pos rfl] at hT
  generalize hts:tilesOf d fs=ts at *
  have HTS:=Lib.hid hts
  have htl:=hT.rd.tlen
  have htq:=tiles_eq hdv
  have hcl:=hc.len
  have hm36:m≤36:=by omega
  have hm9:9≤m:=by omega
  have hTb:=devOk_bd hdv
  have HTR:=Lib.hid hT.rd
  have HC:=Lib.hid hc
  have HTL:=Lib.hid htl
  have hm0:((m:Int)==0)=false:=by simp;omega
  have hnb:=nodesOf_bd hdv
  have HNB:=Lib.hid hnb
  obtain ⟨N,hNN⟩:∃N:Nat,(nodesOf d).toNat=N:=⟨_,rfl⟩
  have hN0:(N:Int)=nodesOf d:=by omega
  have hN1:N≤1000:=by omega
  have HN:=Lib.hid hN0
  have HNN:=Lib.hid hNN
  have HRN:Hid (rnOf d=(N:Int)):=by show _=_;rw [rnOf,if_pos hdv,hN0]
  have HP:=Lib.hid (fun w'=>l27Per_any d w' (by omega) (by omega))
  obtain ⟨i0,hi,hz0,hz1,hz2⟩:=info_parts int_info
  have hmk:=fun W=>run_make_rowN (P:=Tryz.prog) 27 3 i0 _ Tryz.underlying27 hi hz0 .i64 .i64 N N (Nat.le_refl _) (by rw [hz2];omega) (by omega) W
  rw [hz1,Nat.mul_one,show (Value.int .i64 0).cells=#[Value.int .i64 0] from rfl,arr_made] at hmk
  obtain ⟨M,hM⟩:∃M:Nat,M=2 * m:=⟨_,rfl⟩
  have hmkM:=fun W=>run_make_rowN (P:=Tryz.prog) 27 3 i0 _ Tryz.underlying27 hi hz0 .i64 .i64 M M (Nat.le_refl _) (by rw [hz2];omega) (by omega) W
  rw [hz1,Nat.mul_one,show (Value.int .i64 0).cells=#[Value.int .i64 0] from rfl,arr_made] at hmkM
  have HMM:=Lib.hid hM
  have hM72:M≤72:=by omega
  have hM2:2 * (m:Int)=(M:Int):=by omega
  have HM2:=Lib.hid hM2
  have d0:=cell_heap (k:=0) HD1.out rfl
  have d1:=cell_heap (k:=1) HD1.out rfl
  have d2:=cell_heap (k:=2) HD1.out rfl
  have d3:=cell_heap (k:=3) HD1.out rfl
  have lD:=heap_lt0 HD1.out
  clear hf hdv hc hT hts htl htq hcl hTb hnb hNN hN0 hcc hff hz1 hz2 hM hM2 hi hz0
  have HPE:Hid (∃P,perT d=P):=⟨_,rfl⟩
  go_wp2_with fail
  refine (HP.out _).mono ?_
  rintro _ w2 ⟨rfl,b2⟩
  have B2:=Lib.hid b2
  have HD2:=Lib.hid (heap_tr b2 HD1.out)
  have hs2:=b2.size
  clear b2 d0 d1 d2 d3 lD
  have d0:=cell_heap (k:=0) HD2.out rfl
  have d1:=cell_heap (k:=1) HD2.out rfl
  have d2:=cell_heap (k:=2) HD2.out rfl
  have d3:=cell_heap (k:=3) HD2.out rfl
  have lD:=heap_lt0 HD2.out
  go_wp2_with fail
  refine (l41Drivers_any d TA m tc ts _ (HTR.out.below B2.out) HC.out).mono ?_
  rw [HNN.out]
  rintro _ w3 ⟨DA,dc,rfl,o3,b3⟩
  have B3:=Lib.hid (below_tr B2.out b3)
  have HD3:=Lib.hid (heap_tr b3 HD2.out)
  have HR3:=Lib.hid (heap_tr B3.out HR1.out)
  have HDR:=Lib.hid o3.ints
  have HT3:=Lib.hid (HTR.out.below B3.out)
  have HB3:=Lib.hid (below_tr HB1.out B3.out)
  have hs3:=B3.out.size
  have hzs:w.heap.size+1<w3.heap.size:=by omega
  have HRET:=Lib.hid (fun (w':World) (hb:Below w3.heap.size w3 w') (h0:disF d fs=(LNet.zero,[],[],false))=>sdisPost_no (A:=some ⟨w.heap.size+1+1,0,none⟩) (c:=0) h0 ((Sepa.nil hb).lower (g:=w.heap.size+1) HB3.out (by omega) hzs (put4_only _ _ (.int .i64 0) (.slice none 0 0) (.slice none 0 0) (.slice none 0 0))).bel)
  have HZR:=Lib.hid (fun (w':World) (hb:Below w3.heap.size w3 w')=>HRES.out w' (.int .i64 0) (.slice none 0 0) (.slice none 0 0) (.slice none 0 0) (heap_tr hb HR3.out))
  have hs4:=((Sepa.refl w3).pushBlk #[.int .i64 0,.slice none 0 0,.slice none 0 0,.slice none 0 0] 61).pushOwn (below_new (Below.refl _ _) (.cells #[] 3)) (Own.newAt (w:=w3.alloc (.cells #[.int .i64 0,.slice none 0 0,.slice none 0 0,.slice none 0 0] 61)) (g:=w3.heap.size+1) (by simp) (by simp))
  replace hs4:=hs4.pushOwn (below_new (Below.refl _ _) (.cells #[] 3)) (Own.newAt (w:=(w3.alloc (.cells #[.int .i64 0,.slice none 0 0,.slice none 0 0,.slice none 0 0] 61)).alloc (.cells #[] 3)) (g:=w3.heap.size+1+1) (by simp) (by simp))
  replace hs4:=(show Sepa w3 (((w3.alloc (.cells #[.int .i64 0,.slice none 0 0,.slice none 0 0,.slice none 0 0] 61)).alloc (.cells #[] 3)).alloc (.cells #[] 3)) [.blk w3.heap.size #[.int .i64 0,.slice none 0 0,.slice none 0 0,.slice none 0 0] 61,.cel (celI []) (.slice (some ⟨w3.heap.size+1,0,none⟩) 0 0),.cel (celI []) (.slice (some ⟨w3.heap.size+1+1,0,none⟩) 0 0)] from hs4)
  have HS4:=Lib.hid hs4
  have HD4:=Lib.hid (heap_tr hs4.bel HD3.out)
  clear b3 o3 hs4 d0 d1 d2 d3 lD
  have d0:=cell_heap (k:=0) HD3.out rfl
  have d1:=cell_heap (k:=1) HD3.out rfl
  have d2:=cell_heap (k:=2) HD3.out rfl
  have d3:=cell_heap (k:=3) HD3.out rfl
  have lD:=heap_lt0 HD3.out
  have lD1:w.heap.size<w3.heap.size+1:=by omega
  have lD2:w.heap.size<w3.heap.size+1+1:=by omega
  have lD3:w.heap.size<w3.heap.size+1+1+1:=by omega
  go_wp2_with fail
  refine (sRouteNodes_any d _).mono ?_
  rw [HRN.out]
  rintro _ w4 ⟨rfl,b4⟩
  have hs5:=((HS4.out.below b4).consOwn (below_new (Below.refl _ _) (.cells (arr (List.replicate N 0)) 3)) (Own.arr (n:=N) (heap_new w4 _) (Nat.le_refl _) (by unfold maxLen;omega) (by simp)))
  rw [show celI (List.replicate N 0)=celI ((List.range N).map (F1 d ts 0)) by rw [F1_zero d ts N HDV.out]] at hs5
  replace hs5:=(((((hs5.move 3 rfl).move 3 rfl).move 2 rfl).pushNil 110 2).pushNil 105 3).pushNil 3 1
  have HS5:=Lib.hid hs5
  clear hs5 d0 d1 d2 d3 lD lD1 lD2 lD3 b4
  go_wp2_with fail
  refine dsr_lp1 w3 w.heap.size d ts TA m tc N (some ⟨w4.heap.size,0,none⟩) N _ 0 _ 0 _ _ HT3.out HN.out HC.out HD3.out HS5.out ?_
  clear HS5 HS4 HD4
  intro IA ic OA oc
  intros
  rename_i w5 hS5
  have HS5:=Lib.hid hS5
  have l0:=cell_heap (k:=0) (hS5.blk 3 rfl).1 rfl
  have f0:=frozen_heap (hS5.blk 3 rfl).1 0
  have lL:=heap_lt0 (hS5.blk 3 rfl).1
  clear hS5
  go_upto_region 20 with fail
  have HS6:=Lib.hid (HS5.out.put 3 rfl 0 (.int .i64 ((insL d ts).length:Int)))
  clear l0 f0 lL HS5
  generalize w5.setCell _ _=w6 at *
  go_wp2_with fail
  refine dsr_lp2 w3 w.heap.size w4.heap.size w3.heap.size d ts TA m tc N N ((insL d ts).length:Int) (.slice none 0 0) (.slice none 0 0) _ _ _ _ w6 HT3.out HN.out HC.out HD3.out rfl HS6.out ?_
  clear HS6
  intro SA sc
  intros
  rename_i w7 hS7
  have HS7:=Lib.hid hS7
  have l1:=cell_heap (k:=1) (hS7.blk 3 rfl).1 rfl
  have lL:=heap_lt0 (hS7.blk 3 rfl).1
  have HRZ:=Lib.hid (heap_tr hS7.bel HR3.out)
  have HDZ:=Lib.hid (heap_tr hS7.bel HD3.out)
  have lR:=heap_lt0 HRZ.out
  have hq72:(owL d ts).length≤72:=by have h1:=owTo_length d ts ts.length;have:=HTL.out;unfold owL;omega
  have hu36:(outL d ts).length≤36:=by have h1:=padTo_length d ts 2 ts.length;have:=HTL.out;unfold outL;omega
  have hi36:(insL d ts).length≤36:=by have h1:=padTo_length d ts 1 ts.length;have:=HTL.out;unfold insL;omega
  have HLT:Hid (ltB d ts=1+((insL d ts).length:Int)+((owL d ts).length:Int)):=rfl
  clear hS7
  generalize hq:(owL d ts).length=q at *
  generalize hu:(outL d ts).length=u at *
  have HQ:=Lib.hid hq
  have HU:=Lib.hid hu
  clear hq hu
  by_cases hbig:q>12∨u>16
  ·have HF:=Lib.hid (disF_none HFO.out (by rw [HTS.out];exact disT_big (by rw [HQ.out,HU.out];exact hbig)))
   clear lR
   have r0:=cell_heap (k:=0) HRZ.out rfl
   have r1:=cell_heap (k:=1) HRZ.out rfl
   have r2:=cell_heap (k:=2) HRZ.out rfl
   have r3:=cell_heap (k:=3) HRZ.out rfl
   have f0:=frozen_heap HRZ.out 0
   have f1:=frozen_heap HRZ.out 1
   have f2:=frozen_heap HRZ.out 2
   have f3:=frozen_heap HRZ.out 3
   have lR:=heap_lt0 HRZ.out
   have hcase:decide ((12:Int)<(q:Int))=true∨decide ((12:Int)<(q:Int))=false∧decide ((16:Int)<(u:Int))=true:=by
    by_cases h:12<q
    ·exact .inl (decide_eq_true (by omega))
    ·exact .inr ⟨decide_eq_false (by omega),decide_eq_true (by omega)⟩
   clear hbig
   rcases hcase with h1|⟨h1,h2⟩
   all_goals
    go_wp2_with fail
    refine bodyPost_ret (v := .tuple #[.agg #[.int .i64 0,.slice none 0 0,.slice none 0 0,.slice none 0 0],.slice (some ⟨w.heap.size+1+1,0,none⟩) 0 0,.slice (some ⟨w.heap.size+1+1,0,none⟩) 0 0,.bool false]) (results_cell4t Tryz.results29 rfl (HZR.out w7 HS7.out.bel) Tryz.underlying61 (by kernel_rfl)) rfl (HRET.out w7 HS7.out.bel HF.out)
  ·have h1:decide ((12:Int)<(q:Int))=false:=decide_eq_false (by omega)
   have h2:decide ((16:Int)<(u:Int))=false:=decide_eq_false (by omega)
   have HNBG:Hid (¬((owL d ts).length>12∨(outL d ts).length>16)):=by show ¬_;rw [HQ.out,HU.out];exact hbig
   have hM2:=HM2.out
   have hs8:=HS7.out.pushOwn (below_new (Below.refl _ _) (.cells (arr (List.replicate M 0)) 3)) (Own.arr (n:=M) (heap_new w7 _) (Nat.le_refl _) (by unfold maxLen;omega) (by simp))
   rw [show celI (List.replicate M 0)=celI ((List.range M).map fun (y:Nat)=>numF (ltB d ts) [] (y:Int)) by rw [←luts_zero],F3_start HC.out HTL.out HN.out] at hs8
   have HS8:=Lib.hid hs8
   have d0:=cell_heap (k:=0) HDZ.out rfl
   have d1:=cell_heap (k:=1) HDZ.out rfl
   have d2:=cell_heap (k:=2) HDZ.out rfl
   have d3:=cell_heap (k:=3) HDZ.out rfl
   have lD:=heap_lt0 HDZ.out
   have lD1:w.heap.size<w7.heap.size+1:=by omega
   clear hbig hs8
   go_wp2_with fail
   refine (stilesOf_kd d 1 _).mono ?_
   rintro _ w8 ⟨XA,xn,xc,rfl,hox,b8⟩
   have hxl:=hox.len
   have HXL:Hid (2 * (xn:Int)=((lgL d ts).length:Int)):=by
    show _=_
    have h1:=lg_tof d ts.length
    have h2:=HC.out.len
    rw [tofF,if_pos HDV.out,←h2] at hxl
    unfold lgL
    omega
   have hlg72:(lgL d ts).length≤72:=by have:=lgTo_length d ts.length;have:=HTL.out;unfold lgL;omega
   have hx2:=HXL.out
   have HS9:=Lib.hid (HS8.out.below b8)
   clear hox b8 hxl d0 d1 d2 d3 lD lD1 l1 lL lR
   go_wp2_with fail
   clear hx2 hM2
   refine dsr_lp4 w3 (w.heap.size+1) w.heap.size w4.heap.size w3.heap.size w7.heap.size d ts TA m tc N N M M DA dc ((insL d ts).length:Int) SA q sc none 0 0 _ _ _ _ _ _ w8 HT3.out HN.out HC.out HD3.out HDR.out (by rw [HLT.out]) (by omega) (by omega) hq72 HMM.out HR3.out HS9.out ?_ ?_
   ·intro pl lt LA lc
    intros
    rename_i w9 h9
    obtain ⟨hord,hpll,hS9⟩:=h9
    have HS10:=Lib.hid hS9
    have HDT:=Lib.hid (disT_go HNBG.out hord)
    clear hord hS9 HS8 HS9
    go_wp2_with fail
    refine dsr_lp8 w3 (w.heap.size+1) w.heap.size w4.heap.size w3.heap.size w7.heap.size d ts TA m tc N N M M DA dc ((insL d ts).length:Int) SA q sc _ _ _ pl _ _ _ _ _ w9 HT3.out HN.out HC.out HD3.out HR3.out HDR.out HMM.out HS10.out ?_ ?_
    ·intros
     rename_i w10 h10
     obtain ⟨hok,hS11⟩:=h10
     have HOK:=Lib.hid hok
     have HS11:=Lib.hid ((hS11.move 6 rfl).move 1 rfl)
     clear hok hS11 HS10
     go_wp2_with fail
     refine dsr_lp11 w3 (w.heap.size+1) w4.heap.size w3.heap.size d ts m N N DA dc ((insL d ts).length:Int) _ _ _ OA u oc pl _ _ w10 HTL.out HN.out HC.out HR3.out HDR.out HS11.out ?_ ?_
     ·intro O2 o2
      intros
      rename_i w11 h11
      obtain ⟨hout,hS12⟩:=h11
      have HF:=Lib.hid (disF_some HFO.out (by rw [HTS.out,HDT.out];exact disP_yes HOK.out hout))
      have HS12:=Lib.hid hS12
      have HRZ9:=Lib.hid (heap_tr hS12.bel HR3.out)
      have l0:=cell_heap (k:=0) (hS12.blk 4 rfl).1 rfl
      have l1:=cell_heap (k:=1) (hS12.blk 4 rfl).1 rfl
      have l2:=cell_heap (k:=2) (hS12.blk 4 rfl).1 rfl
      have l3:=cell_heap (k:=3) (hS12.blk 4 rfl).1 rfl
      have lL:=heap_lt0 (hS12.blk 4 rfl).1
      have r0:=cell_heap (k:=0) HRZ9.out rfl
      have r1:=cell_heap (k:=1) HRZ9.out rfl
      have r2:=cell_heap (k:=2) HRZ9.out rfl
      have r3:=cell_heap (k:=3) HRZ9.out rfl
      have f0:=frozen_heap HRZ9.out 0
      have f1:=frozen_heap HRZ9.out 1
      have f2:=frozen_heap HRZ9.out 2
      have f3:=frozen_heap HRZ9.out 3
      have lR:=heap_lt0 HRZ9.out
      clear hout hS12
      go_wp2_with fail
      refine bodyPost_ret (v := .tuple #[.agg #[.int .i64 ((insL d ts).length:Int),.slice SA q sc,.slice LA lt.length lc,.slice O2 (outL d ts).length o2],.slice IA (insL d ts).length ic,.slice OA u oc,.bool true]) (results_cell4t Tryz.results29 rfl (HRES.out w11 _ _ _ _ HRZ9.out) Tryz.underlying61 (by kernel_rfl)) rfl ?_
      rw [HF.out,HTS.out]
      have hz:=HS12.out.lower (g:=w.heap.size+1) HB3.out (by omega) hzs (put4_only _ _ (.int .i64 ((insL d ts).length:Int)) (.slice SA q sc) (.slice LA lt.length lc) (.slice O2 (outL d ts).length o2))
      exact ⟨SA,q,sc,LA,lt.length,lc,O2,_,o2,IA,_,ic,OA,u,oc,rfl,hz.rd 5 rfl,hz.rd 6 rfl,hz.rd 1 rfl,hz.rd 2 rfl,hz.rd 3 rfl,hz.bel⟩
     ·intros
      rename_i w11 h11
      obtain ⟨hbad,hb9⟩:=h11
      have HF:=disF_none HFO.out (by rw [HTS.out,HDT.out];exact disP_out hbad)
      refine bodyPost_ret (v := .tuple #[.agg #[.int .i64 0,.slice none 0 0,.slice none 0 0,.slice none 0 0],.slice (some ⟨w.heap.size+1+1,0,none⟩) 0 0,.slice (some ⟨w.heap.size+1+1,0,none⟩) 0 0,.bool false]) (results_cell4t Tryz.results29 rfl (HZR.out w11 hb9) Tryz.underlying61 (by kernel_rfl)) rfl (HRET.out w11 hb9 HF)
    ·intros
     rename_i w10 h10
     obtain ⟨hbad,hb8⟩:=h10
     have HF:=disF_none HFO.out (by rw [HTS.out,HDT.out];exact disP_sq hbad)
     refine bodyPost_ret (v := .tuple #[.agg #[.int .i64 0,.slice none 0 0,.slice none 0 0,.slice none 0 0],.slice (some ⟨w.heap.size+1+1,0,none⟩) 0 0,.slice (some ⟨w.heap.size+1+1,0,none⟩) 0 0,.bool false]) (results_cell4t Tryz.results29 rfl (HZR.out w10 hb8) Tryz.underlying61 (by kernel_rfl)) rfl (HRET.out w10 hb8 HF)
   ·intros
    rename_i w9 h9
    obtain ⟨hbad,hb9⟩:=h9
    have HF:=disF_none HFO.out (by rw [HTS.out];exact disT_ord HNBG.out hbad)
    refine bodyPost_ret (v := .tuple #[.agg #[.int .i64 0,.slice none 0 0,.slice none 0 0,.slice none 0 0],.slice (some ⟨w.heap.size+1+1,0,none⟩) 0 0,.slice (some ⟨w.heap.size+1+1,0,none⟩) 0 0,.bool false]) (results_cell4t Tryz.results29 rfl (HZR.out w9 hb9) Tryz.underlying61 (by kernel_rfl)) rfl (HRET.out w9 hb9 HF)
end Go.Proofs.YtignkfhdkcgkgaaGreat
