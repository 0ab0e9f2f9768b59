/- The last loop of the reference's Disassemble: the outputs (printed by mkdiss4.py). -/
import Derived.Test.YtignkfhdkcgkgaaDisRB
namespace Go.Proofs.Ytignkfhdkcgkgaa
set_option maxRecDepth 100000
open Go.RowKit

set_option maxRecDepth 100000 in
set_option maxHeartbeats 8000000 in
theorem dsr_lp11 (W:World) (gR gN gL:Nat) (d:Dev) (ts:List Tile) (m N nc:Nat) (DA:Option Addr) (dc:Nat) (In:Int) (Sv Lv nv:Value) (UA:Option Addr) (un uc:Nat) (pl:List Int) (pI:Pc) (rs:List Pc) {v0 v1 v2 v3 v5 v6 v7 v9 v13 v16 v17 v18 v19 v20 v21 v22 v23 v24 v25 v26 v27 v28 v29 v30 v31 v32 v34 v35 v36 v37 v38 v39 v40 v41 v42 v43 v44 v45 v46 v47 v48 v49 v50 v51 v52 v53 v54 v55 v56 v57 v58 v59 v60 v61 v62 v63 v64 v65 v66 v67 v68 v69 v70 v71 v72 v73 v74 v75 v76 v77 v78 v79 v80 v81 v82 v83 v84 v85 v86 v87 v88 v89 v90 v91 v92 v93 v94 v95 v96 v97 v98 v99 v100 v101 v102 v103 v104 v105 v106 v107 v108 v109 v110 v111 v112 v113 v114 v115 v116 v117 v118 v119 v120 v121 v122 v123 v124 v125 v126 v127 v128 v129 v130 v131 v132 v133 v134 v135 v136 v137 v138 v139 v140 v141 v142 v143 v144 v145 v146 v147 v148 v149 v150 v151 v152 v153 v154 v155 v156 v157 v158 v159 v160 v161 v162 v163 v164 v165 v166 v167 v168 v169 v170 v171 v172 v173 v174 v175 v176 v177 v178 v179 v180 v181 v182 v183 v184 v185 v186 v187 v188 v189 v190 v191 v192 v193 v194 v195 v196 v197 v198 v199 v200 v201 v202 v203 v204 v205 v206 v207 v208 v209 v210 v211 v212 v213 v214 v215 v216 v217 v218 v219 v220 v221 v222 v223 v224 v225 v226 v227 v228 v229 v230 v231 v232 v233 v234 v235 v236 v237 v238 v239 v240 v241 v242 v243 v244 v245 v246 v247 v248 v249 v250 v251 v252 v253 v254 v255 v256 v257 v258 v259 v260 v261 v262 v263 v264 v265 v266 v267 v268 v269 v270 v271 v272 v273 v274 v275 v276 v277 v278 v279 v280 v281 v282 v283 v284 v285 v286 v287 v288 v289 v290 v291 v292 v293 v294 v295 v296 v297 v298 v299 v300 v301 v302 v303 v304 v305 v306 v307 v308 v309 v310 v311 v312 v313 v314 v315 v316 v317 v318 v319 v320 v321 v322 v323 v324 v325 v326 v327 v328 v329 v330 v331 v332 v333 v334 v335 v336 v337 v338 v339 v340 v341 v342 v343 v344 v345 v346 v347 v348 v349 v350 v351 v352 v353 v354 v355 v356 v357 v358 v359 v360 v361 v362 v363 v364 v365 v366 v367 v368 v369 v370 v371 v372 v373 v374 v375 v376 v377 v378 v379 v380 v381 v382 v383 v384 v385 v386 v387 v388 v389 v390 v391 v392 v393 v394 v395 v396 v397 v398 v399 v400 v401 v402 v403 v404 v405 v406 v407 v408 v409 v410 v411 v412 v413 v414 v415 v416 v417 v418 v419 v420 v421 v422 v423 v424 v425 v426 v427 v428 v429 v430 v431 v432 v433 v434 v435 v436 v437 v438 v439 v440 v441 v442 v443 v444 v445 v446 v447 v448 v449 v450 v451 v452 v453 v454 v455 v456 v457 v458 v459 v460 v461 v462 v463 v464 v465 v466 v467 v468 v469 v470 v471:Value} {Q0:Exit→Act→World→Prop} (w:World) (htl:ts.length=m) (hN:(N:Int)=nodesOf d) (hc:CfgOk d ts) (hR:W.heap[gR]?=some (.cells #[.int .i64 0,.slice none 0 0,.slice none 0 0,.slice none 0 0] 30 (0,0))) (hDr:Ints W DA N (drvTo d ts N)) (S:Sepa W w (.cel (celI ((List.range N).map (F3 d ts pl))) (.slice (some ⟨gN,0,none⟩) N nc) :: .cel (celI ([])) (.slice none 0 0) :: pI :: .cel (celI (outL d ts)) (.slice UA un uc) :: lnBlk gL In Sv Lv (.slice none 0 0) :: rs))
  (hexit:∀(OA:Option Addr) (oc:Nat) (y5 y6 y7 y33 y34 y442 y443 y444 y445 y446 y447 y448 y449 y450 y451 y452 y453 y454 y455 y456 y457 y458 y459 y460 y461 y462 y463 y464 y465 y466 y467 y468:Value) (w':World),(∀t∈outL d ts,0≤outN d ts pl t)∧Sepa W w' (.cel (celI ((List.range N).map (F3 d ts pl))) (.slice (some ⟨gN,0,none⟩) N nc) :: .cel (celI ((outL d ts).map (outN d ts pl))) (.slice OA (outL d ts).length oc) :: pI :: .cel (celI (outL d ts)) (.slice UA un uc) :: lnBlk gL In Sv Lv (.slice OA (outL d ts).length oc) :: rs)→Q0 (.exit 20) ⟨List.toArray (v0 :: v1 :: v2 :: v3 :: .pointer (some ⟨gR,0,none⟩) :: y5 :: y6 :: y7 :: nv :: v9 :: .int .i64 (perT d) :: .slice DA N dc :: .pointer (some ⟨gL,0,none⟩) :: v13 :: .slice UA un uc :: .slice (some ⟨gN,0,none⟩) N nc :: v16 :: v17 :: v18 :: v19 :: v20 :: v21 :: v22 :: v23 :: v24 :: v25 :: v26 :: v27 :: v28 :: v29 :: v30 :: v31 :: v32 :: y33 :: y34 :: v35 :: v36 :: v37 :: v38 :: v39 :: v40 :: v41 :: v42 :: v43 :: v44 :: v45 :: v46 :: v47 :: v48 :: v49 :: v50 :: v51 :: v52 :: v53 :: v54 :: v55 :: v56 :: v57 :: v58 :: v59 :: v60 :: v61 :: v62 :: v63 :: v64 :: v65 :: v66 :: v67 :: v68 :: v69 :: v70 :: v71 :: v72 :: v73 :: v74 :: v75 :: v76 :: v77 :: v78 :: v79 :: v80 :: v81 :: v82 :: v83 :: v84 :: v85 :: v86 :: v87 :: v88 :: v89 :: v90 :: v91 :: v92 :: v93 :: v94 :: v95 :: v96 :: v97 :: v98 :: v99 :: v100 :: v101 :: v102 :: v103 :: v104 :: v105 :: v106 :: v107 :: v108 :: v109 :: v110 :: v111 :: v112 :: v113 :: v114 :: v115 :: v116 :: v117 :: v118 :: v119 :: v120 :: v121 :: v122 :: v123 :: v124 :: v125 :: v126 :: v127 :: v128 :: v129 :: v130 :: v131 :: v132 :: v133 :: v134 :: v135 :: v136 :: v137 :: v138 :: v139 :: v140 :: v141 :: v142 :: v143 :: v144 :: v145 :: v146 :: v147 :: v148 :: v149 :: v150 :: v151 :: v152 :: v153 :: v154 :: v155 :: v156 :: v157 :: v158 :: v159 :: v160 :: v161 :: v162 :: v163 :: v164 :: v165 :: v166 :: v167 :: v168 :: v169 :: v170 :: v171 :: v172 :: v173 :: v174 :: v175 :: v176 :: v177 :: v178 :: v179 :: v180 :: v181 :: v182 :: v183 :: v184 :: v185 :: v186 :: v187 :: v188 :: v189 :: v190 :: v191 :: v192 :: v193 :: v194 :: v195 :: v196 :: v197 :: v198 :: v199 :: v200 :: v201 :: v202 :: v203 :: v204 :: v205 :: v206 :: v207 :: v208 :: v209 :: v210 :: v211 :: v212 :: v213 :: v214 :: v215 :: v216 :: v217 :: v218 :: v219 :: v220 :: v221 :: v222 :: v223 :: v224 :: v225 :: v226 :: v227 :: v228 :: v229 :: v230 :: v231 :: v232 :: v233 :: v234 :: v235 :: v236 :: v237 :: v238 :: v239 :: v240 :: v241 :: v242 :: v243 :: v244 :: v245 :: v246 :: v247 :: v248 :: v249 :: v250 :: v251 :: v252 :: v253 :: v254 :: v255 :: v256 :: v257 :: v258 :: v259 :: v260 :: v261 :: v262 :: v263 :: v264 :: v265 :: v266 :: v267 :: v268 :: v269 :: v270 :: v271 :: v272 :: v273 :: v274 :: v275 :: v276 :: v277 :: v278 :: v279 :: v280 :: v281 :: v282 :: v283 :: v284 :: v285 :: v286 :: v287 :: v288 :: v289 :: v290 :: v291 :: v292 :: v293 :: v294 :: v295 :: v296 :: v297 :: v298 :: v299 :: v300 :: v301 :: v302 :: v303 :: v304 :: v305 :: v306 :: v307 :: v308 :: v309 :: v310 :: v311 :: v312 :: v313 :: v314 :: v315 :: v316 :: v317 :: v318 :: v319 :: v320 :: v321 :: v322 :: v323 :: v324 :: v325 :: v326 :: v327 :: v328 :: v329 :: v330 :: v331 :: v332 :: v333 :: v334 :: v335 :: v336 :: v337 :: v338 :: v339 :: v340 :: v341 :: v342 :: v343 :: v344 :: v345 :: v346 :: v347 :: v348 :: v349 :: v350 :: v351 :: v352 :: v353 :: v354 :: v355 :: v356 :: v357 :: v358 :: v359 :: v360 :: v361 :: v362 :: v363 :: v364 :: v365 :: v366 :: v367 :: v368 :: v369 :: v370 :: v371 :: v372 :: v373 :: v374 :: v375 :: v376 :: v377 :: v378 :: v379 :: v380 :: v381 :: v382 :: v383 :: v384 :: v385 :: v386 :: v387 :: v388 :: v389 :: v390 :: v391 :: v392 :: v393 :: v394 :: v395 :: v396 :: v397 :: v398 :: v399 :: v400 :: v401 :: v402 :: v403 :: v404 :: v405 :: v406 :: v407 :: v408 :: v409 :: v410 :: v411 :: v412 :: v413 :: v414 :: v415 :: v416 :: v417 :: v418 :: v419 :: v420 :: v421 :: v422 :: v423 :: v424 :: v425 :: v426 :: v427 :: v428 :: v429 :: v430 :: v431 :: v432 :: v433 :: v434 :: v435 :: v436 :: v437 :: v438 :: v439 :: v440 :: v441 :: y442 :: y443 :: y444 :: y445 :: y446 :: y447 :: y448 :: y449 :: y450 :: y451 :: y452 :: y453 :: y454 :: y455 :: y456 :: y457 :: y458 :: y459 :: y460 :: y461 :: y462 :: y463 :: y464 :: y465 :: y466 :: y467 :: y468 :: v469 :: v470 :: v471 :: []),[]⟩ w')
  (hret:∀(y33 y34 y442 y443 y444 y445 y446 y447 y448 y449 y450 y451 y452 y453 y454 y455 y456 y457 y458 y459 y460 y461 y462 y463 y464 y465 y466 y467 y468:Value) (w':World),(∃t∈outL d ts,outN d ts pl t<0)∧Below W.heap.size W w'→Q0 .ret ⟨List.toArray (v0 :: v1 :: v2 :: v3 :: .pointer (some ⟨gR,0,none⟩) :: nv :: nv :: .bool false :: nv :: v9 :: .int .i64 (perT d) :: .slice DA N dc :: .pointer (some ⟨gL,0,none⟩) :: v13 :: .slice UA un uc :: .slice (some ⟨gN,0,none⟩) N nc :: v16 :: v17 :: v18 :: v19 :: v20 :: v21 :: v22 :: v23 :: v24 :: v25 :: v26 :: v27 :: v28 :: v29 :: v30 :: v31 :: v32 :: y33 :: y34 :: v35 :: v36 :: v37 :: v38 :: v39 :: v40 :: v41 :: v42 :: v43 :: v44 :: v45 :: v46 :: v47 :: v48 :: v49 :: v50 :: v51 :: v52 :: v53 :: v54 :: v55 :: v56 :: v57 :: v58 :: v59 :: v60 :: v61 :: v62 :: v63 :: v64 :: v65 :: v66 :: v67 :: v68 :: v69 :: v70 :: v71 :: v72 :: v73 :: v74 :: v75 :: v76 :: v77 :: v78 :: v79 :: v80 :: v81 :: v82 :: v83 :: v84 :: v85 :: v86 :: v87 :: v88 :: v89 :: v90 :: v91 :: v92 :: v93 :: v94 :: v95 :: v96 :: v97 :: v98 :: v99 :: v100 :: v101 :: v102 :: v103 :: v104 :: v105 :: v106 :: v107 :: v108 :: v109 :: v110 :: v111 :: v112 :: v113 :: v114 :: v115 :: v116 :: v117 :: v118 :: v119 :: v120 :: v121 :: v122 :: v123 :: v124 :: v125 :: v126 :: v127 :: v128 :: v129 :: v130 :: v131 :: v132 :: v133 :: v134 :: v135 :: v136 :: v137 :: v138 :: v139 :: v140 :: v141 :: v142 :: v143 :: v144 :: v145 :: v146 :: v147 :: v148 :: v149 :: v150 :: v151 :: v152 :: v153 :: v154 :: v155 :: v156 :: v157 :: v158 :: v159 :: v160 :: v161 :: v162 :: v163 :: v164 :: v165 :: v166 :: v167 :: v168 :: v169 :: v170 :: v171 :: v172 :: v173 :: v174 :: v175 :: v176 :: v177 :: v178 :: v179 :: v180 :: v181 :: v182 :: v183 :: v184 :: v185 :: v186 :: v187 :: v188 :: v189 :: v190 :: v191 :: v192 :: v193 :: v194 :: v195 :: v196 :: v197 :: v198 :: v199 :: v200 :: v201 :: v202 :: v203 :: v204 :: v205 :: v206 :: v207 :: v208 :: v209 :: v210 :: v211 :: v212 :: v213 :: v214 :: v215 :: v216 :: v217 :: v218 :: v219 :: v220 :: v221 :: v222 :: v223 :: v224 :: v225 :: v226 :: v227 :: v228 :: v229 :: v230 :: v231 :: v232 :: v233 :: v234 :: v235 :: v236 :: v237 :: v238 :: v239 :: v240 :: v241 :: v242 :: v243 :: v244 :: v245 :: v246 :: v247 :: v248 :: v249 :: v250 :: v251 :: v252 :: v253 :: v254 :: v255 :: v256 :: v257 :: v258 :: v259 :: v260 :: v261 :: v262 :: v263 :: v264 :: v265 :: v266 :: v267 :: v268 :: v269 :: v270 :: v271 :: v272 :: v273 :: v274 :: v275 :: v276 :: v277 :: v278 :: v279 :: v280 :: v281 :: v282 :: v283 :: v284 :: v285 :: v286 :: v287 :: v288 :: v289 :: v290 :: v291 :: v292 :: v293 :: v294 :: v295 :: v296 :: v297 :: v298 :: v299 :: v300 :: v301 :: v302 :: v303 :: v304 :: v305 :: v306 :: v307 :: v308 :: v309 :: v310 :: v311 :: v312 :: v313 :: v314 :: v315 :: v316 :: v317 :: v318 :: v319 :: v320 :: v321 :: v322 :: v323 :: v324 :: v325 :: v326 :: v327 :: v328 :: v329 :: v330 :: v331 :: v332 :: v333 :: v334 :: v335 :: v336 :: v337 :: v338 :: v339 :: v340 :: v341 :: v342 :: v343 :: v344 :: v345 :: v346 :: v347 :: v348 :: v349 :: v350 :: v351 :: v352 :: v353 :: v354 :: v355 :: v356 :: v357 :: v358 :: v359 :: v360 :: v361 :: v362 :: v363 :: v364 :: v365 :: v366 :: v367 :: v368 :: v369 :: v370 :: v371 :: v372 :: v373 :: v374 :: v375 :: v376 :: v377 :: v378 :: v379 :: v380 :: v381 :: v382 :: v383 :: v384 :: v385 :: v386 :: v387 :: v388 :: v389 :: v390 :: v391 :: v392 :: v393 :: v394 :: v395 :: v396 :: v397 :: v398 :: v399 :: v400 :: v401 :: v402 :: v403 :: v404 :: v405 :: v406 :: v407 :: v408 :: v409 :: v410 :: v411 :: v412 :: v413 :: v414 :: v415 :: v416 :: v417 :: v418 :: v419 :: v420 :: v421 :: v422 :: v423 :: v424 :: v425 :: v426 :: v427 :: v428 :: v429 :: v430 :: v431 :: v432 :: v433 :: v434 :: v435 :: v436 :: v437 :: v438 :: v439 :: v440 :: v441 :: y442 :: y443 :: y444 :: y445 :: y446 :: y447 :: y448 :: y449 :: y450 :: y451 :: y452 :: y453 :: y454 :: y455 :: y456 :: y457 :: y458 :: y459 :: y460 :: y461 :: y462 :: y463 :: y464 :: y465 :: y466 :: y467 :: y468 :: v469 :: v470 :: v471 :: []),[]⟩ ((((w'.setCell ⟨gR,0,none⟩ (.int .i64 0)).setCell ⟨gR,1,none⟩ (.slice none 0 0)).setCell ⟨gR,2,none⟩ (.slice none 0 0)).setCell ⟨gR,3,none⟩ (.slice none 0 0)))
  : Code.wp Try.prog (loopAt Try.f5 4) Q0 ⟨List.toArray (v0 :: v1 :: v2 :: v3 :: .pointer (some ⟨gR,0,none⟩) :: v5 :: v6 :: v7 :: nv :: v9 :: .int .i64 (perT d) :: .slice DA N dc :: .pointer (some ⟨gL,0,none⟩) :: v13 :: .slice UA un uc :: .slice (some ⟨gN,0,none⟩) N nc :: v16 :: v17 :: v18 :: v19 :: v20 :: v21 :: v22 :: v23 :: v24 :: v25 :: v26 :: v27 :: v28 :: v29 :: v30 :: v31 :: v32 :: .int .i64 0 :: v34 :: v35 :: v36 :: v37 :: v38 :: v39 :: v40 :: v41 :: v42 :: v43 :: v44 :: v45 :: v46 :: v47 :: v48 :: v49 :: v50 :: v51 :: v52 :: v53 :: v54 :: v55 :: v56 :: v57 :: v58 :: v59 :: v60 :: v61 :: v62 :: v63 :: v64 :: v65 :: v66 :: v67 :: v68 :: v69 :: v70 :: v71 :: v72 :: v73 :: v74 :: v75 :: v76 :: v77 :: v78 :: v79 :: v80 :: v81 :: v82 :: v83 :: v84 :: v85 :: v86 :: v87 :: v88 :: v89 :: v90 :: v91 :: v92 :: v93 :: v94 :: v95 :: v96 :: v97 :: v98 :: v99 :: v100 :: v101 :: v102 :: v103 :: v104 :: v105 :: v106 :: v107 :: v108 :: v109 :: v110 :: v111 :: v112 :: v113 :: v114 :: v115 :: v116 :: v117 :: v118 :: v119 :: v120 :: v121 :: v122 :: v123 :: v124 :: v125 :: v126 :: v127 :: v128 :: v129 :: v130 :: v131 :: v132 :: v133 :: v134 :: v135 :: v136 :: v137 :: v138 :: v139 :: v140 :: v141 :: v142 :: v143 :: v144 :: v145 :: v146 :: v147 :: v148 :: v149 :: v150 :: v151 :: v152 :: v153 :: v154 :: v155 :: v156 :: v157 :: v158 :: v159 :: v160 :: v161 :: v162 :: v163 :: v164 :: v165 :: v166 :: v167 :: v168 :: v169 :: v170 :: v171 :: v172 :: v173 :: v174 :: v175 :: v176 :: v177 :: v178 :: v179 :: v180 :: v181 :: v182 :: v183 :: v184 :: v185 :: v186 :: v187 :: v188 :: v189 :: v190 :: v191 :: v192 :: v193 :: v194 :: v195 :: v196 :: v197 :: v198 :: v199 :: v200 :: v201 :: v202 :: v203 :: v204 :: v205 :: v206 :: v207 :: v208 :: v209 :: v210 :: v211 :: v212 :: v213 :: v214 :: v215 :: v216 :: v217 :: v218 :: v219 :: v220 :: v221 :: v222 :: v223 :: v224 :: v225 :: v226 :: v227 :: v228 :: v229 :: v230 :: v231 :: v232 :: v233 :: v234 :: v235 :: v236 :: v237 :: v238 :: v239 :: v240 :: v241 :: v242 :: v243 :: v244 :: v245 :: v246 :: v247 :: v248 :: v249 :: v250 :: v251 :: v252 :: v253 :: v254 :: v255 :: v256 :: v257 :: v258 :: v259 :: v260 :: v261 :: v262 :: v263 :: v264 :: v265 :: v266 :: v267 :: v268 :: v269 :: v270 :: v271 :: v272 :: v273 :: v274 :: v275 :: v276 :: v277 :: v278 :: v279 :: v280 :: v281 :: v282 :: v283 :: v284 :: v285 :: v286 :: v287 :: v288 :: v289 :: v290 :: v291 :: v292 :: v293 :: v294 :: v295 :: v296 :: v297 :: v298 :: v299 :: v300 :: v301 :: v302 :: v303 :: v304 :: v305 :: v306 :: v307 :: v308 :: v309 :: v310 :: v311 :: v312 :: v313 :: v314 :: v315 :: v316 :: v317 :: v318 :: v319 :: v320 :: v321 :: v322 :: v323 :: v324 :: v325 :: v326 :: v327 :: v328 :: v329 :: v330 :: v331 :: v332 :: v333 :: v334 :: v335 :: v336 :: v337 :: v338 :: v339 :: v340 :: v341 :: v342 :: v343 :: v344 :: v345 :: v346 :: v347 :: v348 :: v349 :: v350 :: v351 :: v352 :: v353 :: v354 :: v355 :: v356 :: v357 :: v358 :: v359 :: v360 :: v361 :: v362 :: v363 :: v364 :: v365 :: v366 :: v367 :: v368 :: v369 :: v370 :: v371 :: v372 :: v373 :: v374 :: v375 :: v376 :: v377 :: v378 :: v379 :: v380 :: v381 :: v382 :: v383 :: v384 :: v385 :: v386 :: v387 :: v388 :: v389 :: v390 :: v391 :: v392 :: v393 :: v394 :: v395 :: v396 :: v397 :: v398 :: v399 :: v400 :: v401 :: v402 :: v403 :: v404 :: v405 :: v406 :: v407 :: v408 :: v409 :: v410 :: v411 :: v412 :: v413 :: v414 :: v415 :: v416 :: v417 :: v418 :: v419 :: v420 :: v421 :: v422 :: v423 :: v424 :: v425 :: v426 :: v427 :: v428 :: v429 :: v430 :: v431 :: v432 :: v433 :: v434 :: v435 :: v436 :: v437 :: v438 :: v439 :: v440 :: v441 :: v442 :: v443 :: v444 :: v445 :: v446 :: v447 :: v448 :: v449 :: v450 :: v451 :: v452 :: v453 :: v454 :: v455 :: v456 :: v457 :: v458 :: v459 :: v460 :: v461 :: v462 :: v463 :: v464 :: v465 :: v466 :: v467 :: v468 :: v469 :: v470 :: v471 :: []),[]⟩ w:=by
 have htq:=tiles_eq hc.dev
 have hcl:=hc.len
 have hm36:m≤36:=by omega
 have hpb:=perT_bd hc.dev
 have hun:=(S.ints 3 rfl).1
 have hou:un≤36:=by have h1:=padTo_length d ts 2 ts.length;unfold outL at hun;omega
 have HUN:=Lib.hid hun
 have HTRC:=Lib.hid (fun (t:Int) (ht:t∈outL d ts) (w':World) (hd:Ints w' DA N (drvTo d ts N)) (hxx:Ints w' (some ⟨gN,0,none⟩) N ((List.range N).map (F3 d ts pl)))=>(by
  have h1:=padTo_in ht
  have h:=node_at (k:=0) (tileIn_iff.2 ⟨hc.dev,h1.1,by omega⟩:tileIn d t=true) (by omega) (by omega)
  rw [Int.add_zero] at h
  exact l42Trace_any d ts pl N DA dc _ nc _ (t * perT d) w' hd hxx hN hc (F3_ok hN) h.1 fun hp=>by rw [h.2.2] at hp;omega:Calls Try.prog 24 #[.slice DA N dc,.int .i64 (perT d),.slice (some ⟨gN,0,none⟩) N nc,.int .i64 (t * perT d)] w' fun e w''=>e = .returned (.int .i64 (tr d ts pl (t * perT d)))∧w'=w''))
 have HTB:Hid (∀t,t∈outL d ts→0≤t∧t<(m:Int)):=fun t ht=>by have h1:=padTo_in ht;exact ⟨h1.1,by omega⟩
 have HRR:=Lib.hid hR
 have HDR:=Lib.hid hDr
 have HS:=Lib.hid S
 have HX:=Lib.hid hexit
 have HZ:=Lib.hid hret
 clear htl hN hc hR hDr S hexit hret htq hcl hun
 conv=>arg 2;whnf
 go_loopw [33] (fun i wr=>∃(k:Nat) (OA:Option Addr) (oc:Nat),k≤un∧i = .int .i64 (k:Int)∧(∀(j:Nat) (t:Int),j<k→(outL d ts)[j]?=some t→0≤outN d ts pl t)∧Sepa W wr (.cel (celI ((List.range N).map (F3 d ts pl))) (.slice (some ⟨gN,0,none⟩) N nc) :: .cel (celI (((outL d ts).take k).map (outN d ts pl))) (.slice OA k oc) :: pI :: .cel (celI (outL d ts)) (.slice UA un uc) :: lnBlk gL In Sv Lv (.slice OA k oc) :: rs)) (fun i _=>un - (intOf i).toNat)
 case atStart=>exact ⟨0,none,0,by omega,rfl,fun j t hj=>by omega,HS.out⟩
 case round =>
  obtain ⟨k,OA,oc,hk,rfl,hall,hs⟩:=hrel
  have HALL:=Lib.hid hall
  have HSS:=Lib.hid hs
  clear hall
  by_cases hlt:k<un
  ·have hdk:decide ((k:Int)<(un:Int))=true:=by simp;omega
   obtain ⟨t,ht⟩:∃t,(outL d ts)[k]?=some t:=⟨_,List.getElem?_eq_getElem (by rw [HUN.out];exact hlt)⟩
   obtain ⟨b,o,hUA,hbl,hcx⟩:=(hs.ints 3 rfl).2 (by omega)
   have hck:=hcx k hlt
   rw [ht,Option.getD_some] at hck
   obtain ⟨ht0,htm⟩:=HTB.out t (List.mem_of_getElem? ht)
   have HTX:=Lib.hid ht
   have hmul0:0≤t * perT d:=Int.mul_nonneg ht0 (by omega)
   have hmul1:t * perT d≤36 * 23:=Int.mul_le_mul (by omega) (by omega) (by omega) (by omega)
   have HTR:Hid (outN d ts pl t=tr d ts pl (t * perT d)):=rfl
   have HTK:=Lib.hid (HTRC.out t (List.mem_of_getElem? ht) wr (HDR.out.below hs.bel) (hs.ints 0 rfl))
   have i0:(0:Int)≤(k:Int):=by omega
   have i1:(k:Int)<(un:Int):=by omega
   have hno:=(hs.ints 1 rfl).1
   rw [List.length_map,List.length_take] at hno
   have l3:=cell_heap (k:=3) (hs.blk 4 rfl).1 rfl
   have l4:=heap_lt0 (hs.blk 4 rfl).1
   have hR':=heap_tr hs.bel HRR.out
   have r0:=cell_heap (k:=0) hR' rfl
   have r1:=cell_heap (k:=1) hR' rfl
   have r2:=cell_heap (k:=2) hR' rfl
   have r3:=cell_heap (k:=3) hR' rfl
   have f0:=frozen_heap hR' 0
   have f1:=frozen_heap hR' 1
   have f2:=frozen_heap hR' 2
   have f3:=frozen_heap hR' 3
   have lR:=heap_lt0 hR'
   clear hR'
   clear hs hcx ht HTRC hno
   subst hUA
   generalize perT d=Q at *
   generalize tr d ts pl (t * Q)=X at *
   go_wp2_with fail
   refine HTK.out.mono ?_
   rintro _ w2 ⟨rfl,rfl⟩
   by_cases hx:0≤X
   ·have hdx:decide (X<0)=false:=by simp;omega
    have HXX:=Lib.hid hx
    clear hx r0 r1 r2 r3 f0 f1 f2 f3 lR
    go_wp2_with (at_builtin;refine wpList_sepPush rfl _ _ rfl _ (HSS.out.alloc _) 1 OA k oc (((outL d ts).take k).map (outN d ts pl)) X _ (0,0) rfl rfl rfl (heap_new _ _) (by omega) ?_;intro g9 cap w9 S9 hz9;have l9:=cell_heap (k:=3) (S9.blk 4 rfl).1 rfl;have f9:=frozen_heap (S9.blk 4 rfl).1 3;have q9:=heap_lt0 (S9.blk 4 rfl).1;have HS9:=Lib.hid S9;clear S9)
    go_roundw
    case rel =>
     refine ⟨k+1,some ⟨g9,0,none⟩,cap,by omega,by go_num,fun j t' hj he=>?_,?_⟩
     ·rcases Nat.lt_or_ge j k with h|h
      ·exact HALL.out j t' h he
      ·obtain rfl:j=k:=by omega
       have e:=HTX.out
       rw [he] at e
       injection e with e
       subst e
       rw [HTR.out]
       exact HXX.out
     ·rw [List.take_add_one,HTX.out,Option.toList_some,List.map_append,List.map_cons,List.map_nil,HTR.out]
      exact HS9.out.put 4 rfl 3 _
    case measure=>simp [intOf];omega
   ·have hdx:decide (X<0)=true:=by simp;omega
    have HEX:Hid (∃t∈outL d ts,outN d ts pl t<0):=⟨t,List.mem_of_getElem? HTX.out,by rw [HTR.out];omega⟩
    clear hx
    go_wp2_with fail
    apply HZ.out
    exact ⟨HEX.out,HSS.out.bel⟩
  ·have hkm:k=un:=by omega
   have hdk:decide ((k:Int)<(un:Int))=false:=by simp;omega
   have hfin:(outL d ts).take k=outL d ts:=List.take_of_length_le (by rw [HUN.out];omega)
   have hul:(outL d ts).length=k:=by rw [HUN.out];omega
   rw [hfin] at hs
   have HS2:=Lib.hid (And.intro (show ∀t∈outL d ts,0≤outN d ts pl t from fun t ht=>by obtain ⟨j,hj,rfl⟩:=List.getElem_of_mem ht;exact HALL.out j _ (by omega) (List.getElem?_eq_getElem hj)) hs)
   have HUL:=Lib.hid hul
   clear hs hkm hfin hul
   go_wp2_with fail
   apply HX.out
   rw [HUL.out]
   exact HS2.out
end Go.Proofs.Ytignkfhdkcgkgaa
