/- The sequential elements of a network that is read back, when what goes into the first of them is known. Plain lemmas. The loop over the inputs of a memory, in the reference's Disassemble (printed by mkdiss4.py). -/
import Derived.Test.YtignkfhdkcgkgaaGreatDisRB
import Derived.Test.YtignkfhdkcgkgaaGreatSepN
namespace Go.Proofs.YtignkfhdkcgkgaaGreat
set_option maxRecDepth 100000
open Go.RowKit

/-- The sequential elements when what goes into the first k is known. -/
def sqMid (d:Dev) (ts:List Tile) (pl:List Int) (k:Nat):List Sq:=(List.range (owL d ts).length).map fun i=>if i<k then sqOf d ts pl ((owL d ts)[i]?.getD 0) else sq0 d ts ((owL d ts)[i]?.getD 0)
theorem sqMid_length (d:Dev) (ts:List Tile) (pl:List Int) (k:Nat):(sqMid d ts pl k).length=(owL d ts).length:=by simp [sqMid]
theorem sqMid_zero (d:Dev) (ts:List Tile) (pl:List Int):sqMid d ts pl 0=(owL d ts).map (sq0 d ts):=by
 apply List.ext_getElem?
 intro i
 simp only [sqMid,Nat.not_lt_zero,if_false,List.getElem?_map]
 rcases Nat.lt_or_ge i (owL d ts).length with h|h
 ·simp [h]
 ·simp [h]
theorem sqMid_full (d:Dev) (ts:List Tile) (pl:List Int):sqMid d ts pl (owL d ts).length=(owL d ts).map (sqOf d ts pl):=by
 apply List.ext_getElem?
 intro i
 simp only [sqMid,List.getElem?_map]
 rcases Nat.lt_or_ge i (owL d ts).length with h|h
 ·simp [h]
 ·simp [h]
theorem sqMid_get {d:Dev} {ts:List Tile} {pl:List Int} {k:Nat} {x:Int} (h:(owL d ts)[k]?=some x):(sqMid d ts pl k)[k]?=some (sq0 d ts x):=by
 have hk:=(List.getElem?_eq_some_iff.1 h).1
 unfold sqMid
 rw [List.getElem?_map,List.getElem?_range hk]
 simp [h]
theorem sqMid_set {d:Dev} {ts:List Tile} {pl:List Int} {k:Nat} {x:Int} (h:(owL d ts)[k]?=some x):(sqMid d ts pl k).set k (sqOf d ts pl x)=sqMid d ts pl (k+1):=by
 have hk:=(List.getElem?_eq_some_iff.1 h).1
 apply List.ext_getElem?
 intro i
 by_cases hi:i=k
 ·subst hi
  rw [List.getElem?_set_self (by rw [sqMid_length];exact hk)]
  unfold sqMid
  rw [List.getElem?_map,List.getElem?_range hk,Option.map_some,if_pos (by omega),h]
  rfl
 ·rw [List.getElem?_set_ne (by omega)]
  unfold sqMid
  rw [List.getElem?_map,List.getElem?_map]
  rcases Nat.lt_or_ge i (owL d ts).length with h1|h1
  ·rw [List.getElem?_range h1,Option.map_some,Option.map_some]
   by_cases h2:i<k
   ·rw [if_pos h2,if_pos (by omega)]
   ·rw [if_neg h2,if_neg (by omega)]
  ·rw [List.getElem?_eq_none (by simpa using h1)]
   rfl
theorem OwnC.sqLen {w:World} {B n c:Nat} {A:Option Addr} {xs:List Sq} (h:RdC w B (celSq xs) (.slice A n c)):xs.length=n:=by
 have:=RdC.len h
 rw [flatS_length Sq.cells_length] at this
 omega
theorem all_nth {l:List Int} {p:Int→Bool} {k:Nat} {x:Int} (h:∀(j:Nat) (y:Int),j<k→l[j]?=some y→p y=true) (hx:l[k]?=some x) (hp:p x=true):∀(j:Nat) (y:Int),j<k+1→l[j]?=some y→p y=true:=fun j y hj he=>by
 rcases Nat.lt_or_ge j k with h1|h1
 ·exact h j y h1 he
 ·obtain rfl:j=k:=by omega
  rw [hx] at he
  injection he with he
  exact he ▸ hp
/-- What the tiles so far bring is the beginning of the whole. -/
theorem owTo_pre (d:Dev) (ts:List Tile) (k j:Nat):∃r,owTo d ts (k+j)=owTo d ts k++r:=by
 induction j with
 | zero=>exact ⟨[],by simp⟩
 | succ j ih =>
  obtain ⟨r,h⟩:=ih
  exact ⟨r++owAt d ts (k+j),by rw [←Nat.add_assoc,owTo,h,List.append_assoc]⟩
theorem owL_at {d:Dev} {ts:List Tile} {k:Nat} (hk:k<ts.length) (a b:List Int) (x:Int) (h:owAt d ts k=a++x :: b):(owL d ts)[(owTo d ts k++a).length]?=some x:=by
 obtain ⟨r,hr⟩:=owTo_pre d ts (k+1) (ts.length - (k+1))
 rw [show k+1+(ts.length - (k+1))=ts.length by omega,owTo,h] at hr
 rw [owL,hr,show owTo d ts k++(a++x :: b)++r=(owTo d ts k++a)++(x :: (b++r)) by simp,List.getElem?_append_right (Nat.le_refl _)]
 simp
theorem owP_pre (ts:List Tile) (k:Nat) {e:Nat} (he:e<2) (hf:(leX ts (2 * (k:Int)+(e:Int))).flop=1):∃b,owP ts k 2=owP ts k e++(2 * (k:Int)+(e:Int)) :: b:=by
 have:e=0∨e=1:=by omega
 rcases this with rfl|rfl
 ·refine ⟨if (leX ts (2 * (k:Int)+((1:Nat):Int))).flop=1 then [2 * (k:Int)+((1:Nat):Int)] else [],?_⟩
  rw [show owP ts k 2=owP ts k 1++(if (leX ts (2 * (k:Int)+((1:Nat):Int))).flop=1 then [2 * (k:Int)+((1:Nat):Int)] else []) from rfl,show owP ts k 1=owP ts k 0++(if (leX ts (2 * (k:Int)+((0:Nat):Int))).flop=1 then [2 * (k:Int)+((0:Nat):Int)] else []) from rfl,if_pos hf]
  simp
 ·exact ⟨[],by rw [show owP ts k 2=owP ts k 1++(if (leX ts (2 * (k:Int)+((1:Nat):Int))).flop=1 then [2 * (k:Int)+((1:Nat):Int)] else []) from rfl,if_pos hf]⟩
end Go.Proofs.YtignkfhdkcgkgaaGreat

namespace Go.Proofs.YtignkfhdkcgkgaaGreat
set_option maxRecDepth 100000
open Go.RowKit

set_option maxRecDepth 100000 in
set_option maxHeartbeats 8000000 in
theorem dsr_lp9 (W:World) (gR gD gN gL gU:Nat) (d:Dev) (ts:List Tile) (TA:Option Addr) (m tc N nc M uc:Nat) (DA:Option Addr) (dc:Nat) (In:Int) (SA:Option Addr) (sn sc:Nat) (Lv Ov nv:Value) (pl:List Int) (pI pO pA pQ:Pc) (rs:List Pc) (t s:Nat) {v0 v1 v3 v5 v6 v7 v13 v14 v16 v17 v18 v20 v21 v22 v23 v24 v25 v26 v27 v31 v32 v33 v34 v35 v36 v37 v38 v39 v40 v41 v42 v43 v44 v45 v46 v47 v48 v49 v50 v51 v52 v53 v54 v55 v56 v57 v58 v59 v60 v61 v62 v63 v64 v65 v66 v67 v68 v69 v70 v71 v72 v73 v74 v75 v76 v77 v78 v79 v80 v81 v82 v83 v84 v85 v86 v87 v88 v89 v90 v91 v92 v93 v94 v95 v96 v97 v98 v99 v100 v101 v102 v103 v104 v105 v106 v107 v108 v109 v110 v111 v112 v113 v114 v115 v116 v117 v118 v119 v120 v121 v122 v123 v124 v125 v126 v127 v128 v129 v130 v131 v132 v133 v134 v135 v136 v137 v138 v139 v140 v141 v142 v143 v144 v145 v146 v147 v148 v149 v150 v151 v152 v153 v154 v155 v156 v157 v158 v159 v160 v161 v162 v163 v164 v165 v166 v167 v168 v169 v170 v171 v172 v173 v174 v175 v176 v177 v178 v179 v180 v181 v182 v183 v184 v185 v186 v187 v188 v189 v190 v191 v192 v193 v194 v195 v196 v197 v198 v199 v200 v201 v202 v203 v204 v205 v206 v207 v208 v209 v210 v211 v212 v213 v214 v215 v216 v217 v218 v219 v220 v221 v222 v223 v224 v225 v226 v227 v228 v229 v230 v231 v232 v233 v234 v235 v236 v237 v238 v239 v240 v241 v242 v243 v244 v245 v246 v247 v248 v249 v250 v251 v252 v253 v254 v255 v256 v257 v258 v259 v260 v261 v262 v263 v264 v265 v266 v267 v268 v269 v270 v271 v272 v273 v274 v275 v276 v277 v278 v279 v280 v281 v282 v283 v284 v285 v286 v287 v288 v289 v290 v291 v292 v293 v294 v295 v296 v297 v298 v299 v300 v301 v302 v303 v304 v305 v306 v307 v308 v309 v310 v311 v312 v313 v314 v315 v316 v317 v318 v319 v320 v321 v322 v323 v324 v325 v326 v327 v328 v329 v330 v331 v332 v333 v334 v335 v336 v337 v338 v339 v340 v341 v342 v343 v344 v345 v346 v347 v348 v349 v350 v351 v352 v353 v354 v355 v356 v357 v358 v359 v360 v361 v362 v363 v364 v365 v366 v367 v368 v369 v370 v371 v372 v373 v374 v375 v376 v377 v378 v379 v380 v381 v382 v383 v384 v385 v386 v387 v388 v389 v390 v391 v392 v393 v394 v395 v396 v397 v398 v399 v400 v401 v402 v403 v404 v405 v406 v407 v408 v409 v410 v411 v412 v413 v414 v415 v416 v417 v418 v419 v420 v421 v422 v423 v424 v425 v426 v427 v428 v429 v430 v431 v432 v433 v434 v435 v436 v437 v438 v439 v440 v441 v442 v443 v444 v445 v446 v447 v448 v449 v450 v451 v452 v453 v454 v455 v456 v457 v458 v459 v460 v461 v462 v463 v464 v465 v466 v467 v468 v469 v470 v471:Value} {Q0:Exit→Act→World→Prop} (w:World) (hT:RdC W W.heap.size (celT ts) (.slice TA m tc)) (hN:(N:Int)=nodesOf d) (hc:CfgOk d ts) (hD:W.heap[gD]?=some (.cells #[.int .i64 d.W,.int .i64 d.H,.int .i64 d.T,.int .i64 d.R] 25 (0,0))) (hR:W.heap[gR]?=some (.cells #[.int .i64 0,.slice none 0 0,.slice none 0 0,.slice none 0 0] 61 (0,0))) (hDr:Ints W DA N (drvTo d ts N)) (_hM:M=2 * m) (hs:s=(owTo d ts t).length) (htm:t<m) (S:Sepa W w (.cel (celI ((List.range N).map (F3 d ts pl))) (.slice (some ⟨gN,0,none⟩) N nc) :: pI :: pO :: lnBlk gL In (.slice SA sn sc) Lv Ov :: pA :: .cel (celSq (sqMid d ts pl s)) (.slice SA sn sc) :: pQ :: .cel (celI ((List.range M).map fun (y:Nat)=>numF (ltB d ts) pl (y:Int))) (.slice (some ⟨gU,0,none⟩) M uc) :: rs))
  (hexit:∀(s2:Nat) (y5 y6 y7 y30 y31 y365 y366 y367 y368 y369 y370 y371 y372 y373 y374 y375 y376 y377 y378 y379 y380 y381 y382 y383 y384 y385 y386 y387 y388 y389 y390 y391 y392 y393 y394 y395 y396 y397 y398 y399 y400 y401 y402 y403 y404 y405 y406:Value) (w':World),s2=(if kindOf d (t:Int)=2 then (owTo d ts (t+1)).length else s)∧(kindOf d (t:Int)=2→sqOk d ts pl (2 * (t:Int))=true)∧Sepa W w' (.cel (celI ((List.range N).map (F3 d ts pl))) (.slice (some ⟨gN,0,none⟩) N nc) :: pI :: pO :: lnBlk gL In (.slice SA sn sc) Lv Ov :: pA :: .cel (celSq (sqMid d ts pl s2)) (.slice SA sn sc) :: pQ :: .cel (celI ((List.range M).map fun (y:Nat)=>numF (ltB d ts) pl (y:Int))) (.slice (some ⟨gU,0,none⟩) M uc) :: rs)→Q0 (.exit 16) ⟨List.toArray (v0 :: v1 :: .pointer (some ⟨gD,0,none⟩) :: v3 :: .pointer (some ⟨gR,0,none⟩) :: y5 :: y6 :: y7 :: nv :: .slice TA m tc :: .int .i64 (perT d) :: .slice DA N dc :: .pointer (some ⟨gL,0,none⟩) :: v13 :: v14 :: .slice (some ⟨gN,0,none⟩) N nc :: v16 :: v17 :: v18 :: .slice (some ⟨gU,0,none⟩) M uc :: v20 :: v21 :: v22 :: v23 :: v24 :: v25 :: v26 :: v27 :: .int .i64 (s2:Int) :: .int .i64 (t:Int) :: y30 :: y31 :: v32 :: v33 :: v34 :: v35 :: v36 :: v37 :: v38 :: v39 :: v40 :: v41 :: v42 :: v43 :: v44 :: v45 :: v46 :: v47 :: v48 :: v49 :: v50 :: v51 :: v52 :: v53 :: v54 :: v55 :: v56 :: v57 :: v58 :: v59 :: v60 :: v61 :: v62 :: v63 :: v64 :: v65 :: v66 :: v67 :: v68 :: v69 :: v70 :: v71 :: v72 :: v73 :: v74 :: v75 :: v76 :: v77 :: v78 :: v79 :: v80 :: v81 :: v82 :: v83 :: v84 :: v85 :: v86 :: v87 :: v88 :: v89 :: v90 :: v91 :: v92 :: v93 :: v94 :: v95 :: v96 :: v97 :: v98 :: v99 :: v100 :: v101 :: v102 :: v103 :: v104 :: v105 :: v106 :: v107 :: v108 :: v109 :: v110 :: v111 :: v112 :: v113 :: v114 :: v115 :: v116 :: v117 :: v118 :: v119 :: v120 :: v121 :: v122 :: v123 :: v124 :: v125 :: v126 :: v127 :: v128 :: v129 :: v130 :: v131 :: v132 :: v133 :: v134 :: v135 :: v136 :: v137 :: v138 :: v139 :: v140 :: v141 :: v142 :: v143 :: v144 :: v145 :: v146 :: v147 :: v148 :: v149 :: v150 :: v151 :: v152 :: v153 :: v154 :: v155 :: v156 :: v157 :: v158 :: v159 :: v160 :: v161 :: v162 :: v163 :: v164 :: v165 :: v166 :: v167 :: v168 :: v169 :: v170 :: v171 :: v172 :: v173 :: v174 :: v175 :: v176 :: v177 :: v178 :: v179 :: v180 :: v181 :: v182 :: v183 :: v184 :: v185 :: v186 :: v187 :: v188 :: v189 :: v190 :: v191 :: v192 :: v193 :: v194 :: v195 :: v196 :: v197 :: v198 :: v199 :: v200 :: v201 :: v202 :: v203 :: v204 :: v205 :: v206 :: v207 :: v208 :: v209 :: v210 :: v211 :: v212 :: v213 :: v214 :: v215 :: v216 :: v217 :: v218 :: v219 :: v220 :: v221 :: v222 :: v223 :: v224 :: v225 :: v226 :: v227 :: v228 :: v229 :: v230 :: v231 :: v232 :: v233 :: v234 :: v235 :: v236 :: v237 :: v238 :: v239 :: v240 :: v241 :: v242 :: v243 :: v244 :: v245 :: v246 :: v247 :: v248 :: v249 :: v250 :: v251 :: v252 :: v253 :: v254 :: v255 :: v256 :: v257 :: v258 :: v259 :: v260 :: v261 :: v262 :: v263 :: v264 :: v265 :: v266 :: v267 :: v268 :: v269 :: v270 :: v271 :: v272 :: v273 :: v274 :: v275 :: v276 :: v277 :: v278 :: v279 :: v280 :: v281 :: v282 :: v283 :: v284 :: v285 :: v286 :: v287 :: v288 :: v289 :: v290 :: v291 :: v292 :: v293 :: v294 :: v295 :: v296 :: v297 :: v298 :: v299 :: v300 :: v301 :: v302 :: v303 :: v304 :: v305 :: v306 :: v307 :: v308 :: v309 :: v310 :: v311 :: v312 :: v313 :: v314 :: v315 :: v316 :: v317 :: v318 :: v319 :: v320 :: v321 :: v322 :: v323 :: v324 :: v325 :: v326 :: v327 :: v328 :: v329 :: v330 :: v331 :: v332 :: v333 :: v334 :: v335 :: v336 :: v337 :: v338 :: v339 :: v340 :: v341 :: v342 :: v343 :: v344 :: v345 :: v346 :: v347 :: v348 :: v349 :: v350 :: v351 :: v352 :: v353 :: v354 :: v355 :: v356 :: v357 :: v358 :: v359 :: v360 :: v361 :: v362 :: v363 :: v364 :: y365 :: y366 :: y367 :: y368 :: y369 :: y370 :: y371 :: y372 :: y373 :: y374 :: y375 :: y376 :: y377 :: y378 :: y379 :: y380 :: y381 :: y382 :: y383 :: y384 :: y385 :: y386 :: y387 :: y388 :: y389 :: y390 :: y391 :: y392 :: y393 :: y394 :: y395 :: y396 :: y397 :: y398 :: y399 :: y400 :: y401 :: y402 :: y403 :: y404 :: y405 :: y406 :: v407 :: v408 :: v409 :: v410 :: v411 :: v412 :: v413 :: v414 :: v415 :: v416 :: v417 :: v418 :: v419 :: v420 :: v421 :: v422 :: v423 :: v424 :: v425 :: v426 :: v427 :: v428 :: v429 :: v430 :: v431 :: v432 :: v433 :: v434 :: v435 :: v436 :: v437 :: v438 :: v439 :: v440 :: v441 :: v442 :: v443 :: v444 :: v445 :: v446 :: v447 :: v448 :: v449 :: v450 :: v451 :: v452 :: v453 :: v454 :: v455 :: v456 :: v457 :: v458 :: v459 :: v460 :: v461 :: v462 :: v463 :: v464 :: v465 :: v466 :: v467 :: v468 :: v469 :: v470 :: v471 :: []),[]⟩ w')
  (hret:∀(y28 y30 y31 y365 y366 y367 y368 y369 y370 y371 y372 y373 y374 y375 y376 y377 y378 y379 y380 y381 y382 y383 y384 y385 y386 y387 y388 y389 y390 y391 y392 y393 y394 y395 y396 y397 y398 y399 y400 y401 y402 y403 y404 y405 y406:Value) (w':World),(∃x∈owL d ts,sqOk d ts pl x=false)∧Below W.heap.size W w'→Q0 .ret ⟨List.toArray (v0 :: v1 :: .pointer (some ⟨gD,0,none⟩) :: v3 :: .pointer (some ⟨gR,0,none⟩) :: nv :: nv :: .bool false :: nv :: .slice TA m tc :: .int .i64 (perT d) :: .slice DA N dc :: .pointer (some ⟨gL,0,none⟩) :: v13 :: v14 :: .slice (some ⟨gN,0,none⟩) N nc :: v16 :: v17 :: v18 :: .slice (some ⟨gU,0,none⟩) M uc :: v20 :: v21 :: v22 :: v23 :: v24 :: v25 :: v26 :: v27 :: y28 :: .int .i64 (t:Int) :: y30 :: y31 :: v32 :: v33 :: v34 :: v35 :: v36 :: v37 :: v38 :: v39 :: v40 :: v41 :: v42 :: v43 :: v44 :: v45 :: v46 :: v47 :: v48 :: v49 :: v50 :: v51 :: v52 :: v53 :: v54 :: v55 :: v56 :: v57 :: v58 :: v59 :: v60 :: v61 :: v62 :: v63 :: v64 :: v65 :: v66 :: v67 :: v68 :: v69 :: v70 :: v71 :: v72 :: v73 :: v74 :: v75 :: v76 :: v77 :: v78 :: v79 :: v80 :: v81 :: v82 :: v83 :: v84 :: v85 :: v86 :: v87 :: v88 :: v89 :: v90 :: v91 :: v92 :: v93 :: v94 :: v95 :: v96 :: v97 :: v98 :: v99 :: v100 :: v101 :: v102 :: v103 :: v104 :: v105 :: v106 :: v107 :: v108 :: v109 :: v110 :: v111 :: v112 :: v113 :: v114 :: v115 :: v116 :: v117 :: v118 :: v119 :: v120 :: v121 :: v122 :: v123 :: v124 :: v125 :: v126 :: v127 :: v128 :: v129 :: v130 :: v131 :: v132 :: v133 :: v134 :: v135 :: v136 :: v137 :: v138 :: v139 :: v140 :: v141 :: v142 :: v143 :: v144 :: v145 :: v146 :: v147 :: v148 :: v149 :: v150 :: v151 :: v152 :: v153 :: v154 :: v155 :: v156 :: v157 :: v158 :: v159 :: v160 :: v161 :: v162 :: v163 :: v164 :: v165 :: v166 :: v167 :: v168 :: v169 :: v170 :: v171 :: v172 :: v173 :: v174 :: v175 :: v176 :: v177 :: v178 :: v179 :: v180 :: v181 :: v182 :: v183 :: v184 :: v185 :: v186 :: v187 :: v188 :: v189 :: v190 :: v191 :: v192 :: v193 :: v194 :: v195 :: v196 :: v197 :: v198 :: v199 :: v200 :: v201 :: v202 :: v203 :: v204 :: v205 :: v206 :: v207 :: v208 :: v209 :: v210 :: v211 :: v212 :: v213 :: v214 :: v215 :: v216 :: v217 :: v218 :: v219 :: v220 :: v221 :: v222 :: v223 :: v224 :: v225 :: v226 :: v227 :: v228 :: v229 :: v230 :: v231 :: v232 :: v233 :: v234 :: v235 :: v236 :: v237 :: v238 :: v239 :: v240 :: v241 :: v242 :: v243 :: v244 :: v245 :: v246 :: v247 :: v248 :: v249 :: v250 :: v251 :: v252 :: v253 :: v254 :: v255 :: v256 :: v257 :: v258 :: v259 :: v260 :: v261 :: v262 :: v263 :: v264 :: v265 :: v266 :: v267 :: v268 :: v269 :: v270 :: v271 :: v272 :: v273 :: v274 :: v275 :: v276 :: v277 :: v278 :: v279 :: v280 :: v281 :: v282 :: v283 :: v284 :: v285 :: v286 :: v287 :: v288 :: v289 :: v290 :: v291 :: v292 :: v293 :: v294 :: v295 :: v296 :: v297 :: v298 :: v299 :: v300 :: v301 :: v302 :: v303 :: v304 :: v305 :: v306 :: v307 :: v308 :: v309 :: v310 :: v311 :: v312 :: v313 :: v314 :: v315 :: v316 :: v317 :: v318 :: v319 :: v320 :: v321 :: v322 :: v323 :: v324 :: v325 :: v326 :: v327 :: v328 :: v329 :: v330 :: v331 :: v332 :: v333 :: v334 :: v335 :: v336 :: v337 :: v338 :: v339 :: v340 :: v341 :: v342 :: v343 :: v344 :: v345 :: v346 :: v347 :: v348 :: v349 :: v350 :: v351 :: v352 :: v353 :: v354 :: v355 :: v356 :: v357 :: v358 :: v359 :: v360 :: v361 :: v362 :: v363 :: v364 :: y365 :: y366 :: y367 :: y368 :: y369 :: y370 :: y371 :: y372 :: y373 :: y374 :: y375 :: y376 :: y377 :: y378 :: y379 :: y380 :: y381 :: y382 :: y383 :: y384 :: y385 :: y386 :: y387 :: y388 :: y389 :: y390 :: y391 :: y392 :: y393 :: y394 :: y395 :: y396 :: y397 :: y398 :: y399 :: y400 :: y401 :: y402 :: y403 :: y404 :: y405 :: y406 :: v407 :: v408 :: v409 :: v410 :: v411 :: v412 :: v413 :: v414 :: v415 :: v416 :: v417 :: v418 :: v419 :: v420 :: v421 :: v422 :: v423 :: v424 :: v425 :: v426 :: v427 :: v428 :: v429 :: v430 :: v431 :: v432 :: v433 :: v434 :: v435 :: v436 :: v437 :: v438 :: v439 :: v440 :: v441 :: v442 :: v443 :: v444 :: v445 :: v446 :: v447 :: v448 :: v449 :: v450 :: v451 :: v452 :: v453 :: v454 :: v455 :: v456 :: v457 :: v458 :: v459 :: v460 :: v461 :: v462 :: v463 :: v464 :: v465 :: v466 :: v467 :: v468 :: v469 :: v470 :: v471 :: []),[]⟩ ((((w'.setCell ⟨gR,0,none⟩ (.int .i64 0)).setCell ⟨gR,1,none⟩ (.slice none 0 0)).setCell ⟨gR,2,none⟩ (.slice none 0 0)).setCell ⟨gR,3,none⟩ (.slice none 0 0)))
  : Code.wp Tryz.prog (loopD (loopAt Tryz.f29 3) 0) Q0 ⟨List.toArray (v0 :: v1 :: .pointer (some ⟨gD,0,none⟩) :: v3 :: .pointer (some ⟨gR,0,none⟩) :: v5 :: v6 :: v7 :: nv :: .slice TA m tc :: .int .i64 (perT d) :: .slice DA N dc :: .pointer (some ⟨gL,0,none⟩) :: v13 :: v14 :: .slice (some ⟨gN,0,none⟩) N nc :: v16 :: v17 :: v18 :: .slice (some ⟨gU,0,none⟩) M uc :: v20 :: v21 :: v22 :: v23 :: v24 :: v25 :: v26 :: v27 :: .int .i64 (s:Int) :: .int .i64 (t:Int) :: .int .i64 0 :: v31 :: v32 :: v33 :: v34 :: v35 :: v36 :: v37 :: v38 :: v39 :: v40 :: v41 :: v42 :: v43 :: v44 :: v45 :: v46 :: v47 :: v48 :: v49 :: v50 :: v51 :: v52 :: v53 :: v54 :: v55 :: v56 :: v57 :: v58 :: v59 :: v60 :: v61 :: v62 :: v63 :: v64 :: v65 :: v66 :: v67 :: v68 :: v69 :: v70 :: v71 :: v72 :: v73 :: v74 :: v75 :: v76 :: v77 :: v78 :: v79 :: v80 :: v81 :: v82 :: v83 :: v84 :: v85 :: v86 :: v87 :: v88 :: v89 :: v90 :: v91 :: v92 :: v93 :: v94 :: v95 :: v96 :: v97 :: v98 :: v99 :: v100 :: v101 :: v102 :: v103 :: v104 :: v105 :: v106 :: v107 :: v108 :: v109 :: v110 :: v111 :: v112 :: v113 :: v114 :: v115 :: v116 :: v117 :: v118 :: v119 :: v120 :: v121 :: v122 :: v123 :: v124 :: v125 :: v126 :: v127 :: v128 :: v129 :: v130 :: v131 :: v132 :: v133 :: v134 :: v135 :: v136 :: v137 :: v138 :: v139 :: v140 :: v141 :: v142 :: v143 :: v144 :: v145 :: v146 :: v147 :: v148 :: v149 :: v150 :: v151 :: v152 :: v153 :: v154 :: v155 :: v156 :: v157 :: v158 :: v159 :: v160 :: v161 :: v162 :: v163 :: v164 :: v165 :: v166 :: v167 :: v168 :: v169 :: v170 :: v171 :: v172 :: v173 :: v174 :: v175 :: v176 :: v177 :: v178 :: v179 :: v180 :: v181 :: v182 :: v183 :: v184 :: v185 :: v186 :: v187 :: v188 :: v189 :: v190 :: v191 :: v192 :: v193 :: v194 :: v195 :: v196 :: v197 :: v198 :: v199 :: v200 :: v201 :: v202 :: v203 :: v204 :: v205 :: v206 :: v207 :: v208 :: v209 :: v210 :: v211 :: v212 :: v213 :: v214 :: v215 :: v216 :: v217 :: v218 :: v219 :: v220 :: v221 :: v222 :: v223 :: v224 :: v225 :: v226 :: v227 :: v228 :: v229 :: v230 :: v231 :: v232 :: v233 :: v234 :: v235 :: v236 :: v237 :: v238 :: v239 :: v240 :: v241 :: v242 :: v243 :: v244 :: v245 :: v246 :: v247 :: v248 :: v249 :: v250 :: v251 :: v252 :: v253 :: v254 :: v255 :: v256 :: v257 :: v258 :: v259 :: v260 :: v261 :: v262 :: v263 :: v264 :: v265 :: v266 :: v267 :: v268 :: v269 :: v270 :: v271 :: v272 :: v273 :: v274 :: v275 :: v276 :: v277 :: v278 :: v279 :: v280 :: v281 :: v282 :: v283 :: v284 :: v285 :: v286 :: v287 :: v288 :: v289 :: v290 :: v291 :: v292 :: v293 :: v294 :: v295 :: v296 :: v297 :: v298 :: v299 :: v300 :: v301 :: v302 :: v303 :: v304 :: v305 :: v306 :: v307 :: v308 :: v309 :: v310 :: v311 :: v312 :: v313 :: v314 :: v315 :: v316 :: v317 :: v318 :: v319 :: v320 :: v321 :: v322 :: v323 :: v324 :: v325 :: v326 :: v327 :: v328 :: v329 :: v330 :: v331 :: v332 :: v333 :: v334 :: v335 :: v336 :: v337 :: v338 :: v339 :: v340 :: v341 :: v342 :: v343 :: v344 :: v345 :: v346 :: v347 :: v348 :: v349 :: v350 :: v351 :: v352 :: v353 :: v354 :: v355 :: v356 :: v357 :: v358 :: v359 :: v360 :: v361 :: v362 :: v363 :: v364 :: v365 :: v366 :: v367 :: v368 :: v369 :: v370 :: v371 :: v372 :: v373 :: v374 :: v375 :: v376 :: v377 :: v378 :: v379 :: v380 :: v381 :: v382 :: v383 :: v384 :: v385 :: v386 :: v387 :: v388 :: v389 :: v390 :: v391 :: v392 :: v393 :: v394 :: v395 :: v396 :: v397 :: v398 :: v399 :: v400 :: v401 :: v402 :: v403 :: v404 :: v405 :: v406 :: v407 :: v408 :: v409 :: v410 :: v411 :: v412 :: v413 :: v414 :: v415 :: v416 :: v417 :: v418 :: v419 :: v420 :: v421 :: v422 :: v423 :: v424 :: v425 :: v426 :: v427 :: v428 :: v429 :: v430 :: v431 :: v432 :: v433 :: v434 :: v435 :: v436 :: v437 :: v438 :: v439 :: v440 :: v441 :: v442 :: v443 :: v444 :: v445 :: v446 :: v447 :: v448 :: v449 :: v450 :: v451 :: v452 :: v453 :: v454 :: v455 :: v456 :: v457 :: v458 :: v459 :: v460 :: v461 :: v462 :: v463 :: v464 :: v465 :: v466 :: v467 :: v468 :: v469 :: v470 :: v471 :: []),[]⟩ w:=by
 clear _hM
 have htl:=hT.tlen
 have htq:=tiles_eq hc.dev
 have hcl:=hc.len
 have hti:tileIn d (t:Int)=true:=tileIn_iff.2 ⟨hc.dev,by omega,by omega⟩
 have hpb:=perT_bd hc.dev
 have hs72:s≤72:=by have:=owTo_length d ts t;omega
 have HD:=Lib.hid hD
 have HRR:=Lib.hid hR
 have HX:=Lib.hid hexit
 have HZ:=Lib.hid hret
 have HTK:=Lib.hid (fun w'=>stileKind_in d (t:Int) w' hti)
 have lD0:=heap_lt0 hD
 have i0:(0:Int)≤(t:Int):=by omega
 have i1:(t:Int)<(m:Int):=by omega
 have i3:(t:Int)≤36:=by omega
 by_cases hK:kindOf d (t:Int)=2
 ·have HOA:Hid (owAt d ts t=[2 * (t:Int)]):=by show _=_;rw [owAt,if_neg (by omega),if_pos hK]
  have HSE:Hid ((owTo d ts (t+1)).length=s+1):=by show _=_;rw [owTo,HOA.out,List.length_append,←hs];rfl
  have hx:(owL d ts)[s]?=some (2 * (t:Int)):=by
   have:=owL_at (d:=d) (ts:=ts) (k:=t) (by omega) [] [] (2 * (t:Int)) HOA.out
   rwa [List.append_nil,←hs] at this
  have h22:2 * (t:Int) / 2=(t:Int):=by omega
  generalize hxx:2 * (t:Int)=x at *
  have HXX:=Lib.hid hx
  have HQI:Hid ((sq0 d ts x).ins=[]):=by show _=_;rw [sq0,h22,if_pos hK]
  have HQ2:Hid ({ sq0 d ts x with ins:=ramIn d ts pl x 4 }=sqOf d ts pl x):=by show _=_;rw [sqOf,sqI,h22,if_pos hK]
  have HOKD:Hid (sqOk d ts pl x=ramOk d ts pl x):=by show _=_;rw [sqOk,h22,decide_eq_true hK];rfl
  have HQ0:Hid ({ sq0 d ts x with ins:=ramIn d ts pl x 0 }=sq0 d ts x):=by show _=_;rw [show ramIn d ts pl x 0=(sq0 d ts x).ins from HQI.out.symm]
  have HRS:Hid (∀j:Nat,ramIn d ts pl x (j+1)=ramIn d ts pl x j++[tr d ts pl ((t:Int) * perT d+(j:Int))]):=fun j=>by unfold ramIn;rw [List.range_succ,List.map_append,h22];rfl
  have HRO:Hid (∀j:Nat,j<4→tr d ts pl ((t:Int) * perT d+(j:Int))<0→ramOk d ts pl x=false):=fun j hj hn=>by unfold ramOk;rw [List.all_eq_false];exact ⟨j,List.mem_range.2 hj,by rw [h22];simp;omega⟩
  have HRY:Hid ((∀j:Nat,j<4→0≤tr d ts pl ((t:Int) * perT d+(j:Int)))→ramOk d ts pl x=true):=fun hn=>by unfold ramOk;rw [List.all_eq_true];exact fun j hj=>decide_eq_true (by rw [h22];exact hn j (List.mem_range.1 hj))
  have HGX:=Lib.hid (sqMid_get (pl:=pl) hx)
  have HMX:=Lib.hid (sqMid_set (pl:=pl) hx)
  have HTRC:=Lib.hid (fun (j:Nat) (hj:j<4) (w':World) (hd:Ints w' DA N (drvTo d ts N)) (hxx:Ints w' (some ⟨gN,0,none⟩) N ((List.range N).map (F3 d ts pl)))=>(by
   have h:=node_at (k:=(j:Int)) hti (by omega) (by omega)
   exact l42Trace_any d ts pl N DA dc _ nc _ ((t:Int) * perT d+(j:Int)) w' hd hxx hN hc (F3_ok hN) h.1 fun hp=>by rw [h.2.2] at hp;omega:Calls Tryz.prog 70 #[.slice DA N dc,.int .i64 (perT d),.slice (some ⟨gN,0,none⟩) N nc,.int .i64 ((t:Int) * perT d+(j:Int))] w' fun e w''=>e = .returned (.int .i64 (tr d ts pl ((t:Int) * perT d+(j:Int))))∧w'=w''))
  have HDR:=Lib.hid hDr
  have hmul0:0≤(t:Int) * perT d:=Int.mul_nonneg (by omega) (by omega)
  have hmul1:(t:Int) * perT d≤36 * 23:=Int.mul_le_mul (by omega) (by omega) (by omega) (by omega)
  have HS0:=Lib.hid (show Sepa W w (.cel (celI ((List.range N).map (F3 d ts pl))) (.slice (some ⟨gN,0,none⟩) N nc) :: pI :: pO :: lnBlk gL In (.slice SA sn sc) Lv Ov :: pA :: .cel (celSq ((sqMid d ts pl s).set s { sq0 d ts x with ins:=ramIn d ts pl x 0 })) (.slice SA sn sc) :: pQ :: .cel (celI ((List.range M).map fun (y:Nat)=>numF (ltB d ts) pl (y:Int))) (.slice (some ⟨gU,0,none⟩) M uc) :: rs) from by rw [HQ0.out,set_same HGX.out];exact S)
  have hsn:=OwnC.sqLen (S.rd 5 rfl)
  rw [sqMid_length] at hsn
  have hssn:s<sn:=by have:=(List.getElem?_eq_some_iff.1 hx).1;omega
  have hg:=(S.num 5 rfl (i:=s * 3+0) ((flatS_at Sq.cells_length HGX.out (by omega)).trans rfl)).choose_spec.1
  obtain ⟨gS,hSA⟩:∃g:Nat,SA=some ⟨g,0,none⟩:=⟨_,hg⟩
  subst hSA
  have HK2:Hid (kindOf d (t:Int)=2):=hK
  rw [hK] at HTK
  have s0:(0:Int)≤(s:Int):=by omega
  have s1:(s:Int)<(sn:Int):=by omega
  have HSS:=Lib.hid hs
  clear hT hN hc hD hR hDr hs S hexit hret htl htq hcl hti hx hg hsn h22
  conv=>arg 2;whnf
  go_loopw [28,30] (fun sv jv wr=>∃(j:Nat),j≤4∧jv = .int .i64 (j:Int)∧sv = .int .i64 (if j=4 then (s:Int)+1 else (s:Int))∧(∀i:Nat,i<j→0≤tr d ts pl ((t:Int) * perT d+(i:Int)))∧Sepa W wr (.cel (celI ((List.range N).map (F3 d ts pl))) (.slice (some ⟨gN,0,none⟩) N nc) :: pI :: pO :: lnBlk gL In (.slice (some ⟨gS,0,none⟩) sn sc) Lv Ov :: pA :: .cel (celSq ((sqMid d ts pl s).set s { sq0 d ts x with ins:=ramIn d ts pl x j })) (.slice (some ⟨gS,0,none⟩) sn sc) :: pQ :: .cel (celI ((List.range M).map fun (y:Nat)=>numF (ltB d ts) pl (y:Int))) (.slice (some ⟨gU,0,none⟩) M uc) :: rs)) (fun _ jv _=>4 - (intOf jv).toNat)
  case atStart=>exact ⟨0,by omega,rfl,rfl,fun i hi=>by omega,HS0.out⟩
  case round =>
   obtain ⟨j,hj,rfl,rfl,hal,hs⟩:=hrel
   have HAL:=Lib.hid hal
   have HS1:=Lib.hid hs
   have hD':=heap_tr hs.bel HD.out
   have d0:=cell_heap (k:=0) hD' rfl
   have d1:=cell_heap (k:=1) hD' rfl
   have d2:=cell_heap (k:=2) hD' rfl
   have d3:=cell_heap (k:=3) hD' rfl
   have lD:=heap_lt0 hD'
   clear hD'
   clear hal hs
   by_cases hlt2:j<4
   ·have hdj:decide ((j:Int)<4)=true:=by simp;omega
    have hsj:(if j=4 then (s:Int)+1 else (s:Int))=(s:Int):=if_neg (by omega)
    rw [hsj]
    have hrs:=HRS.out j
    have hro:=HRO.out j hlt2
    have HAL2:=Lib.hid (fun h=>all_succ HAL.out h)
    have HTJ:=Lib.hid (fun w' hd hx=>HTRC.out j hlt2 w' hd hx)
    have j0:(0:Int)≤(j:Int):=by omega
    have j1:(j:Int)<4:=by omega
    clear hsj
    generalize tr d ts pl ((t:Int) * perT d+(j:Int))=X at *
    have HRSJ:=Lib.hid hrs
    have HROJ:=Lib.hid hro
    clear hrs hro HRO HRS
    generalize perT d=Q at *
    go_wp2_with fail
    refine (HTK.out _).mono ?_
    rintro _ w1 ⟨rfl,b1⟩
    have HS2:=Lib.hid (HS1.out.below b1)
    clear b1 d0 d1 d2 d3 lD
    go_wp2_with fail
    refine (HTJ.out _ (HDR.out.below HS2.out.bel) (HS2.out.ints 0 rfl)).mono ?_
    rintro _ w2 ⟨rfl,rfl⟩
    by_cases hx:0≤X
    ·have hdx:decide (X<0)=false:=by simp;omega
     have HXP:=Lib.hid hx
     clear hx
     go_upto_region 74 with fail
     have hgm:=(List.getElem?_set_self (l:=sqMid d ts pl s) (i:=s) (a:={ sq0 d ts x with ins:=ramIn d ts pl x j }) (List.getElem?_eq_some_iff.1 HGX.out).1)
     have hm2:=(flatS_at Sq.cells_length hgm (j:=2) (by omega)).trans rfl
     obtain ⟨JA,jl,jc,hcj,hjl,-,hgz⟩:=HS2.out.rowSlice 5 (s * 3+2) rfl hm2
     have hjl4:jl≤4:=by rw [←hjl];show (ramIn d ts pl x j).length≤4;unfold ramIn;simp;omega
     have l1:=cell_heap (k:=1) (HS2.out.blk 3 rfl).1 rfl
     have lL:=heap_lt0 (HS2.out.blk 3 rfl).1
     have HM2:=Lib.hid hm2
     have HCJ:=Lib.hid ((World.cell?_of_block (a:=⟨gS,s * 3+2,none⟩) (Below.heap_alloc w1 (.cells #[.int .i64 X] 3) gS hgz)).trans hcj)
     have HEQ:=Lib.hid (flatS_set Sq.cells_length (y:={ sq0 d ts x with ins:=ramIn d ts pl x j++[X] }) (c:=celI (ramIn d ts pl x j++[X])) hgm (j:=2) (by omega) rfl)
     clear hgm hm2 hjl
     go_cut [] from 389 to 402 (fun wx=>Sepa W wx (.cel (celI ((List.range N).map (F3 d ts pl))) (.slice (some ⟨gN,0,none⟩) N nc) :: pI :: pO :: lnBlk gL In (.slice (some ⟨gS,0,none⟩) sn sc) Lv Ov :: pA :: .cel (celSq ((sqMid d ts pl s).set s { sq0 d ts x with ins:=ramIn d ts pl x (j+1) })) (.slice (some ⟨gS,0,none⟩) sn sc) :: pQ :: .cel (celI ((List.range M).map fun (y:Nat)=>numF (ltB d ts) pl (y:Int))) (.slice (some ⟨gU,0,none⟩) M uc) :: rs))
     case first =>
      refine wp_region_noPanic ?_
      go_region_law ((refine step_slotPush rfl _ _ (by rfl) _ (HS2.out.alloc _).drew 5 (s * 3+2) gS _ _ sn sc _ (ramIn d ts pl x j) X JA jl jc _ (0,0) rfl HM2.out HCJ.out (by rfl) (by rfl) (heap_new w1 _) (by omega) ?_);intro g2 cap w3 hS1 ⟨vv,hvv⟩ hff3 hgg hzz hSf;have l13:=cell_heap (k:=1) (hS1.blk 3 rfl).1 rfl;have lL3:=heap_lt0 (hS1.blk 3 rfl).1;have HSF:=Lib.hid hSf;clear hS1 hSf hzz)
      all_goals
       refine NoPanic.normal ?_
       have h9:=HSF.out
       rw [HEQ.out,List.set_set,←HRSJ.out] at h9
       have H9:=Lib.hid h9
       clear h9 HSF
       go_wp2_with fail
       go_meet
       exact H9.out
     have H9:=Lib.hid hcut
     clear hcut hcj hgz l1 lL
     by_cases hj3:j=3
     ·subst hj3
      go_wp2_with fail
      go_roundw
      case rel=>exact ⟨4,by omega,by go_num,rfl,HAL2.out HXP.out,H9.out⟩
      case measure=>simp [intOf]
     ·have hd3:(j:Int).tdiv 3=0:=by rw [Int.tdiv_eq_ediv_of_nonneg j0];omega
      have hw3:IntKind.i64.wrap ((j:Int).tdiv 3)=0:=by rw [hd3];rfl
      go_wp2_with fail
      go_roundw
      case rel=>exact ⟨j+1,by omega,by go_num,by rw [if_neg (by omega)],HAL2.out HXP.out,H9.out⟩
      case measure=>simp [intOf];omega
    ·have hdx:decide (X<0)=true:=by simp;omega
     have hR':=heap_tr HS2.out.bel HRR.out
     have r0:=cell_heap (k:=0) hR' rfl
     have r1:=cell_heap (k:=1) hR' rfl
     have r2:=cell_heap (k:=2) hR' rfl
     have r3:=cell_heap (k:=3) hR' rfl
     have f0:=frozen_heap hR' 0
     have f1:=frozen_heap hR' 1
     have f2:=frozen_heap hR' 2
     have f3:=frozen_heap hR' 3
     have lR:=heap_lt0 hR'
     clear hR'
     have HEX:Hid (∃y∈owL d ts,sqOk d ts pl y=false):=⟨x,List.mem_of_getElem? HXX.out,by rw [HOKD.out];exact HROJ.out (by omega)⟩
     clear hx
     go_wp2_with fail
     apply HZ.out
     exact ⟨HEX.out,HS2.out.bel⟩
   ·have hj4:j=4:=by omega
    subst hj4
    have HOK:Hid (sqOk d ts pl x=true):=by show _=_;rw [HOKD.out];exact HRY.out HAL.out
    have HS9:=Lib.hid (show Sepa W wr (.cel (celI ((List.range N).map (F3 d ts pl))) (.slice (some ⟨gN,0,none⟩) N nc) :: pI :: pO :: lnBlk gL In (.slice (some ⟨gS,0,none⟩) sn sc) Lv Ov :: pA :: .cel (celSq (sqMid d ts pl (owTo d ts (t+1)).length)) (.slice (some ⟨gS,0,none⟩) sn sc) :: pQ :: .cel (celI ((List.range M).map fun (y:Nat)=>numF (ltB d ts) pl (y:Int))) (.slice (some ⟨gU,0,none⟩) M uc) :: rs) from by rw [HSE.out,←HMX.out,←HQ2.out];exact HS1.out)
    have HS2E:Hid ((if (4:Nat)=4 then (s:Int)+1 else (s:Int))=(((owTo d ts (t+1)).length:Nat):Int)):=by show _=_;rw [HSE.out];rfl
    rw [HS2E.out]
    clear d0 d1 d2 d3 lD
    go_wp2_with fail
    apply HX.out
    exact ⟨by rw [if_pos HK2.out],fun _=>HOK.out,HS9.out⟩
 ·have hK2:(kindOf d (t:Int)==2)=false:=by simp [hK]
  have HK:=Lib.hid hK
  have HS:=Lib.hid S
  clear hT hN hc hDr hs S hexit hret htl htq hcl hti hR hK
  generalize kindOf d (t:Int)=K at *
  conv=>arg 2;whnf
  go_loopw [28,30] (fun sv jv wr=>sv = .int .i64 (s:Int)∧jv = .int .i64 0∧Sepa W wr (.cel (celI ((List.range N).map (F3 d ts pl))) (.slice (some ⟨gN,0,none⟩) N nc) :: pI :: pO :: lnBlk gL In (.slice SA sn sc) Lv Ov :: pA :: .cel (celSq (sqMid d ts pl s)) (.slice SA sn sc) :: pQ :: .cel (celI ((List.range M).map fun (y:Nat)=>numF (ltB d ts) pl (y:Int))) (.slice (some ⟨gU,0,none⟩) M uc) :: rs)) (fun _ _ _=>0)
  case atStart=>exact ⟨rfl,rfl,HS.out⟩
  case round =>
   obtain ⟨rfl,rfl,hs⟩:=hrel
   have HS1:=Lib.hid hs
   have hD':=heap_tr hs.bel HD.out
   have d0:=cell_heap (k:=0) hD' rfl
   have d1:=cell_heap (k:=1) hD' rfl
   have d2:=cell_heap (k:=2) hD' rfl
   have d3:=cell_heap (k:=3) hD' rfl
   have lD:=heap_lt0 hD'
   clear hD'
   clear hs
   go_wp2_with fail
   refine (HTK.out _).mono ?_
   rintro _ w1 ⟨rfl,b1⟩
   have HS2:=Lib.hid (HS1.out.below b1)
   clear b1 d0 d1 d2 d3 lD
   go_wp2_with fail
   apply HX.out
   exact ⟨by rw [if_neg HK.out],fun h=>absurd h HK.out,HS2.out⟩
end Go.Proofs.YtignkfhdkcgkgaaGreat
