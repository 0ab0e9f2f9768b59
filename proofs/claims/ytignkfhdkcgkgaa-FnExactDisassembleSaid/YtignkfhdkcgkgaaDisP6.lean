/- The last loop of the program's Disassemble: the outputs (printed by mkdisp.py). -/
import Derived.Test.YtignkfhdkcgkgaaSepN
namespace Go.Proofs.Ytignkfhdkcgkgaa
set_option maxRecDepth 100000
open Go.RowKit

set_option maxRecDepth 100000 in
set_option maxHeartbeats 8000000 in
theorem dis_lp6 (W:World) (gR gD gT g gI gF gM gL:Nat) (d:Dev) (ts:List Tile) (TA:Option Addr) (m tc:Nat) (EA DA:Option Addr) (N:Nat) (In:Int) (Sv Lv:Value) (pl:List Int) (UA:Option Addr) (un uc:Nat) (pA pB pi:Pc) (rs:List Pc) {v0 v1 v3 v5 v6 v7 v10 v11 v12 v13 v14 v15 v16 v17 v18 v19 v20 v21 v22 v23 v24 v25 v26 v27 v28 v29 v30 v31 v32 v33 v34 v35 v36 v37 v38 v39 v40 v41 v42 v43 v44 v45 v46 v47 v48 v49 v50 v51 v52 v53 v54 v55 v56 v57 v58 v59 v60 v61 v62 v63 v64 v65 v66 v67 v68 v69 v70 v71 v72 v73 v74 v75 v76 v77 v78 v79 v80 v81 v82 v83 v84 v85 v86 v87 v88 v89 v90 v91 v92 v93 v94 v95 v96 v97 v98 v99 v100 v101 v102 v103 v104 v105 v106 v107 v108 v109 v110 v111 v112 v113 v114 v115 v116 v117 v118 v119 v120 v121 v122 v123 v124 v125 v126 v127 v128 v129 v130 v131 v132 v133 v134 v135 v136 v137 v138 v139 v140 v141 v142 v143 v144 v145 v146 v147 v148 v149 v150 v151 v152 v153 v154 v155 v156 v157 v158 v159 v160 v161 v162 v163 v164 v165 v166 v167 v168 v169 v170 v171 v172 v173 v174 v175 v176 v177 v178 v179 v180 v181 v182 v183 v184 v185 v186 v187 v188 v189 v190 v191 v192 v193 v194 v195 v196 v197 v198 v199 v200 v201 v202 v203 v204 v205 v206 v207 v208 v209 v210 v211 v212 v213 v214 v215 v216 v217 v218 v219 v220 v221 v222 v223 v224 v225 v226 v227 v228 v229 v230 v231 v232 v233 v234 v235 v236 v237 v238 v239 v240 v241 v242 v243 v244 v245 v246 v250 v251 v252 v253 v254 v255 v256 v257 v258 v259 v260 v261 v262 v263 v264 v265 v266 v267 v268 v269 v270 v271 v272 v273 v274:Value} {Q0:Exit→Act→World→Prop} (w:World) (hE:EmuAt W g d ts TA m tc EA DA N) (hN:(N:Int)=nodesOf d) (hc:CfgOk d ts) (hD:W.heap[gD]?=some (.cells #[.int .i64 d.W,.int .i64 d.H,.int .i64 d.T,.int .i64 d.R] 33 (0,0))) (hR:W.heap[gR]?=some (.cells #[.int .i64 0,.slice none 0 0,.slice none 0 0,.slice none 0 0] 30 (0,0))) (S:Sepa W w (trBlk gT g gI gF gM :: numPc gI 1 (insL d ts) :: numPc gF (sqB d ts) (owL d ts) :: numPc gM (ltB d ts) pl :: lnBlk gL In Sv Lv (.slice none 0 0) :: pA :: pB :: .cel (celI ([])) (.slice none 0 0) :: pi :: .cel (celI (outL d ts)) (.slice UA un uc) :: rs))
  (hexit:∀(OA:Option Addr) (oc:Nat) (y5 y6 y7 y25 y26 y27 y249 y250 y251 y252 y253 y254 y255 y256 y257 y258 y259 y260 y261 y262 y263 y264 y265 y266 y267 y268 y269 y270 y271:Value) (w':World),(∀t∈outL d ts,0≤outN d ts pl t)∧Sepa W w' (trBlk gT g gI gF gM :: numPc gI 1 (insL d ts) :: numPc gF (sqB d ts) (owL d ts) :: numPc gM (ltB d ts) pl :: lnBlk gL In Sv Lv (.slice OA (outL d ts).length oc) :: pA :: pB :: .cel (celI ((outL d ts).map (outN d ts pl))) (.slice OA (outL d ts).length oc) :: pi :: .cel (celI (outL d ts)) (.slice UA un uc) :: rs)→Q0 (.exit 11) ⟨List.toArray (v0 :: v1 :: .pointer (some ⟨gD,0,none⟩) :: v3 :: .pointer (some ⟨gR,0,none⟩) :: y5 :: y6 :: y7 :: .pointer (some ⟨gT,0,none⟩) :: .pointer (some ⟨gL,0,none⟩) :: v10 :: v11 :: v12 :: v13 :: v14 :: v15 :: v16 :: v17 :: v18 :: v19 :: v20 :: v21 :: v22 :: v23 :: v24 :: y25 :: y26 :: y27 :: v28 :: v29 :: v30 :: v31 :: v32 :: v33 :: v34 :: v35 :: v36 :: v37 :: v38 :: v39 :: v40 :: v41 :: v42 :: v43 :: v44 :: v45 :: v46 :: v47 :: v48 :: v49 :: v50 :: v51 :: v52 :: v53 :: v54 :: v55 :: v56 :: v57 :: v58 :: v59 :: v60 :: v61 :: v62 :: v63 :: v64 :: v65 :: v66 :: v67 :: v68 :: v69 :: v70 :: v71 :: v72 :: v73 :: v74 :: v75 :: v76 :: v77 :: v78 :: v79 :: v80 :: v81 :: v82 :: v83 :: v84 :: v85 :: v86 :: v87 :: v88 :: v89 :: v90 :: v91 :: v92 :: v93 :: v94 :: v95 :: v96 :: v97 :: v98 :: v99 :: v100 :: v101 :: v102 :: v103 :: v104 :: v105 :: v106 :: v107 :: v108 :: v109 :: v110 :: v111 :: v112 :: v113 :: v114 :: v115 :: v116 :: v117 :: v118 :: v119 :: v120 :: v121 :: v122 :: v123 :: v124 :: v125 :: v126 :: v127 :: v128 :: v129 :: v130 :: v131 :: v132 :: v133 :: v134 :: v135 :: v136 :: v137 :: v138 :: v139 :: v140 :: v141 :: v142 :: v143 :: v144 :: v145 :: v146 :: v147 :: v148 :: v149 :: v150 :: v151 :: v152 :: v153 :: v154 :: v155 :: v156 :: v157 :: v158 :: v159 :: v160 :: v161 :: v162 :: v163 :: v164 :: v165 :: v166 :: v167 :: v168 :: v169 :: v170 :: v171 :: v172 :: v173 :: v174 :: v175 :: v176 :: v177 :: v178 :: v179 :: v180 :: v181 :: v182 :: v183 :: v184 :: v185 :: v186 :: v187 :: v188 :: v189 :: v190 :: v191 :: v192 :: v193 :: v194 :: v195 :: v196 :: v197 :: v198 :: v199 :: v200 :: v201 :: v202 :: v203 :: v204 :: v205 :: v206 :: v207 :: v208 :: v209 :: v210 :: v211 :: v212 :: v213 :: v214 :: v215 :: v216 :: v217 :: v218 :: v219 :: v220 :: v221 :: v222 :: v223 :: v224 :: v225 :: v226 :: v227 :: v228 :: v229 :: v230 :: v231 :: v232 :: v233 :: v234 :: v235 :: v236 :: v237 :: v238 :: v239 :: v240 :: v241 :: v242 :: v243 :: v244 :: v245 :: v246 :: .slice UA un uc :: .int .i64 (un:Int) :: y249 :: y250 :: y251 :: y252 :: y253 :: y254 :: y255 :: y256 :: y257 :: y258 :: y259 :: y260 :: y261 :: y262 :: y263 :: y264 :: y265 :: y266 :: y267 :: y268 :: y269 :: y270 :: y271 :: v272 :: v273 :: v274 :: []),[]⟩ w')
  (hret:∀(y25 y26 y27 y249 y250 y251 y252 y253 y254 y255 y256 y257 y258 y259 y260 y261 y262 y263 y264 y265 y266 y267 y268 y269 y270 y271:Value) (w':World),(∃t∈outL d ts,outN d ts pl t<0)∧Below W.heap.size W w'→Q0 .ret ⟨List.toArray (v0 :: v1 :: .pointer (some ⟨gD,0,none⟩) :: v3 :: .pointer (some ⟨gR,0,none⟩) :: .slice none 0 0 :: .slice none 0 0 :: .bool false :: .pointer (some ⟨gT,0,none⟩) :: .pointer (some ⟨gL,0,none⟩) :: v10 :: v11 :: v12 :: v13 :: v14 :: v15 :: v16 :: v17 :: v18 :: v19 :: v20 :: v21 :: v22 :: v23 :: v24 :: y25 :: y26 :: y27 :: v28 :: v29 :: v30 :: v31 :: v32 :: v33 :: v34 :: v35 :: v36 :: v37 :: v38 :: v39 :: v40 :: v41 :: v42 :: v43 :: v44 :: v45 :: v46 :: v47 :: v48 :: v49 :: v50 :: v51 :: v52 :: v53 :: v54 :: v55 :: v56 :: v57 :: v58 :: v59 :: v60 :: v61 :: v62 :: v63 :: v64 :: v65 :: v66 :: v67 :: v68 :: v69 :: v70 :: v71 :: v72 :: v73 :: v74 :: v75 :: v76 :: v77 :: v78 :: v79 :: v80 :: v81 :: v82 :: v83 :: v84 :: v85 :: v86 :: v87 :: v88 :: v89 :: v90 :: v91 :: v92 :: v93 :: v94 :: v95 :: v96 :: v97 :: v98 :: v99 :: v100 :: v101 :: v102 :: v103 :: v104 :: v105 :: v106 :: v107 :: v108 :: v109 :: v110 :: v111 :: v112 :: v113 :: v114 :: v115 :: v116 :: v117 :: v118 :: v119 :: v120 :: v121 :: v122 :: v123 :: v124 :: v125 :: v126 :: v127 :: v128 :: v129 :: v130 :: v131 :: v132 :: v133 :: v134 :: v135 :: v136 :: v137 :: v138 :: v139 :: v140 :: v141 :: v142 :: v143 :: v144 :: v145 :: v146 :: v147 :: v148 :: v149 :: v150 :: v151 :: v152 :: v153 :: v154 :: v155 :: v156 :: v157 :: v158 :: v159 :: v160 :: v161 :: v162 :: v163 :: v164 :: v165 :: v166 :: v167 :: v168 :: v169 :: v170 :: v171 :: v172 :: v173 :: v174 :: v175 :: v176 :: v177 :: v178 :: v179 :: v180 :: v181 :: v182 :: v183 :: v184 :: v185 :: v186 :: v187 :: v188 :: v189 :: v190 :: v191 :: v192 :: v193 :: v194 :: v195 :: v196 :: v197 :: v198 :: v199 :: v200 :: v201 :: v202 :: v203 :: v204 :: v205 :: v206 :: v207 :: v208 :: v209 :: v210 :: v211 :: v212 :: v213 :: v214 :: v215 :: v216 :: v217 :: v218 :: v219 :: v220 :: v221 :: v222 :: v223 :: v224 :: v225 :: v226 :: v227 :: v228 :: v229 :: v230 :: v231 :: v232 :: v233 :: v234 :: v235 :: v236 :: v237 :: v238 :: v239 :: v240 :: v241 :: v242 :: v243 :: v244 :: v245 :: v246 :: .slice UA un uc :: .int .i64 (un:Int) :: y249 :: y250 :: y251 :: y252 :: y253 :: y254 :: y255 :: y256 :: y257 :: y258 :: y259 :: y260 :: y261 :: y262 :: y263 :: y264 :: y265 :: y266 :: y267 :: y268 :: y269 :: y270 :: y271 :: v272 :: v273 :: v274 :: []),[]⟩ ((((w'.setCell ⟨gR,0,none⟩ (.int .i64 0)).setCell ⟨gR,1,none⟩ (.slice none 0 0)).setCell ⟨gR,2,none⟩ (.slice none 0 0)).setCell ⟨gR,3,none⟩ (.slice none 0 0)))
  : Code.wp Try.prog (loopAt Try.f8 3) Q0 ⟨List.toArray (v0 :: v1 :: .pointer (some ⟨gD,0,none⟩) :: v3 :: .pointer (some ⟨gR,0,none⟩) :: v5 :: v6 :: v7 :: .pointer (some ⟨gT,0,none⟩) :: .pointer (some ⟨gL,0,none⟩) :: v10 :: v11 :: v12 :: v13 :: v14 :: v15 :: v16 :: v17 :: v18 :: v19 :: v20 :: v21 :: v22 :: v23 :: v24 :: v25 :: v26 :: v27 :: v28 :: v29 :: v30 :: v31 :: v32 :: v33 :: v34 :: v35 :: v36 :: v37 :: v38 :: v39 :: v40 :: v41 :: v42 :: v43 :: v44 :: v45 :: v46 :: v47 :: v48 :: v49 :: v50 :: v51 :: v52 :: v53 :: v54 :: v55 :: v56 :: v57 :: v58 :: v59 :: v60 :: v61 :: v62 :: v63 :: v64 :: v65 :: v66 :: v67 :: v68 :: v69 :: v70 :: v71 :: v72 :: v73 :: v74 :: v75 :: v76 :: v77 :: v78 :: v79 :: v80 :: v81 :: v82 :: v83 :: v84 :: v85 :: v86 :: v87 :: v88 :: v89 :: v90 :: v91 :: v92 :: v93 :: v94 :: v95 :: v96 :: v97 :: v98 :: v99 :: v100 :: v101 :: v102 :: v103 :: v104 :: v105 :: v106 :: v107 :: v108 :: v109 :: v110 :: v111 :: v112 :: v113 :: v114 :: v115 :: v116 :: v117 :: v118 :: v119 :: v120 :: v121 :: v122 :: v123 :: v124 :: v125 :: v126 :: v127 :: v128 :: v129 :: v130 :: v131 :: v132 :: v133 :: v134 :: v135 :: v136 :: v137 :: v138 :: v139 :: v140 :: v141 :: v142 :: v143 :: v144 :: v145 :: v146 :: v147 :: v148 :: v149 :: v150 :: v151 :: v152 :: v153 :: v154 :: v155 :: v156 :: v157 :: v158 :: v159 :: v160 :: v161 :: v162 :: v163 :: v164 :: v165 :: v166 :: v167 :: v168 :: v169 :: v170 :: v171 :: v172 :: v173 :: v174 :: v175 :: v176 :: v177 :: v178 :: v179 :: v180 :: v181 :: v182 :: v183 :: v184 :: v185 :: v186 :: v187 :: v188 :: v189 :: v190 :: v191 :: v192 :: v193 :: v194 :: v195 :: v196 :: v197 :: v198 :: v199 :: v200 :: v201 :: v202 :: v203 :: v204 :: v205 :: v206 :: v207 :: v208 :: v209 :: v210 :: v211 :: v212 :: v213 :: v214 :: v215 :: v216 :: v217 :: v218 :: v219 :: v220 :: v221 :: v222 :: v223 :: v224 :: v225 :: v226 :: v227 :: v228 :: v229 :: v230 :: v231 :: v232 :: v233 :: v234 :: v235 :: v236 :: v237 :: v238 :: v239 :: v240 :: v241 :: v242 :: v243 :: v244 :: v245 :: v246 :: .slice UA un uc :: .int .i64 (un:Int) :: .int .i64 0 :: v250 :: v251 :: v252 :: v253 :: v254 :: v255 :: v256 :: v257 :: v258 :: v259 :: v260 :: v261 :: v262 :: v263 :: v264 :: v265 :: v266 :: v267 :: v268 :: v269 :: v270 :: v271 :: v272 :: v273 :: v274 :: []),[]⟩ w:=by
 have HND:Hid (∀t,t∈outL d ts→0≤t∧t<(m:Int)∧nodeIn d (t * perT d)=true):=fun t ht=>by
  have h1:=padTo_in ht
  have h2:=tiles_eq hc.dev
  have h3:=hc.len
  have h4:=hE.tiles.tlen
  have h5:=(node_at (k:=0) (tileIn_iff.2 ⟨hc.dev,h1.1,by omega⟩:tileIn d t=true) (by omega) (by have:=perT_bd hc.dev;omega)).1
  rw [Int.add_zero] at h5
  exact ⟨h1.1,by omega,h5⟩
 have hm36:m≤36:=by have:=tiles_eq hc.dev;have:=hc.len;have:=hE.tiles.tlen;omega
 have hpb:=perT_bd hc.dev
 have hun:=(S.ints 9 rfl).1
 have hou:un≤36:=by have h1:=padTo_length d ts 2 ts.length;have h2:=hE.tiles.tlen;unfold outL at hun;omega
 have HUN:=Lib.hid hun
 have HE:=Lib.hid hE
 have HC:=Lib.hid hc
 have HD:=Lib.hid hD
 have HRR:=Lib.hid hR
 have HN:=Lib.hid hN
 have HS:=Lib.hid S
 have HX:=Lib.hid hexit
 have HZ:=Lib.hid hret
 have HON:Hid (∀t,outN d ts pl t=tr d ts pl (t * perT d)):=fun t=>rfl
 clear hE hN hc hD hR S hexit hret hun
 conv=>arg 2;whnf
 go_loopw [249] (fun i wr=>∃(k:Nat) (OA:Option Addr) (oc:Nat),k≤un∧i = .int .i64 k∧(∀(j:Nat) (t:Int),j<k→(outL d ts)[j]?=some t→0≤outN d ts pl t)∧Sepa W wr (trBlk gT g gI gF gM :: numPc gI 1 (insL d ts) :: numPc gF (sqB d ts) (owL d ts) :: numPc gM (ltB d ts) pl :: lnBlk gL In Sv Lv (.slice OA k oc) :: pA :: pB :: .cel (celI (((outL d ts).take k).map (outN d ts pl))) (.slice OA k oc) :: pi :: .cel (celI (outL d ts)) (.slice UA un uc) :: rs)) (fun i _=>un - (intOf i).toNat)
 case atStart=>exact ⟨0,none,0,by omega,rfl,fun j t hj=>by omega,HS.out⟩
 case round =>
  obtain ⟨k,OA,oc,hk,rfl,hall,hs⟩:=hrel
  have HALL:=Lib.hid hall
  have HSS:=Lib.hid hs
  clear hall
  by_cases hlt:k<un
  ·have hdk:decide ((k:Int)<(un:Int))=true:=by simp;omega
   obtain ⟨t,ht⟩:∃t,(outL d ts)[k]?=some t:=⟨_,List.getElem?_eq_getElem (by rw [HUN.out];exact hlt)⟩
   obtain ⟨b,o,hUA,hbl,hcx⟩:=(hs.ints 9 rfl).2 (by omega)
   have hck:=hcx k hlt
   rw [ht,Option.getD_some] at hck
   have hb:=hs.bel
   have hD':=heap_tr hb HD.out
   have d0:=cell_heap (k:=0) hD' rfl
   have d1:=cell_heap (k:=1) hD' rfl
   have d2:=cell_heap (k:=2) hD' rfl
   have d3:=cell_heap (k:=3) hD' rfl
   have lD:=heap_lt0 hD'
   obtain ⟨ht0,htm,hni⟩:=HND.out t (List.mem_of_getElem? ht)
   have HTX:=Lib.hid ht
   have HNI:=Lib.hid hni
   have hmul0:0≤t * perT d:=Int.mul_nonneg ht0 (by omega)
   have hmul1:t * perT d≤36 * 23:=Int.mul_le_mul (by omega) (by omega) (by omega) (by omega)
   have HTR:Hid (outN d ts pl t=tr d ts pl (t * perT d)):=rfl
   have HPT:=Lib.hid (fun w=>perT_any' d w HC.out.dev)
   have HTK:=Lib.hid (fun (w':World) (h:Below wr.heap.size wr w')=>trace_any gT g gI gF gM d ts TA m tc EA DA N pl (t * perT d) w' (trAt_of HE.out (HSS.out.below h)) HN.out HC.out hni)
   have i0:(0:Int)≤(k:Int):=by omega
   have i1:(k:Int)<(un:Int):=by omega
   clear hs hb hcx ht hD' hni
   subst hUA
   generalize perT d=P at *
   generalize tr d ts pl (t * P)=X at *
   go_wp2_with fail
   refine (HPT.out _).mono ?_
   rintro e w1 ⟨rfl,b1⟩
   have B1:=Lib.hid b1
   have lT:=below_lt b1 lD
   clear b1 d0 d1 d2 d3
   go_wp2_with fail
   refine (HTK.out _ B1.out).mono ?_
   rintro e w2 ⟨rfl,b2⟩
   have HS2:=Lib.hid (HSS.out.below (below_tr B1.out b2))
   clear b2
   by_cases hx:0≤X
   ·have hdx:decide (0≤X)=true:=by simpa using hx
    have HV:=Lib.hid (tv_pos hx)
    have HXX:=Lib.hid hx
    have hno:=(HS2.out.ints 7 rfl).1
    rw [List.length_map,List.length_take] at hno
    have l3:=cell_heap (k:=3) (HS2.out.blk 4 rfl).1 rfl
    have l4:=heap_lt0 (HS2.out.blk 4 rfl).1
    rw [HV.out,hdx]
    clear hdx hx hno
    go_wp2_with (at_builtin;refine wpList_sepPush rfl _ _ rfl _ (HS2.out.alloc _) 7 OA k oc (((outL d ts).take k).map (outN d ts pl)) X _ (0,0) rfl rfl rfl (heap_new _ _) (by omega) ?_;intro g9 cap w9 S9 hz9;have l9:=cell_heap (k:=3) (S9.blk 4 rfl).1 rfl;have f9:=frozen_heap (S9.blk 4 rfl).1 3;have q9:=heap_lt0 (S9.blk 4 rfl).1;have HS9:=Lib.hid S9;clear S9)
    go_roundw
    case rel =>
     refine ⟨k+1,some ⟨g9,0,none⟩,cap,by omega,by go_num,fun j t' hj he=>?_,?_⟩
     ·rcases Nat.lt_or_ge j k with h|h
      ·exact HALL.out j t' h he
      ·obtain rfl:j=k:=by omega
       have e:=HTX.out
       rw [he] at e
       injection e with e
       subst e
       rw [HTR.out]
       exact HXX.out
     ·rw [List.take_add_one,HTX.out,Option.toList_some,List.map_append,List.map_cons,List.map_nil,HTR.out]
      exact HS9.out.put 4 rfl 3 _
    case measure=>simp [intOf];omega
   ·have hdx:decide (0≤X)=false:=by simpa using hx
    have hR':=heap_tr HS2.out.bel HRR.out
    have r0:=cell_heap (k:=0) hR' rfl
    have r1:=cell_heap (k:=1) hR' rfl
    have r2:=cell_heap (k:=2) hR' rfl
    have r3:=cell_heap (k:=3) hR' rfl
    have f0:=frozen_heap hR' 0
    have f1:=frozen_heap hR' 1
    have f2:=frozen_heap hR' 2
    have f3:=frozen_heap hR' 3
    have lR:=heap_lt0 hR'
    have HEX:Hid (∃t∈outL d ts,outN d ts pl t<0):=⟨t,List.mem_of_getElem? HTX.out,by rw [HTR.out];omega⟩
    rw [hdx]
    clear hdx hx hR'
    go_wp2_with fail
    apply HZ.out
    exact ⟨HEX.out,HS2.out.bel⟩
  ·have hkm:k=un:=by omega
   have hdk:decide ((k:Int)<(un:Int))=false:=by simp;omega
   have hfin:(outL d ts).take k=outL d ts:=List.take_of_length_le (by rw [HUN.out];omega)
   have hul:(outL d ts).length=k:=by rw [HUN.out];omega
   rw [hfin] at hs
   have HS2:=Lib.hid (And.intro (show ∀t∈outL d ts,0≤outN d ts pl t from fun t ht=>by obtain ⟨j,hj,rfl⟩:=List.getElem_of_mem ht;exact HALL.out j _ (by omega) (List.getElem?_eq_getElem hj)) hs)
   have HUL:=Lib.hid hul
   clear hs hkm hfin hul
   go_wp2_with fail
   apply HX.out
   rw [HUL.out]
   exact HS2.out
end Go.Proofs.Ytignkfhdkcgkgaa
