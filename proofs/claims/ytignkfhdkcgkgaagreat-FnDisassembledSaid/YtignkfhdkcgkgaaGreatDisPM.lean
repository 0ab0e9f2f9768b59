/- The last loop of the program's Disassemble: the outputs (printed by mkdisp.py). The first loop of the program's Disassemble: inputs and outputs (printed by mkdisp.py). The program's Disassemble (printed by mkdisp.py). -/
import Derived.Test.YtignkfhdkcgkgaaGreatDisP2
import Derived.Test.YtignkfhdkcgkgaaGreatDisP4
import Derived.Test.YtignkfhdkcgkgaaGreatDrwR
import Derived.Test.YtignkfhdkcgkgaaGreatOrd2
import Derived.Test.YtignkfhdkcgkgaaGreatSepN
namespace Go.Proofs.YtignkfhdkcgkgaaGreat
set_option maxRecDepth 100000
open Go.RowKit

set_option maxRecDepth 100000 in
set_option maxHeartbeats 8000000 in
theorem dis_lp6 (W:World) (gR gD gT g gI gF gM gL:Nat) (d:Dev) (ts:List Tile) (TA:Option Addr) (m tc:Nat) (EA DA:Option Addr) (N:Nat) (In:Int) (Sv Lv:Value) (pl:List Int) (UA:Option Addr) (un uc:Nat) (pA pB pi:Pc) (rs:List Pc) {v0 v1 v3 v5 v6 v7 v10 v11 v12 v13 v14 v15 v16 v17 v18 v19 v20 v21 v22 v23 v24 v25 v26 v27 v28 v29 v30 v31 v32 v33 v34 v35 v36 v37 v38 v39 v40 v41 v42 v43 v44 v45 v46 v47 v48 v49 v50 v51 v52 v53 v54 v55 v56 v57 v58 v59 v60 v61 v62 v63 v64 v65 v66 v67 v68 v69 v70 v71 v72 v73 v74 v75 v76 v77 v78 v79 v80 v81 v82 v83 v84 v85 v86 v87 v88 v89 v90 v91 v92 v93 v94 v95 v96 v97 v98 v99 v100 v101 v102 v103 v104 v105 v106 v107 v108 v109 v110 v111 v112 v113 v114 v115 v116 v117 v118 v119 v120 v121 v122 v123 v124 v125 v126 v127 v128 v129 v130 v131 v132 v133 v134 v135 v136 v137 v138 v139 v140 v141 v142 v143 v144 v145 v146 v147 v148 v149 v150 v151 v152 v153 v154 v155 v156 v157 v158 v159 v160 v161 v162 v163 v164 v165 v166 v167 v168 v169 v170 v171 v172 v173 v174 v175 v176 v177 v178 v179 v180 v181 v182 v183 v184 v185 v186 v187 v188 v189 v190 v191 v192 v193 v194 v195 v196 v197 v198 v199 v200 v201 v202 v203 v204 v205 v206 v207 v208 v209 v210 v211 v212 v213 v214 v215 v216 v217 v218 v219 v220 v221 v222 v223 v224 v225 v226 v227 v228 v229 v230 v231 v232 v233 v234 v235 v236 v237 v238 v239 v240 v241 v242 v243 v244 v245 v246 v250 v251 v252 v253 v254 v255 v256 v257 v258 v259 v260 v261 v262 v263 v264 v265 v266 v267 v268 v269 v270 v271 v272 v273 v274:Value} {Q0:Exit→Act→World→Prop} (w:World) (hE:EmuAt W g d ts TA m tc EA DA N) (hN:(N:Int)=nodesOf d) (hc:CfgOk d ts) (hD:W.heap[gD]?=some (.cells #[.int .i64 d.W,.int .i64 d.H,.int .i64 d.T,.int .i64 d.R] 25 (0,0))) (hR:W.heap[gR]?=some (.cells #[.int .i64 0,.slice none 0 0,.slice none 0 0,.slice none 0 0] 61 (0,0))) (S:Sepa W w (trBlk gT g gI gF gM :: numPc gI 1 (insL d ts) :: numPc gF (sqB d ts) (owL d ts) :: numPc gM (ltB d ts) pl :: lnBlk gL In Sv Lv (.slice none 0 0) :: pA :: pB :: .cel (celI ([])) (.slice none 0 0) :: pi :: .cel (celI (outL d ts)) (.slice UA un uc) :: rs))
  (hexit:∀(OA:Option Addr) (oc:Nat) (y5 y6 y7 y25 y26 y27 y249 y250 y251 y252 y253 y254 y255 y256 y257 y258 y259 y260 y261 y262 y263 y264 y265 y266 y267 y268 y269 y270 y271:Value) (w':World),(∀t∈outL d ts,0≤outN d ts pl t)∧Sepa W w' (trBlk gT g gI gF gM :: numPc gI 1 (insL d ts) :: numPc gF (sqB d ts) (owL d ts) :: numPc gM (ltB d ts) pl :: lnBlk gL In Sv Lv (.slice OA (outL d ts).length oc) :: pA :: pB :: .cel (celI ((outL d ts).map (outN d ts pl))) (.slice OA (outL d ts).length oc) :: pi :: .cel (celI (outL d ts)) (.slice UA un uc) :: rs)→Q0 (.exit 11) ⟨List.toArray (v0 :: v1 :: .pointer (some ⟨gD,0,none⟩) :: v3 :: .pointer (some ⟨gR,0,none⟩) :: y5 :: y6 :: y7 :: .pointer (some ⟨gT,0,none⟩) :: .pointer (some ⟨gL,0,none⟩) :: v10 :: v11 :: v12 :: v13 :: v14 :: v15 :: v16 :: v17 :: v18 :: v19 :: v20 :: v21 :: v22 :: v23 :: v24 :: y25 :: y26 :: y27 :: v28 :: v29 :: v30 :: v31 :: v32 :: v33 :: v34 :: v35 :: v36 :: v37 :: v38 :: v39 :: v40 :: v41 :: v42 :: v43 :: v44 :: v45 :: v46 :: v47 :: v48 :: v49 :: v50 :: v51 :: v52 :: v53 :: v54 :: v55 :: v56 :: v57 :: v58 :: v59 :: v60 :: v61 :: v62 :: v63 :: v64 :: v65 :: v66 :: v67 :: v68 :: v69 :: v70 :: v71 :: v72 :: v73 :: v74 :: v75 :: v76 :: v77 :: v78 :: v79 :: v80 :: v81 :: v82 :: v83 :: v84 :: v85 :: v86 :: v87 :: v88 :: v89 :: v90 :: v91 :: v92 :: v93 :: v94 :: v95 :: v96 :: v97 :: v98 :: v99 :: v100 :: v101 :: v102 :: v103 :: v104 :: v105 :: v106 :: v107 :: v108 :: v109 :: v110 :: v111 :: v112 :: v113 :: v114 :: v115 :: v116 :: v117 :: v118 :: v119 :: v120 :: v121 :: v122 :: v123 :: v124 :: v125 :: v126 :: v127 :: v128 :: v129 :: v130 :: v131 :: v132 :: v133 :: v134 :: v135 :: v136 :: v137 :: v138 :: v139 :: v140 :: v141 :: v142 :: v143 :: v144 :: v145 :: v146 :: v147 :: v148 :: v149 :: v150 :: v151 :: v152 :: v153 :: v154 :: v155 :: v156 :: v157 :: v158 :: v159 :: v160 :: v161 :: v162 :: v163 :: v164 :: v165 :: v166 :: v167 :: v168 :: v169 :: v170 :: v171 :: v172 :: v173 :: v174 :: v175 :: v176 :: v177 :: v178 :: v179 :: v180 :: v181 :: v182 :: v183 :: v184 :: v185 :: v186 :: v187 :: v188 :: v189 :: v190 :: v191 :: v192 :: v193 :: v194 :: v195 :: v196 :: v197 :: v198 :: v199 :: v200 :: v201 :: v202 :: v203 :: v204 :: v205 :: v206 :: v207 :: v208 :: v209 :: v210 :: v211 :: v212 :: v213 :: v214 :: v215 :: v216 :: v217 :: v218 :: v219 :: v220 :: v221 :: v222 :: v223 :: v224 :: v225 :: v226 :: v227 :: v228 :: v229 :: v230 :: v231 :: v232 :: v233 :: v234 :: v235 :: v236 :: v237 :: v238 :: v239 :: v240 :: v241 :: v242 :: v243 :: v244 :: v245 :: v246 :: .slice UA un uc :: .int .i64 (un:Int) :: y249 :: y250 :: y251 :: y252 :: y253 :: y254 :: y255 :: y256 :: y257 :: y258 :: y259 :: y260 :: y261 :: y262 :: y263 :: y264 :: y265 :: y266 :: y267 :: y268 :: y269 :: y270 :: y271 :: v272 :: v273 :: v274 :: []),[]⟩ w')
  (hret:∀(y25 y26 y27 y249 y250 y251 y252 y253 y254 y255 y256 y257 y258 y259 y260 y261 y262 y263 y264 y265 y266 y267 y268 y269 y270 y271:Value) (w':World),(∃t∈outL d ts,outN d ts pl t<0)∧Below W.heap.size W w'→Q0 .ret ⟨List.toArray (v0 :: v1 :: .pointer (some ⟨gD,0,none⟩) :: v3 :: .pointer (some ⟨gR,0,none⟩) :: .slice none 0 0 :: .slice none 0 0 :: .bool false :: .pointer (some ⟨gT,0,none⟩) :: .pointer (some ⟨gL,0,none⟩) :: v10 :: v11 :: v12 :: v13 :: v14 :: v15 :: v16 :: v17 :: v18 :: v19 :: v20 :: v21 :: v22 :: v23 :: v24 :: y25 :: y26 :: y27 :: v28 :: v29 :: v30 :: v31 :: v32 :: v33 :: v34 :: v35 :: v36 :: v37 :: v38 :: v39 :: v40 :: v41 :: v42 :: v43 :: v44 :: v45 :: v46 :: v47 :: v48 :: v49 :: v50 :: v51 :: v52 :: v53 :: v54 :: v55 :: v56 :: v57 :: v58 :: v59 :: v60 :: v61 :: v62 :: v63 :: v64 :: v65 :: v66 :: v67 :: v68 :: v69 :: v70 :: v71 :: v72 :: v73 :: v74 :: v75 :: v76 :: v77 :: v78 :: v79 :: v80 :: v81 :: v82 :: v83 :: v84 :: v85 :: v86 :: v87 :: v88 :: v89 :: v90 :: v91 :: v92 :: v93 :: v94 :: v95 :: v96 :: v97 :: v98 :: v99 :: v100 :: v101 :: v102 :: v103 :: v104 :: v105 :: v106 :: v107 :: v108 :: v109 :: v110 :: v111 :: v112 :: v113 :: v114 :: v115 :: v116 :: v117 :: v118 :: v119 :: v120 :: v121 :: v122 :: v123 :: v124 :: v125 :: v126 :: v127 :: v128 :: v129 :: v130 :: v131 :: v132 :: v133 :: v134 :: v135 :: v136 :: v137 :: v138 :: v139 :: v140 :: v141 :: v142 :: v143 :: v144 :: v145 :: v146 :: v147 :: v148 :: v149 :: v150 :: v151 :: v152 :: v153 :: v154 :: v155 :: v156 :: v157 :: v158 :: v159 :: v160 :: v161 :: v162 :: v163 :: v164 :: v165 :: v166 :: v167 :: v168 :: v169 :: v170 :: v171 :: v172 :: v173 :: v174 :: v175 :: v176 :: v177 :: v178 :: v179 :: v180 :: v181 :: v182 :: v183 :: v184 :: v185 :: v186 :: v187 :: v188 :: v189 :: v190 :: v191 :: v192 :: v193 :: v194 :: v195 :: v196 :: v197 :: v198 :: v199 :: v200 :: v201 :: v202 :: v203 :: v204 :: v205 :: v206 :: v207 :: v208 :: v209 :: v210 :: v211 :: v212 :: v213 :: v214 :: v215 :: v216 :: v217 :: v218 :: v219 :: v220 :: v221 :: v222 :: v223 :: v224 :: v225 :: v226 :: v227 :: v228 :: v229 :: v230 :: v231 :: v232 :: v233 :: v234 :: v235 :: v236 :: v237 :: v238 :: v239 :: v240 :: v241 :: v242 :: v243 :: v244 :: v245 :: v246 :: .slice UA un uc :: .int .i64 (un:Int) :: y249 :: y250 :: y251 :: y252 :: y253 :: y254 :: y255 :: y256 :: y257 :: y258 :: y259 :: y260 :: y261 :: y262 :: y263 :: y264 :: y265 :: y266 :: y267 :: y268 :: y269 :: y270 :: y271 :: v272 :: v273 :: v274 :: []),[]⟩ ((((w'.setCell ⟨gR,0,none⟩ (.int .i64 0)).setCell ⟨gR,1,none⟩ (.slice none 0 0)).setCell ⟨gR,2,none⟩ (.slice none 0 0)).setCell ⟨gR,3,none⟩ (.slice none 0 0)))
  : Code.wp Tryz.prog (loopAt Tryz.f30 3) Q0 ⟨List.toArray (v0 :: v1 :: .pointer (some ⟨gD,0,none⟩) :: v3 :: .pointer (some ⟨gR,0,none⟩) :: v5 :: v6 :: v7 :: .pointer (some ⟨gT,0,none⟩) :: .pointer (some ⟨gL,0,none⟩) :: v10 :: v11 :: v12 :: v13 :: v14 :: v15 :: v16 :: v17 :: v18 :: v19 :: v20 :: v21 :: v22 :: v23 :: v24 :: v25 :: v26 :: v27 :: v28 :: v29 :: v30 :: v31 :: v32 :: v33 :: v34 :: v35 :: v36 :: v37 :: v38 :: v39 :: v40 :: v41 :: v42 :: v43 :: v44 :: v45 :: v46 :: v47 :: v48 :: v49 :: v50 :: v51 :: v52 :: v53 :: v54 :: v55 :: v56 :: v57 :: v58 :: v59 :: v60 :: v61 :: v62 :: v63 :: v64 :: v65 :: v66 :: v67 :: v68 :: v69 :: v70 :: v71 :: v72 :: v73 :: v74 :: v75 :: v76 :: v77 :: v78 :: v79 :: v80 :: v81 :: v82 :: v83 :: v84 :: v85 :: v86 :: v87 :: v88 :: v89 :: v90 :: v91 :: v92 :: v93 :: v94 :: v95 :: v96 :: v97 :: v98 :: v99 :: v100 :: v101 :: v102 :: v103 :: v104 :: v105 :: v106 :: v107 :: v108 :: v109 :: v110 :: v111 :: v112 :: v113 :: v114 :: v115 :: v116 :: v117 :: v118 :: v119 :: v120 :: v121 :: v122 :: v123 :: v124 :: v125 :: v126 :: v127 :: v128 :: v129 :: v130 :: v131 :: v132 :: v133 :: v134 :: v135 :: v136 :: v137 :: v138 :: v139 :: v140 :: v141 :: v142 :: v143 :: v144 :: v145 :: v146 :: v147 :: v148 :: v149 :: v150 :: v151 :: v152 :: v153 :: v154 :: v155 :: v156 :: v157 :: v158 :: v159 :: v160 :: v161 :: v162 :: v163 :: v164 :: v165 :: v166 :: v167 :: v168 :: v169 :: v170 :: v171 :: v172 :: v173 :: v174 :: v175 :: v176 :: v177 :: v178 :: v179 :: v180 :: v181 :: v182 :: v183 :: v184 :: v185 :: v186 :: v187 :: v188 :: v189 :: v190 :: v191 :: v192 :: v193 :: v194 :: v195 :: v196 :: v197 :: v198 :: v199 :: v200 :: v201 :: v202 :: v203 :: v204 :: v205 :: v206 :: v207 :: v208 :: v209 :: v210 :: v211 :: v212 :: v213 :: v214 :: v215 :: v216 :: v217 :: v218 :: v219 :: v220 :: v221 :: v222 :: v223 :: v224 :: v225 :: v226 :: v227 :: v228 :: v229 :: v230 :: v231 :: v232 :: v233 :: v234 :: v235 :: v236 :: v237 :: v238 :: v239 :: v240 :: v241 :: v242 :: v243 :: v244 :: v245 :: v246 :: .slice UA un uc :: .int .i64 (un:Int) :: .int .i64 0 :: v250 :: v251 :: v252 :: v253 :: v254 :: v255 :: v256 :: v257 :: v258 :: v259 :: v260 :: v261 :: v262 :: v263 :: v264 :: v265 :: v266 :: v267 :: v268 :: v269 :: v270 :: v271 :: v272 :: v273 :: v274 :: []),[]⟩ w:=by
 have HND:Hid (∀t,t∈outL d ts→0≤t∧t<(m:Int)∧nodeIn d (t * perT d)=true):=fun t ht=>by
  have h1:=padTo_in ht
  have h2:=tiles_eq hc.dev
  have h3:=hc.len
  have h4:=hE.tiles.tlen
  have h5:=(node_at (k:=0) (tileIn_iff.2 ⟨hc.dev,h1.1,by omega⟩:tileIn d t=true) (by omega) (by have:=perT_bd hc.dev;omega)).1
  rw [Int.add_zero] at h5
  exact ⟨h1.1,by omega,h5⟩
 have hm36:m≤36:=by have:=tiles_eq hc.dev;have:=hc.len;have:=hE.tiles.tlen;omega
 have hpb:=perT_bd hc.dev
 have hun:=(S.ints 9 rfl).1
 have hou:un≤36:=by have h1:=padTo_length d ts 2 ts.length;have h2:=hE.tiles.tlen;unfold outL at hun;omega
 have HUN:=Lib.hid hun
 have HE:=Lib.hid hE
 have HC:=Lib.hid hc
 have HD:=Lib.hid hD
 have HRR:=Lib.hid hR
 have HN:=Lib.hid hN
 have HS:=Lib.hid S
 have HX:=Lib.hid hexit
 have HZ:=Lib.hid hret
 have HON:Hid (∀t,outN d ts pl t=tr d ts pl (t * perT d)):=fun t=>rfl
 clear hE hN hc hD hR S hexit hret hun
 conv=>arg 2;whnf
 go_loopw [249] (fun i wr=>∃(k:Nat) (OA:Option Addr) (oc:Nat),k≤un∧i = .int .i64 k∧(∀(j:Nat) (t:Int),j<k→(outL d ts)[j]?=some t→0≤outN d ts pl t)∧Sepa W wr (trBlk gT g gI gF gM :: numPc gI 1 (insL d ts) :: numPc gF (sqB d ts) (owL d ts) :: numPc gM (ltB d ts) pl :: lnBlk gL In Sv Lv (.slice OA k oc) :: pA :: pB :: .cel (celI (((outL d ts).take k).map (outN d ts pl))) (.slice OA k oc) :: pi :: .cel (celI (outL d ts)) (.slice UA un uc) :: rs)) (fun i _=>un - (intOf i).toNat)
 case atStart=>exact ⟨0,none,0,by omega,rfl,fun j t hj=>by omega,HS.out⟩
 case round =>
  obtain ⟨k,OA,oc,hk,rfl,hall,hs⟩:=hrel
  have HALL:=Lib.hid hall
  have HSS:=Lib.hid hs
  clear hall
  by_cases hlt:k<un
  ·have hdk:decide ((k:Int)<(un:Int))=true:=by simp;omega
   obtain ⟨t,ht⟩:∃t,(outL d ts)[k]?=some t:=⟨_,List.getElem?_eq_getElem (by rw [HUN.out];exact hlt)⟩
   obtain ⟨b,o,hUA,hbl,hcx⟩:=(hs.ints 9 rfl).2 (by omega)
   have hck:=hcx k hlt
   rw [ht,Option.getD_some] at hck
   have hb:=hs.bel
   have hD':=heap_tr hb HD.out
   have d0:=cell_heap (k:=0) hD' rfl
   have d1:=cell_heap (k:=1) hD' rfl
   have d2:=cell_heap (k:=2) hD' rfl
   have d3:=cell_heap (k:=3) hD' rfl
   have lD:=heap_lt0 hD'
   obtain ⟨ht0,htm,hni⟩:=HND.out t (List.mem_of_getElem? ht)
   have HTX:=Lib.hid ht
   have HNI:=Lib.hid hni
   have hmul0:0≤t * perT d:=Int.mul_nonneg ht0 (by omega)
   have hmul1:t * perT d≤36 * 23:=Int.mul_le_mul (by omega) (by omega) (by omega) (by omega)
   have HTR:Hid (outN d ts pl t=tr d ts pl (t * perT d)):=rfl
   have HPT:=Lib.hid (fun w=>perT_any' d w HC.out.dev)
   have HTK:=Lib.hid (fun (w':World) (h:Below wr.heap.size wr w')=>trace_any gT g gI gF gM d ts TA m tc EA DA N pl (t * perT d) w' (trAt_of HE.out (HSS.out.below h)) HN.out HC.out hni)
   have i0:(0:Int)≤(k:Int):=by omega
   have i1:(k:Int)<(un:Int):=by omega
   clear hs hb hcx ht hD' hni
   subst hUA
   generalize perT d=P at *
   generalize tr d ts pl (t * P)=X at *
   go_wp2_with fail
   refine (HPT.out _).mono ?_
   rintro e w1 ⟨rfl,b1⟩
   have B1:=Lib.hid b1
   have lT:=below_lt b1 lD
   clear b1 d0 d1 d2 d3
   go_wp2_with fail
   refine (HTK.out _ B1.out).mono ?_
   rintro e w2 ⟨rfl,b2⟩
   have HS2:=Lib.hid (HSS.out.below (below_tr B1.out b2))
   clear b2
   by_cases hx:0≤X
   ·have hdx:decide (0≤X)=true:=by simpa using hx
    have HV:=Lib.hid (tv_pos hx)
    have HXX:=Lib.hid hx
    have hno:=(HS2.out.ints 7 rfl).1
    rw [List.length_map,List.length_take] at hno
    have l3:=cell_heap (k:=3) (HS2.out.blk 4 rfl).1 rfl
    have l4:=heap_lt0 (HS2.out.blk 4 rfl).1
    rw [HV.out,hdx]
    clear hdx hx hno
    go_wp2_with (at_builtin;refine wpList_sepPush rfl _ _ rfl _ (HS2.out.alloc _) 7 OA k oc (((outL d ts).take k).map (outN d ts pl)) X _ (0,0) rfl rfl rfl (heap_new _ _) (by omega) ?_;intro g9 cap w9 S9 hz9;have l9:=cell_heap (k:=3) (S9.blk 4 rfl).1 rfl;have f9:=frozen_heap (S9.blk 4 rfl).1 3;have q9:=heap_lt0 (S9.blk 4 rfl).1;have HS9:=Lib.hid S9;clear S9)
    go_roundw
    case rel =>
     refine ⟨k+1,some ⟨g9,0,none⟩,cap,by omega,by go_num,fun j t' hj he=>?_,?_⟩
     ·rcases Nat.lt_or_ge j k with h|h
      ·exact HALL.out j t' h he
      ·obtain rfl:j=k:=by omega
       have e:=HTX.out
       rw [he] at e
       injection e with e
       subst e
       rw [HTR.out]
       exact HXX.out
     ·rw [List.take_add_one,HTX.out,Option.toList_some,List.map_append,List.map_cons,List.map_nil,HTR.out]
      exact HS9.out.put 4 rfl 3 _
    case measure=>simp [intOf];omega
   ·have hdx:decide (0≤X)=false:=by simpa using hx
    have hR':=heap_tr HS2.out.bel HRR.out
    have r0:=cell_heap (k:=0) hR' rfl
    have r1:=cell_heap (k:=1) hR' rfl
    have r2:=cell_heap (k:=2) hR' rfl
    have r3:=cell_heap (k:=3) hR' rfl
    have f0:=frozen_heap hR' 0
    have f1:=frozen_heap hR' 1
    have f2:=frozen_heap hR' 2
    have f3:=frozen_heap hR' 3
    have lR:=heap_lt0 hR'
    have HEX:Hid (∃t∈outL d ts,outN d ts pl t<0):=⟨t,List.mem_of_getElem? HTX.out,by rw [HTR.out];omega⟩
    rw [hdx]
    clear hdx hx hR'
    go_wp2_with fail
    apply HZ.out
    exact ⟨HEX.out,HS2.out.bel⟩
  ·have hkm:k=un:=by omega
   have hdk:decide ((k:Int)<(un:Int))=false:=by simp;omega
   have hfin:(outL d ts).take k=outL d ts:=List.take_of_length_le (by rw [HUN.out];omega)
   have hul:(outL d ts).length=k:=by rw [HUN.out];omega
   rw [hfin] at hs
   have HS2:=Lib.hid (And.intro (show ∀t∈outL d ts,0≤outN d ts pl t from fun t ht=>by obtain ⟨j,hj,rfl⟩:=List.getElem_of_mem ht;exact HALL.out j _ (by omega) (List.getElem?_eq_getElem hj)) hs)
   have HUL:=Lib.hid hul
   clear hs hkm hfin hul
   go_wp2_with fail
   apply HX.out
   rw [HUL.out]
   exact HS2.out
end Go.Proofs.YtignkfhdkcgkgaaGreat

namespace Go.Proofs.YtignkfhdkcgkgaaGreat
set_option maxRecDepth 100000
open Go.RowKit

set_option maxRecDepth 100000 in
set_option maxHeartbeats 8000000 in
theorem dis_lp1 (W:World) (gD gT g gI gF gM:Nat) (d:Dev) (ts:List Tile) (TA:Option Addr) (m tc:Nat) (EA DA:Option Addr) (N:Nat) (pF pM pL pA pB pC:Pc) (rs:List Pc) {v0 v1 v3 v4 v5 v6 v7 v9 v12 v13 v14 v15 v16 v17 v18 v19 v20 v21 v22 v23 v24 v25 v26 v27 v28 v29 v30 v31 v32 v33 v34 v35 v36 v37 v38 v39 v40 v41 v42 v43 v44 v45 v46 v50 v51 v52 v53 v54 v55 v56 v57 v58 v59 v60 v61 v62 v63 v64 v65 v66 v67 v68 v69 v70 v71 v72 v73 v74 v75 v76 v77 v78 v79 v80 v81 v82 v83 v84 v85 v86 v87 v88 v89 v90 v91 v92 v93 v94 v95 v96 v97 v98 v99 v100 v101 v102 v103 v104 v105 v106 v107 v108 v109 v110 v111 v112 v113 v114 v115 v116 v117 v118 v119 v120 v121 v122 v123 v124 v125 v126 v127 v128 v129 v130 v131 v132 v133 v134 v135 v136 v137 v138 v139 v140 v141 v142 v143 v144 v145 v146 v147 v148 v149 v150 v151 v152 v153 v154 v155 v156 v157 v158 v159 v160 v161 v162 v163 v164 v165 v166 v167 v168 v169 v170 v171 v172 v173 v174 v175 v176 v177 v178 v179 v180 v181 v182 v183 v184 v185 v186 v187 v188 v189 v190 v191 v192 v193 v194 v195 v196 v197 v198 v199 v200 v201 v202 v203 v204 v205 v206 v207 v208 v209 v210 v211 v212 v213 v214 v215 v216 v217 v218 v219 v220 v221 v222 v223 v224 v225 v226 v227 v228 v229 v230 v231 v232 v233 v234 v235 v236 v237 v238 v239 v240 v241 v242 v243 v244 v245 v246 v247 v248 v249 v250 v251 v252 v253 v254 v255 v256 v257 v258 v259 v260 v261 v262 v263 v264 v265 v266 v267 v268 v269 v270 v271 v272 v273 v274:Value} {Q0:Exit→Act→World→Prop} (w:World) (hE:EmuAt W g d ts TA m tc EA DA N) (hc:CfgOk d ts) (hD:W.heap[gD]?=some (.cells #[.int .i64 d.W,.int .i64 d.H,.int .i64 d.T,.int .i64 d.R] 25 (0,0))) (S:Sepa W w (trBlk gT g gI gF gM :: numPc gI 1 [] :: pF :: pM :: pL :: pA :: pB :: pC :: .cel (celI []) (.slice none 0 0) :: .cel (celI []) (.slice none 0 0) :: rs))
  (hexit:∀(IA:Option Addr) (ni ic:Nat) (OA:Option Addr) (no oc:Nat) (y12 y13 y49 y50 y51 y52 y53 y54 y55 y56 y57 y58 y59 y60 y61 y62 y63 y64 y65 y66 y67 y68 y69 y70 y71 y72 y73 y74 y75 y76 y77 y78 y79:Value) (w':World),Sepa W w' (trBlk gT g gI gF gM :: numPc gI 1 (insL d ts) :: pF :: pM :: pL :: pA :: pB :: pC :: .cel (celI (insL d ts)) (.slice IA ni ic) :: .cel (celI (outL d ts)) (.slice OA no oc) :: rs)→Q0 (.exit 0) ⟨List.toArray (v0 :: v1 :: .pointer (some ⟨gD,0,none⟩) :: v3 :: v4 :: v5 :: v6 :: v7 :: .pointer (some ⟨gT,0,none⟩) :: v9 :: .slice IA ni ic :: .slice OA no oc :: y12 :: y13 :: v14 :: v15 :: v16 :: v17 :: v18 :: v19 :: v20 :: v21 :: v22 :: v23 :: v24 :: v25 :: v26 :: v27 :: v28 :: v29 :: v30 :: v31 :: v32 :: v33 :: v34 :: v35 :: v36 :: v37 :: v38 :: v39 :: v40 :: v41 :: v42 :: v43 :: v44 :: v45 :: v46 :: .slice TA m tc :: .int .i64 (m:Int) :: y49 :: y50 :: y51 :: y52 :: y53 :: y54 :: y55 :: y56 :: y57 :: y58 :: y59 :: y60 :: y61 :: y62 :: y63 :: y64 :: y65 :: y66 :: y67 :: y68 :: y69 :: y70 :: y71 :: y72 :: y73 :: y74 :: y75 :: y76 :: y77 :: y78 :: y79 :: v80 :: v81 :: v82 :: v83 :: v84 :: v85 :: v86 :: v87 :: v88 :: v89 :: v90 :: v91 :: v92 :: v93 :: v94 :: v95 :: v96 :: v97 :: v98 :: v99 :: v100 :: v101 :: v102 :: v103 :: v104 :: v105 :: v106 :: v107 :: v108 :: v109 :: v110 :: v111 :: v112 :: v113 :: v114 :: v115 :: v116 :: v117 :: v118 :: v119 :: v120 :: v121 :: v122 :: v123 :: v124 :: v125 :: v126 :: v127 :: v128 :: v129 :: v130 :: v131 :: v132 :: v133 :: v134 :: v135 :: v136 :: v137 :: v138 :: v139 :: v140 :: v141 :: v142 :: v143 :: v144 :: v145 :: v146 :: v147 :: v148 :: v149 :: v150 :: v151 :: v152 :: v153 :: v154 :: v155 :: v156 :: v157 :: v158 :: v159 :: v160 :: v161 :: v162 :: v163 :: v164 :: v165 :: v166 :: v167 :: v168 :: v169 :: v170 :: v171 :: v172 :: v173 :: v174 :: v175 :: v176 :: v177 :: v178 :: v179 :: v180 :: v181 :: v182 :: v183 :: v184 :: v185 :: v186 :: v187 :: v188 :: v189 :: v190 :: v191 :: v192 :: v193 :: v194 :: v195 :: v196 :: v197 :: v198 :: v199 :: v200 :: v201 :: v202 :: v203 :: v204 :: v205 :: v206 :: v207 :: v208 :: v209 :: v210 :: v211 :: v212 :: v213 :: v214 :: v215 :: v216 :: v217 :: v218 :: v219 :: v220 :: v221 :: v222 :: v223 :: v224 :: v225 :: v226 :: v227 :: v228 :: v229 :: v230 :: v231 :: v232 :: v233 :: v234 :: v235 :: v236 :: v237 :: v238 :: v239 :: v240 :: v241 :: v242 :: v243 :: v244 :: v245 :: v246 :: v247 :: v248 :: v249 :: v250 :: v251 :: v252 :: v253 :: v254 :: v255 :: v256 :: v257 :: v258 :: v259 :: v260 :: v261 :: v262 :: v263 :: v264 :: v265 :: v266 :: v267 :: v268 :: v269 :: v270 :: v271 :: v272 :: v273 :: v274 :: []),[]⟩ w')
  : Code.wp Tryz.prog (loopAt Tryz.f30 0) Q0 ⟨List.toArray (v0 :: v1 :: .pointer (some ⟨gD,0,none⟩) :: v3 :: v4 :: v5 :: v6 :: v7 :: .pointer (some ⟨gT,0,none⟩) :: v9 :: .slice none 0 0 :: .slice none 0 0 :: v12 :: v13 :: v14 :: v15 :: v16 :: v17 :: v18 :: v19 :: v20 :: v21 :: v22 :: v23 :: v24 :: v25 :: v26 :: v27 :: v28 :: v29 :: v30 :: v31 :: v32 :: v33 :: v34 :: v35 :: v36 :: v37 :: v38 :: v39 :: v40 :: v41 :: v42 :: v43 :: v44 :: v45 :: v46 :: .slice TA m tc :: .int .i64 (m:Int) :: .int .i64 0 :: v50 :: v51 :: v52 :: v53 :: v54 :: v55 :: v56 :: v57 :: v58 :: v59 :: v60 :: v61 :: v62 :: v63 :: v64 :: v65 :: v66 :: v67 :: v68 :: v69 :: v70 :: v71 :: v72 :: v73 :: v74 :: v75 :: v76 :: v77 :: v78 :: v79 :: v80 :: v81 :: v82 :: v83 :: v84 :: v85 :: v86 :: v87 :: v88 :: v89 :: v90 :: v91 :: v92 :: v93 :: v94 :: v95 :: v96 :: v97 :: v98 :: v99 :: v100 :: v101 :: v102 :: v103 :: v104 :: v105 :: v106 :: v107 :: v108 :: v109 :: v110 :: v111 :: v112 :: v113 :: v114 :: v115 :: v116 :: v117 :: v118 :: v119 :: v120 :: v121 :: v122 :: v123 :: v124 :: v125 :: v126 :: v127 :: v128 :: v129 :: v130 :: v131 :: v132 :: v133 :: v134 :: v135 :: v136 :: v137 :: v138 :: v139 :: v140 :: v141 :: v142 :: v143 :: v144 :: v145 :: v146 :: v147 :: v148 :: v149 :: v150 :: v151 :: v152 :: v153 :: v154 :: v155 :: v156 :: v157 :: v158 :: v159 :: v160 :: v161 :: v162 :: v163 :: v164 :: v165 :: v166 :: v167 :: v168 :: v169 :: v170 :: v171 :: v172 :: v173 :: v174 :: v175 :: v176 :: v177 :: v178 :: v179 :: v180 :: v181 :: v182 :: v183 :: v184 :: v185 :: v186 :: v187 :: v188 :: v189 :: v190 :: v191 :: v192 :: v193 :: v194 :: v195 :: v196 :: v197 :: v198 :: v199 :: v200 :: v201 :: v202 :: v203 :: v204 :: v205 :: v206 :: v207 :: v208 :: v209 :: v210 :: v211 :: v212 :: v213 :: v214 :: v215 :: v216 :: v217 :: v218 :: v219 :: v220 :: v221 :: v222 :: v223 :: v224 :: v225 :: v226 :: v227 :: v228 :: v229 :: v230 :: v231 :: v232 :: v233 :: v234 :: v235 :: v236 :: v237 :: v238 :: v239 :: v240 :: v241 :: v242 :: v243 :: v244 :: v245 :: v246 :: v247 :: v248 :: v249 :: v250 :: v251 :: v252 :: v253 :: v254 :: v255 :: v256 :: v257 :: v258 :: v259 :: v260 :: v261 :: v262 :: v263 :: v264 :: v265 :: v266 :: v267 :: v268 :: v269 :: v270 :: v271 :: v272 :: v273 :: v274 :: []),[]⟩ w:=by
 have htm:=hE.tiles.tlen
 have hm36:m≤36:=by have:=tiles_eq hc.dev;have:=hc.len;omega
 have hm9:9≤m:=by have:=tiles_eq hc.dev;have:=hc.len;omega
 obtain ⟨b,o,_,_,_,rfl,hbW,-⟩:=emu_le (t:=0) (p:=0) hE hc (tileIn_iff.2 ⟨hc.dev,by omega,by have:=(dev_WH hc.dev).1;omega⟩) (by omega)
 have HE:=Lib.hid hE
 have HC:=Lib.hid hc
 have HD:=Lib.hid hD
 have HTM:=Lib.hid htm
 have HS:=Lib.hid S
 have HX:=Lib.hid hexit
 clear hE hc hD htm S hexit
 conv=>arg 2;whnf
 go_loopw [10,11,49] (fun a1 a2 i wr=>∃(k:Nat) (IA:Option Addr) (ni ic:Nat) (OA:Option Addr) (no oc:Nat),k≤m∧i = .int .i64 k∧a1 = .slice IA ni ic∧a2 = .slice OA no oc∧Sepa W wr (trBlk gT g gI gF gM :: numPc gI 1 (padTo d ts 1 k) :: pF :: pM :: pL :: pA :: pB :: pC :: .cel (celI (padTo d ts 1 k)) (.slice IA ni ic) :: .cel (celI (padTo d ts 2 k)) (.slice OA no oc) :: rs)) (fun _ _ i _=>m - (intOf i).toNat)
 case atStart=>exact ⟨0,none,0,0,none,0,0,by omega,rfl,rfl,rfl,HS.out⟩
 case round =>
  obtain ⟨k,IA,ni,ic,OA,no,oc,hk,rfl,rfl,rfl,hs⟩:=hrel
  have hni:ni≤36:=by have h1:=(hs.ints 8 rfl).1;have h2:=padTo_length d ts 1 k;omega
  have hno:no≤36:=by have h1:=(hs.ints 9 rfl).1;have h2:=padTo_length d ts 2 k;omega
  have HNI:=Lib.hid (hs.ints 8 rfl).1
  have HSS:=Lib.hid hs
  by_cases hlt:k<m
  ·have hdk:decide ((k:Int)<(m:Int))=true:=by simp;omega
   obtain ⟨b',o',S',m3,q,L,l,q4,hTA,-,ca,cl,cp,cr,-,-⟩:=HE.out.tiles.tile (k:=k) (by rw [HTM.out];exact hlt)
   injection hTA with hTA
   injection hTA with e1 e2
   subst e1 e2
   change W.cell? ⟨b,o+k * 4+2,none⟩=some (.int .i64 (tileAt ts (k:Int)).pad) at cp
   have hb:=hs.bel
   have c0:=(hb.cell (p:=⟨b,o+k * 4,none⟩) hbW).trans ca
   have c1:=(hb.cell (p:=⟨b,o+k * 4+1,none⟩) hbW).trans cl
   have c2:=(hb.cell (p:=⟨b,o+k * 4+2,none⟩) hbW).trans cp
   have c3:=(hb.cell (p:=⟨b,o+k * 4+3,none⟩) hbW).trans cr
   have hD':=heap_tr hb HD.out
   have d0:=cell_heap (k:=0) hD' rfl
   have d1:=cell_heap (k:=1) hD' rfl
   have d2:=cell_heap (k:=2) hD' rfl
   have d3:=cell_heap (k:=3) hD' rfl
   have lD:=heap_lt0 hD'
   have lb:=below_lt hb hbW
   have HTK:=Lib.hid (fun w'=>tileKind_any d (k:Int) w' HC.out.dev (by omega) (by omega))
   have HP1:Hid (padTo d ts 1 (k+1)=padTo d ts 1 k++if padQ d ts 1 k=true then [(k:Int)] else []):=rfl
   have HP2:Hid (padTo d ts 2 (k+1)=padTo d ts 2 k++if padQ d ts 2 k=true then [(k:Int)] else []):=rfl
   have HQ1:Hid (padQ d ts 1 k=(decide (kindOf d (k:Int)=0) && decide ((tileAt ts (k:Int)).pad=1))):=rfl
   have HQ2:Hid (padQ d ts 2 k=(decide (kindOf d (k:Int)=0) && decide ((tileAt ts (k:Int)).pad=2))):=rfl
   have HNW:=Lib.hid (padTo_new d ts 1 k)
   have i0:(0:Int)≤(k:Int):=by omega
   have i1:(k:Int)<(m:Int):=by omega
   clear hs hb ca cl cp cr hD'
   generalize kindOf d (k:Int)=K at *
   generalize (tileAt ts (k:Int)).pad=pd at *
   go_wp2_with fail
   refine (HTK.out _).mono ?_
   rintro e w1 ⟨rfl,b1⟩
   have hs1:=(HSS.out.consBlk _ _).below b1
   have HS1:=Lib.hid hs1
   have HS1T:=Lib.hid hs1.tail
   have hcc:=cell_heap (k:=2) (hs1.blk 0 rfl).1 rfl
   have lc:=heap_lt0 (hs1.blk 0 rfl).1
   clear b1 c0 c1 c2 c3 d0 d1 d2 d3 lD lb hs1
   by_cases hK:K=0
   ·have hK1:(K != 0)=false:=by simp [hK]
    by_cases h1:pd=1
    ·have hp1:(pd==1)=true:=by simp [h1]
     have hp2:(pd==2)=false:=by simp [h1]
     have HR1:Hid (padTo d ts 1 (k+1)=padTo d ts 1 k++[(k:Int)]):=by show _=_;rw [HP1.out,HQ1.out,hK,h1];rfl
     have HR2:Hid (padTo d ts 2 (k+1)=padTo d ts 2 k):=by show _=_;rw [HP2.out,HQ2.out,hK,h1];exact List.append_nil _
     clear hK h1
     go_wp2_with (first
      | (at_builtin;refine wpList_sepPush rfl _ _ rfl _ (HS1.out.alloc _) 9 IA ni ic (padTo d ts 1 k) (k:Int) _ (0,0) rfl rfl rfl (heap_new _ _) (by omega) ?_;intro g9 cap w9 S9 hz9;have T9:=cell_heap (k:=1) (S9.blk 1 rfl).1 rfl;have P9:=cell_heap (k:=2) (S9.blk 0 rfl).1 rfl;have L9:=heap_lt0 (S9.blk 1 rfl).1;have HS9:=Lib.hid S9;clear S9)
      | (at_mapUpdate;refine wpList_sepNum rfl _ _ _ rfl _ HS9.out 2 gI 1 (padTo d ts 1 k) rfl rfl (by have:=HNI.out;omega) (k:Int) _ rfl rfl ⟨by omega,by omega⟩ (by have:=HNI.out;omega) ⟨by omega,by omega⟩ HNW.out ?_;intro w10 S10 hz10;have P10:=cell_heap (k:=2) (S10.blk 0 rfl).1 rfl;have HS10:=Lib.hid S10.tail;clear S10))
     go_roundw
     case rel=>exact ⟨k+1,_,_,_,_,_,_,by omega,by go_num,rfl,rfl,by rw [HR1.out,HR2.out];exact HS10.out⟩
     case measure=>simp [intOf];omega
    ·have hp1:(pd==1)=false:=by simp [h1]
     have HR1:Hid (padTo d ts 1 (k+1)=padTo d ts 1 k):=by show _=_;rw [HP1.out,HQ1.out,decide_eq_false h1,Bool.and_false];exact List.append_nil _
     by_cases h2:pd=2
     ·have hp2:(pd==2)=true:=by simp [h2]
      have HR2:Hid (padTo d ts 2 (k+1)=padTo d ts 2 k++[(k:Int)]):=by show _=_;rw [HP2.out,HQ2.out,hK,h2];rfl
      clear hK h1 h2
      go_wp2_with (at_builtin;refine wpList_sepPush rfl _ _ rfl _ (HS1.out.alloc _) 10 OA no oc (padTo d ts 2 k) (k:Int) _ (0,0) rfl rfl rfl (heap_new _ _) (by omega) ?_;intro g9 cap w9 S9 hz9;have HS9:=Lib.hid S9.tail;clear S9)
      go_roundw
      case rel=>exact ⟨k+1,_,_,_,_,_,_,by omega,by go_num,rfl,rfl,by rw [HR1.out,HR2.out];exact HS9.out⟩
      case measure=>simp [intOf];omega
     ·have hp2:(pd==2)=false:=by simp [h2]
      have HR2:Hid (padTo d ts 2 (k+1)=padTo d ts 2 k):=by show _=_;rw [HP2.out,HQ2.out,decide_eq_false h2,Bool.and_false];exact List.append_nil _
      clear hK h1 h2
      go_wp2_with fail
      go_roundw
      case rel=>exact ⟨k+1,_,_,_,_,_,_,by omega,by go_num,rfl,rfl,by rw [HR1.out,HR2.out];exact HS1T.out⟩
      case measure=>simp [intOf];omega
   ·have hK1:(K != 0)=true:=by simp [hK]
    have HR1:Hid (padTo d ts 1 (k+1)=padTo d ts 1 k):=by show _=_;rw [HP1.out,HQ1.out,decide_eq_false hK,Bool.false_and];exact List.append_nil _
    have HR2:Hid (padTo d ts 2 (k+1)=padTo d ts 2 k):=by show _=_;rw [HP2.out,HQ2.out,decide_eq_false hK,Bool.false_and];exact List.append_nil _
    clear hK
    go_wp2_with fail
    go_roundw
    case rel=>exact ⟨k+1,_,_,_,_,_,_,by omega,by go_num,rfl,rfl,by rw [HR1.out,HR2.out];exact HS1T.out⟩
    case measure=>simp [intOf];omega
  ·have hkm:k=m:=by omega
   have hdk:decide ((k:Int)<(m:Int))=false:=by simp;omega
   have HS2:=Lib.hid (show Sepa W wr (trBlk gT g gI gF gM :: numPc gI 1 (insL d ts) :: pF :: pM :: pL :: pA :: pB :: pC :: .cel (celI (insL d ts)) (.slice IA ni ic) :: .cel (celI (outL d ts)) (.slice OA no oc) :: rs) from by unfold insL outL;rw [HTM.out,←hkm];exact hs)
   clear hs hkm
   go_wp2_with fail
   apply HX.out
   exact HS2.out
end Go.Proofs.YtignkfhdkcgkgaaGreat

namespace Go.Proofs.YtignkfhdkcgkgaaGreat
set_option maxRecDepth 100000
open Go.RowKit

theorem results_cell4t {fn:Func} {p u1 u2 u3:Tmp} {ty t:TypeId} {tmps cs:Array Value} {P:Program} {w:World} {g:Nat} {fs:Array Field} (h:fn.results=#[.cell p ty,.tmp u1,.tmp u2,.tmp u3]) (ht:tmps.getD p undef = .pointer (some ⟨g,0,none⟩)) (hg:w.heap[g]?=some (.cells cs t (0,0)))
  (hu:P.underlying ty=some (.struct fs)) (hi:(P.info? ty).map (·.size)=some cs.size):(results fn tmps).run P w = .ok (.tuple #[.agg cs,tmps.getD u1 undef,tmps.getD u2 undef,tmps.getD u3 undef]) w:=by
 have hl:(loadVar ty ⟨g,0,none⟩).run P w = .ok (.agg cs) w:=run_loadVar_row w g t ty cs (0,0) (.struct fs) hg hu rfl hi
 simp only [results,h]
 simp only [Array.getD_eq_getD_getElem?] at ht
 simp [ht,asAddr,hl]
/-- The pieces seen from an elder world, behind a change of an elder block. -/
theorem Sepa.lower {V W w w':World} {ps:List Pc} {g:Nat} (h:Sepa W w ps) (hb:Below V.heap.size V W) (h1:V.heap.size≤g) (h2:g<W.heap.size) (ho:Only [g] w w'):Sepa V w' ps:=by
 obtain ⟨hB,F,k2,k3,k4⟩:=h
 refine ⟨?_,F,k2.keep ho.size fun k hk=>ho.block k (k2.lt k hk) fun hm=>?_,k3,fun k hk=>Nat.le_trans hb.size (k4 k hk)⟩
 ·have hb2:=below_tr hb hB
  refine ⟨ho.os.trans hb2.os,ho.tape.trans hb2.tape,ho.output.trans hb2.output,Nat.le_trans hb2.size ho.size,fun k hk=>(ho.block k (Nat.lt_of_lt_of_le hk hb2.size) fun hm=>?_).trans (hb2.block k hk)⟩
  rw [List.mem_singleton] at hm
  omega
 ·rw [List.mem_singleton] at hm
  have:=k4 k hk
  omega
def put4 (g:Nat) (w:World) (a b c d:Value):World:=(((w.setCell ⟨g,0,none⟩ a).setCell ⟨g,1,none⟩ b).setCell ⟨g,2,none⟩ c).setCell ⟨g,3,none⟩ d
theorem put4_only (g:Nat) (w:World) (a b c d:Value):Only [g] w (put4 g w a b c d) :=
 (((only_set (p:=⟨g,0,none⟩) (by simp) a).trans (only_set (p:=⟨g,1,none⟩) (by simp) b)).trans (only_set (p:=⟨g,2,none⟩) (by simp) c)).trans (only_set (p:=⟨g,3,none⟩) (by simp) d)
theorem put4_heap {g:Nat} {w:World} {t:TypeId} {x0 x1 x2 x3:Value} (h:w.heap[g]?=some (.cells #[x0,x1,x2,x3] t (0,0))) (a b c d:Value):(put4 g w a b c d).heap[g]?=some (.cells #[a,b,c,d] t (0,0)):=by
 have:=heap_set (heap_set (heap_set (heap_set h 0 a) 1 b) 2 c) 3 d
 exact this
/-- What Disassemble returns: a network, its input tiles, its output tiles, whether there is one. -/
def DisPost (V:World) (r:LNet × List Int × List Int × Bool) (e:Ending) (w':World):Prop:=∃(SA:Option Addr) (sn sc:Nat) (LA:Option Addr) (ln lc:Nat) (OA:Option Addr) (on oc:Nat) (IA:Option Addr) (ni ic:Nat) (UA:Option Addr) (un uc:Nat),
 e = .returned (.tuple #[.agg #[.int .i64 r.1.inputs,.slice SA sn sc,.slice LA ln lc,.slice OA on oc],.slice IA ni ic,.slice UA un uc,.bool r.2.2.2]) ∧
 Sepa V w' [.cel (celLt r.1.luts) (.slice LA ln lc),.cel (celSq r.1.seqs) (.slice SA sn sc),.cel (celI r.1.outs) (.slice OA on oc),.cel (celI r.2.1) (.slice IA ni ic),.cel (celI r.2.2.1) (.slice UA un uc)]
theorem disPost_no {V w':World} {r:LNet × List Int × List Int × Bool} (h:r=(LNet.zero,[],[],false)) (hb:Below V.heap.size V w'):DisPost V r (.returned (.tuple #[.agg #[.int .i64 0,.slice none 0 0,.slice none 0 0,.slice none 0 0],.slice none 0 0,.slice none 0 0,.bool false])) w':=by
 subst h
 exact ⟨none,0,0,none,0,0,none,0,0,none,0,0,none,0,0,rfl,((((Sepa.nil hb).pushNil 110 2).pushNil 105 3).pushNil 3 1).pushNil 3 1 |>.pushNil 3 1⟩
theorem disF_bad {d:Dev} {fs:List (List Int)} (h:framesOk d fs=false):disF d fs=(LNet.zero,[],[],false):=by unfold disF;rw [h];rfl
theorem disF_none {d:Dev} {fs:List (List Int)} (h:framesOk d fs=true) (h2:disT d (tilesOf d fs)=none):disF d fs=(LNet.zero,[],[],false):=by unfold disF;rw [h,h2];rfl
theorem disF_some {d:Dev} {fs:List (List Int)} {l:LNet} (h:framesOk d fs=true) (h2:disT d (tilesOf d fs)=some l):disF d fs=(l,insL d (tilesOf d fs),outL d (tilesOf d fs),true):=by unfold disF;rw [h,h2];rfl
theorem disT_big {d:Dev} {ts:List Tile} (h:(owL d ts).length>12∨(outL d ts).length>16):disT d ts=none:=by unfold disT;rw [if_pos h]
theorem disT_ord {d:Dev} {ts:List Tile} (h:¬((owL d ts).length>12∨(outL d ts).length>16)) (h2:ordA d ts=none):disT d ts=none:=by unfold disT;rw [if_neg h,h2]
theorem disT_go {d:Dev} {ts:List Tile} {pl:List Int} {lt:List Lt} (h:¬((owL d ts).length>12∨(outL d ts).length>16)) (h2:ordA d ts=some (pl,lt)):disT d ts=disP d ts pl lt:=by unfold disT;rw [if_neg h,h2]
theorem disP_sq {d:Dev} {ts:List Tile} {pl:List Int} {lt:List Lt} (h:∃x∈owL d ts,sqOk d ts pl x=false):disP d ts pl lt=none:=by
 obtain ⟨x,hx,h0⟩:=h
 unfold disP
 rw [if_neg]
 rw [Bool.and_eq_true,List.all_eq_true]
 intro hh
 rw [hh.1 x hx] at h0
 cases h0
theorem disP_out {d:Dev} {ts:List Tile} {pl:List Int} {lt:List Lt} (h:∃t∈outL d ts,outN d ts pl t<0):disP d ts pl lt=none:=by
 obtain ⟨x,hx,h0⟩:=h
 unfold disP
 rw [if_neg]
 rw [Bool.and_eq_true,List.all_eq_true,List.all_eq_true]
 intro hh
 have:=of_decide_eq_true (hh.2 x hx)
 omega
theorem disP_yes {d:Dev} {ts:List Tile} {pl:List Int} {lt:List Lt} (h1:∀x∈owL d ts,sqOk d ts pl x=true) (h2:∀t∈outL d ts,0≤outN d ts pl t):disP d ts pl lt=some ⟨((insL d ts).length:Int),(owL d ts).map (sqOf d ts pl),lt,(outL d ts).map (outN d ts pl)⟩:=by
 unfold disP
 rw [if_pos]
 rw [Bool.and_eq_true,List.all_eq_true,List.all_eq_true]
 exact ⟨h1,fun t ht=>decide_eq_true (h2 t ht)⟩
theorem ordF_len {d:Dev} {ts:List Tile}:∀(k:Nat) (pl:List Int) (lt:List Lt) {pl':List Int} {lt':List Lt},ordF d ts k pl lt=some (pl',lt')→pl'.length=pl.length+k
 | 0,pl,lt,pl',lt',h=>by
  rw [ordF] at h
  injection h with h
  injection h with h _
  rw [←h]
  rfl
 | k+1,pl,lt,pl',lt',h=>by
  rw [ordF] at h
  split at h
  ·cases h
  ·have:=ordF_len k _ _ h
   rw [this,List.length_append]
   simp
   omega

set_option maxRecDepth 100000 in
set_option maxHeartbeats 8000000 in
theorem disassemble_any (d:Dev) (A:Option Addr) (n c:Nat) (fs:List (List Int)) (w:World) (hA:Rows2 w A n fs) (hz:size2 fs≤1099511627776) :
  Calls Tryz.prog 30 #[.agg #[.int .i64 d.W,.int .i64 d.H,.int .i64 d.T,.int .i64 d.R],.slice A n c] w (DisPost w (disF d fs)):=by
 have HB0:=Lib.hid (below_new (below_new (Below.refl w.heap.size w) (.cells #[.int .i64 d.W,.int .i64 d.H,.int .i64 d.T,.int .i64 d.R] 25)) (.cells #[.int .i64 0,.slice none 0 0,.slice none 0 0,.slice none 0 0] 61))
 have HI:=Lib.hid hA
 clear hA
 have HRES:=Lib.hid (fun (w':World) (v0 v1 v2 v3:Value) (h:w'.heap[w.heap.size+1]?=some (.cells #[.int .i64 0,.slice none 0 0,.slice none 0 0,.slice none 0 0] 61 (0,0)))=>put4_heap h v0 v1 v2 v3)
 have hmm:∀(t:TypeId) (w:World),(Instr.makeMap t none).run Tryz.prog w = .ok (.map (some w.heap.size)) (w.alloc (.map #[] 0)):=fun t w=>run_makeMap t w
 go_enter Tryz.func30,Tryz.ntmps30
 go_wp2_with fail
 refine (framesOk_any d A n c fs _ (HI.out.below HB0.out) hz).mono ?_
 rintro e w1 ⟨rfl,b1⟩
 have hs1:=b1.size
 simp only [World.size_alloc] at hs1
 have D1:=Lib.hid b1
 obtain ⟨hcc,hff⟩:=bcell b1
 have hR1:=heap_tr b1 (heap_new (w.alloc (.cells #[.int .i64 d.W,.int .i64 d.H,.int .i64 d.T,.int .i64 d.R] 25)) (.cells #[.int .i64 0,.slice none 0 0,.slice none 0 0,.slice none 0 0] 61))
 have hD1:=heap_tr b1 (heap_al (.cells #[.int .i64 0,.slice none 0 0,.slice none 0 0,.slice none 0 0] 61) (heap_new w (.cells #[.int .i64 d.W,.int .i64 d.H,.int .i64 d.T,.int .i64 d.R] 25)))
 simp only [World.size_alloc] at hR1
 have HR1:=Lib.hid hR1
 have HD1:=Lib.hid hD1
 clear b1 hR1 hD1
 cases hf:framesOk d fs with
 | false =>
  have HF:=Lib.hid (disF_bad hf)
  have r0:=cell_heap (k:=0) HR1.out rfl
  have r1:=cell_heap (k:=1) HR1.out rfl
  have r2:=cell_heap (k:=2) HR1.out rfl
  have r3:=cell_heap (k:=3) HR1.out rfl
  have f0:=frozen_heap HR1.out 0
  have f1:=frozen_heap HR1.out 1
  have f2:=frozen_heap HR1.out 2
  have f3:=frozen_heap HR1.out 3
  have lR:=heap_lt0 HR1.out
  clear hf hcc hff
  go_wp2_with fail
  refine bodyPost_ret (v := .tuple #[.agg #[.int .i64 0,.slice none 0 0,.slice none 0 0,.slice none 0 0],.slice none 0 0,.slice none 0 0,.bool false]) (results_cell4t Tryz.results30 rfl (HRES.out w1 _ _ _ _ HR1.out) Tryz.underlying61 (by kernel_rfl)) rfl (disPost_no HF.out ((Sepa.nil (Below.refl w1.heap.size w1)).lower (below_tr HB0.out D1.out) (by omega) (by omega) (put4_only _ _ _ _ _ _)).bel)
 | true =>
  have HFO:=Lib.hid hf
  have hdv:=(framesOk_iff hf).1
  have HDV:=Lib.hid hdv
  clear hf hdv
  go_wp2_with fail
  refine (emulatorOf_any d A n c fs _ (HI.out.below (below_tr HB0.out D1.out)) HFO.out).mono ?_
  rintro e w3 ⟨g,TA,tc,EA,DA,rfl,hem,b3⟩
  have hc:=cfg_of_frames HFO.out
  have hN0:((nodesOf d).toNat:Int)=nodesOf d:=by have:=nodesOf_bd HDV.out;omega
  have hn36:n≤36:=by have h1:=tiles_eq HDV.out;have h2:=hc.len;have h3:=hem.tiles.tlen;omega
  have hs3:=b3.size
  have HD3:=Lib.hid (heap_tr b3 HD1.out)
  have HR3:=Lib.hid (heap_tr b3 HR1.out)
  have HB3:=Lib.hid (below_tr (below_tr HB0.out D1.out) b3)
  have HE:=Lib.hid hem
  have HC:=Lib.hid hc
  have HN:=Lib.hid hN0
  have hzs:w.heap.size+1<w3.heap.size:=by omega
  have x4:=cell_heap (k:=4) hem.box rfl
  have lg:=heap_lt0 hem.box
  have lg1:g<w3.heap.size+1:=by omega
  have lg2:g<w3.heap.size+1+1:=by omega
  have lg3:g<w3.heap.size+1+1+1:=by omega
  have lg4:g<w3.heap.size+1+1+1+1:=by omega
  have HRET:=Lib.hid (fun (w':World) (hb:Below w3.heap.size w3 w') (h0:disF d fs=(LNet.zero,[],[],false))=>disPost_no h0 ((Sepa.nil hb).lower (g:=w.heap.size+1) HB3.out (by omega) hzs (put4_only _ _ (.int .i64 0) (.slice none 0 0) (.slice none 0 0) (.slice none 0 0))).bel)
  have HZR:=Lib.hid (fun (w':World) (hb:Below w3.heap.size w3 w')=>HRES.out w' (.int .i64 0) (.slice none 0 0) (.slice none 0 0) (.slice none 0 0) (heap_tr hb HR3.out))
  generalize hts:tilesOf d fs=ts at *
  have HTS:=Lib.hid hts
  have S1:=(Sepa.refl w3).pushMap 1
  replace S1:=S1.pushMap (sqB d ts)
  replace S1:=S1.pushMap (ltB d ts)
  replace S1:=S1.consBlk #[.pointer (some ⟨g,0,none⟩),.map (some w3.heap.size),.map (some (w3.heap.size+1)),.map (some (w3.heap.size+1+1))] 118
  replace S1:=S1.pushBlk #[.int .i64 0,.slice none 0 0,.slice none 0 0,.slice none 0 0] 61
  replace S1:=((((S1.pushNil 110 2).pushNil 105 3).pushNil 3 1).pushNil 3 1).pushNil 3 1
  simp only [World.size_alloc] at S1
  have HS1:=Lib.hid S1
  clear b3 hem hc hN0 S1 hts hcc hff
  go_wp2_with fail
  refine dis_lp1 w3 w.heap.size (w3.heap.size+1+1+1) g w3.heap.size (w3.heap.size+1) (w3.heap.size+1+1) d ts TA n tc EA DA _ _ _ _ _ _ _ [] _ HE.out HC.out HD3.out HS1.out ?_
  intro IA ni ic OA no oc
  intros
  rename_i w4 hS4
  have hni:=(hS4.ints 8 rfl).1
  have hno:=(hS4.ints 9 rfl).1
  subst hni hno
  have HS4:=Lib.hid hS4
  have l0:=cell_heap (k:=0) (hS4.blk 4 rfl).1 rfl
  have f0:=frozen_heap (hS4.blk 4 rfl).1 0
  have lL:=heap_lt0 (hS4.blk 4 rfl).1
  clear hS4 hmm x4
  go_upto_region 17 with fail
  have HS5:=Lib.hid ((HS4.out.put 4 rfl 0 (.int .i64 ((insL d ts).length:Int))).pushNil 3 1)
  clear l0 f0 lL HS4
  generalize w4.setCell _ _=w5 at *
  have z0:=cell_heap (k:=0) (HS5.out.blk 0 rfl).1 rfl
  have lT:=heap_lt0 (HS5.out.blk 0 rfl).1
  have x4:=cell_heap (k:=4) (HE.out.below HS5.out.bel).box rfl
  have lg5:=heap_lt0 (HE.out.below HS5.out.bel).box
  go_wp2_with fail
  refine dis_lp2 w3 w.heap.size (w3.heap.size+1+1+1) g w3.heap.size (w3.heap.size+1) (w3.heap.size+1+1) (w3.heap.size+1+1+1+1) d ts TA n tc EA DA _ ((insL d ts).length:Int) (.slice none 0 0) (.slice none 0 0) _ _ _ _ _ _ [] w5 HE.out HC.out HD3.out rfl HS5.out ?_
  clear HS5 z0 lT x4 lg5
  intro SA sc WA wq
  intros
  rename_i w6 hS6
  have HS6:=Lib.hid hS6
  have l1:=cell_heap (k:=1) (hS6.blk 4 rfl).1 rfl
  have lL:=heap_lt0 (hS6.blk 4 rfl).1
  have HRZ:=Lib.hid (heap_tr hS6.bel HR3.out)
  have lR:=heap_lt0 HRZ.out
  have hq72:(owL d ts).length≤72:=by have h1:=owTo_length d ts ts.length;have h2:=HE.out.tiles.tlen;unfold owL;omega
  have hu36:(outL d ts).length≤36:=by have h1:=padTo_length d ts 2 ts.length;have h2:=HE.out.tiles.tlen;unfold outL;omega
  clear hS6
  generalize hq:(owL d ts).length=q at *
  generalize hu:(outL d ts).length=u at *
  have HQ:=Lib.hid hq
  have HU:=Lib.hid hu
  clear hq hu
  by_cases hbig:q>12∨u>16
  ·have HF:=Lib.hid (disF_none HFO.out (by rw [HTS.out];exact disT_big (by rw [HQ.out,HU.out];exact hbig)))
   have r0:=cell_heap (k:=0) HRZ.out rfl
   have r1:=cell_heap (k:=1) HRZ.out rfl
   have r2:=cell_heap (k:=2) HRZ.out rfl
   have r3:=cell_heap (k:=3) HRZ.out rfl
   have f0:=frozen_heap HRZ.out 0
   have f1:=frozen_heap HRZ.out 1
   have f2:=frozen_heap HRZ.out 2
   have f3:=frozen_heap HRZ.out 3
   have hcase:decide ((12:Int)<(q:Int))=true∨decide ((12:Int)<(q:Int))=false∧decide ((16:Int)<(u:Int))=true:=by
    by_cases h:12<q
    ·exact .inl (decide_eq_true (by omega))
    ·exact .inr ⟨decide_eq_false (by omega),decide_eq_true (by omega)⟩
   clear hbig
   rcases hcase with h1|⟨h1,h2⟩
   all_goals
    go_wp2_with fail
    refine bodyPost_ret (v := .tuple #[.agg #[.int .i64 0,.slice none 0 0,.slice none 0 0,.slice none 0 0],.slice none 0 0,.slice none 0 0,.bool false]) (results_cell4t Tryz.results30 rfl (HZR.out w6 HS6.out.bel) Tryz.underlying61 (by kernel_rfl)) rfl (HRET.out w6 HS6.out.bel HF.out)
  ·have h1:decide ((12:Int)<(q:Int))=false:=decide_eq_false (by omega)
   have h2:decide ((16:Int)<(u:Int))=false:=decide_eq_false (by omega)
   have HNB:Hid (¬((owL d ts).length>12∨(outL d ts).length>16)):=by show ¬_;rw [HQ.out,HU.out];exact hbig
   clear hbig
   go_wp2_with fail
   refine (order_any w3 (w3.heap.size+1+1+1) g w3.heap.size (w3.heap.size+1) (w3.heap.size+1+1) (w3.heap.size+1+1+1+1) d ts TA n tc EA DA _ ((insL d ts).length:Int) SA q sc (.slice none 0 0) none 0 0 _ w6 rfl HE.out HN.out HC.out rfl HQ.out.symm HS6.out).mono ?_
   intro e w7 hO
   unfold OrdPost at hO
   cases hA:ordA d ts with
   | none =>
    rw [hA] at hO
    obtain ⟨rfl,hb7⟩:=hO
    have HF:=Lib.hid (disF_none HFO.out (by rw [HTS.out];exact disT_ord HNB.out hA))
    have HB7:=Lib.hid hb7
    have HRZ7:=Lib.hid (heap_tr hb7 HR3.out)
    have r0:=cell_heap (k:=0) HRZ7.out rfl
    have r1:=cell_heap (k:=1) HRZ7.out rfl
    have r2:=cell_heap (k:=2) HRZ7.out rfl
    have r3:=cell_heap (k:=3) HRZ7.out rfl
    have f0:=frozen_heap HRZ7.out 0
    have f1:=frozen_heap HRZ7.out 1
    have f2:=frozen_heap HRZ7.out 2
    have f3:=frozen_heap HRZ7.out 3
    have lR7:=heap_lt0 HRZ7.out
    clear hA hb7 l1 lL lR
    go_wp2_with fail
    refine bodyPost_ret (v := .tuple #[.agg #[.int .i64 0,.slice none 0 0,.slice none 0 0,.slice none 0 0],.slice none 0 0,.slice none 0 0,.bool false]) (results_cell4t Tryz.results30 rfl (HZR.out w7 HB7.out) Tryz.underlying61 (by kernel_rfl)) rfl (HRET.out w7 HB7.out HF.out)
   | some r =>
    obtain ⟨pl,lt⟩:=r
    rw [hA] at hO
    obtain ⟨LA,lc,rfl,hpl,hS7⟩:=hO
    have hpll:pl.length≤100:=by have h1:=ordF_len _ _ _ hA;have h2:=lgTo_length d ts.length;have h3:=HE.out.tiles.tlen;simp only [List.length_nil] at h1;unfold lgL at h1;omega
    have HDT:=Lib.hid (disT_go HNB.out hA)
    have HPL:=Lib.hid hpl
    rw [←sqMid_zero d ts pl] at hS7
    have HS7:=Lib.hid hS7
    clear hA hS7 hpl l1 lL lR
    go_wp2_with fail
    refine dis_lp4 w3 (w.heap.size+1) w.heap.size (w3.heap.size+1+1+1) g w3.heap.size (w3.heap.size+1) (w3.heap.size+1+1) (w3.heap.size+1+1+1+1) d ts TA n tc EA DA _ ((insL d ts).length:Int) _ _ pl SA q sc WA q wq _ _ _ _ [] w7 HE.out HN.out HC.out HD3.out HR3.out hpll HS7.out ?_ ?_
    ·intros
     rename_i w8 h8
     obtain ⟨hok,hS8⟩:=h8
     rw [sqMid_full] at hS8
     have HS8:=Lib.hid hS8
     have HOK:=Lib.hid hok
     clear hok hS8
     go_wp2_with fail
     refine dis_lp6 w3 (w.heap.size+1) w.heap.size (w3.heap.size+1+1+1) g w3.heap.size (w3.heap.size+1) (w3.heap.size+1+1) (w3.heap.size+1+1+1+1) d ts TA n tc EA DA _ ((insL d ts).length:Int) _ _ pl OA u oc _ _ _ _ w8 HE.out HN.out HC.out HD3.out HR3.out HS8.out ?_ ?_
     ·intro O2 o2
      intros
      rename_i w9 h9
      obtain ⟨hout,hS9⟩:=h9
      have HF:=Lib.hid (disF_some HFO.out (by rw [HTS.out,HDT.out];exact disP_yes HOK.out hout))
      have HS9:=Lib.hid hS9
      have HRZ9:=Lib.hid (heap_tr hS9.bel HR3.out)
      have l0:=cell_heap (k:=0) (hS9.blk 4 rfl).1 rfl
      have l1:=cell_heap (k:=1) (hS9.blk 4 rfl).1 rfl
      have l2:=cell_heap (k:=2) (hS9.blk 4 rfl).1 rfl
      have l3:=cell_heap (k:=3) (hS9.blk 4 rfl).1 rfl
      have lL:=heap_lt0 (hS9.blk 4 rfl).1
      have r0:=cell_heap (k:=0) HRZ9.out rfl
      have r1:=cell_heap (k:=1) HRZ9.out rfl
      have r2:=cell_heap (k:=2) HRZ9.out rfl
      have r3:=cell_heap (k:=3) HRZ9.out rfl
      have f0:=frozen_heap HRZ9.out 0
      have f1:=frozen_heap HRZ9.out 1
      have f2:=frozen_heap HRZ9.out 2
      have f3:=frozen_heap HRZ9.out 3
      have lR:=heap_lt0 HRZ9.out
      clear hout hS9
      go_wp2_with fail
      refine bodyPost_ret (v := .tuple #[.agg #[.int .i64 ((insL d ts).length:Int),.slice SA q sc,.slice LA lt.length lc,.slice O2 (outL d ts).length o2],.slice IA (insL d ts).length ic,.slice OA u oc,.bool true]) (results_cell4t Tryz.results30 rfl (HRES.out w9 _ _ _ _ HRZ9.out) Tryz.underlying61 (by kernel_rfl)) rfl ?_
      rw [HF.out,HTS.out]
      exact ⟨SA,q,sc,LA,lt.length,lc,O2,_,o2,IA,_,ic,OA,u,oc,rfl,(HS9.out.sub (List.Sublist.cons _ (List.Sublist.cons _ (List.Sublist.cons _ (List.Sublist.cons _ (List.Sublist.cons _ (List.Sublist.cons_cons _ (List.Sublist.cons_cons _ (List.Sublist.cons_cons _ (List.Sublist.cons_cons _ (List.Sublist.cons_cons _ (List.Sublist.cons _ List.Sublist.slnil)))))))))))).lower HB3.out (by omega) hzs (put4_only _ _ _ _ _ _)⟩
     ·intros
      rename_i w9 h9
      obtain ⟨hbad,hb9⟩:=h9
      have HF:=disF_none HFO.out (by rw [HTS.out,HDT.out];exact disP_out hbad)
      refine bodyPost_ret (v := .tuple #[.agg #[.int .i64 0,.slice none 0 0,.slice none 0 0,.slice none 0 0],.slice none 0 0,.slice none 0 0,.bool false]) (results_cell4t Tryz.results30 rfl (HZR.out w9 hb9) Tryz.underlying61 (by kernel_rfl)) rfl (HRET.out w9 hb9 HF)
    ·intros
     rename_i w8 h8
     obtain ⟨hbad,hb8⟩:=h8
     have HF:=disF_none HFO.out (by rw [HTS.out,HDT.out];exact disP_sq hbad)
     refine bodyPost_ret (v := .tuple #[.agg #[.int .i64 0,.slice none 0 0,.slice none 0 0,.slice none 0 0],.slice none 0 0,.slice none 0 0,.bool false]) (results_cell4t Tryz.results30 rfl (HZR.out w8 hb8) Tryz.underlying61 (by kernel_rfl)) rfl (HRET.out w8 hb8 HF)
end Go.Proofs.YtignkfhdkcgkgaaGreat
