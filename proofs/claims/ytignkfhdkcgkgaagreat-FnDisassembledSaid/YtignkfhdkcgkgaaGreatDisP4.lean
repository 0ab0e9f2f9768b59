/- The fourth loop of the program's Disassemble: what goes into the sequential elements (printed by mkdisp.py). -/
import Derived.Test.YtignkfhdkcgkgaaGreatDisR9
namespace Go.Proofs.YtignkfhdkcgkgaaGreat
set_option maxRecDepth 100000
open Go.RowKit

set_option maxRecDepth 100000 in
set_option maxHeartbeats 8000000 in
theorem dis_lp4 (W:World) (gR gD gT g gI gF gM gL:Nat) (d:Dev) (ts:List Tile) (TA:Option Addr) (m tc:Nat) (EA DA:Option Addr) (N:Nat) (In:Int) (Lv Ov:Value) (pl:List Int) (SA:Option Addr) (sn sc:Nat) (WA:Option Addr) (wn wq:Nat) (pA pC pi po:Pc) (rs:List Pc) {v0 v1 v3 v5 v6 v7 v10 v11 v12 v13 v14 v15 v16 v17 v18 v19 v20 v21 v22 v23 v24 v25 v26 v27 v28 v29 v30 v31 v32 v33 v34 v35 v36 v37 v38 v39 v40 v41 v42 v43 v44 v45 v46 v47 v48 v49 v50 v51 v52 v53 v54 v55 v56 v57 v58 v59 v60 v61 v62 v63 v64 v65 v66 v67 v68 v69 v70 v71 v72 v73 v74 v75 v76 v77 v78 v79 v80 v81 v82 v83 v84 v85 v86 v87 v88 v89 v90 v91 v92 v93 v94 v95 v96 v97 v98 v99 v100 v101 v102 v103 v104 v105 v106 v107 v108 v109 v110 v111 v112 v113 v114 v115 v116 v117 v118 v119 v120 v121 v122 v123 v124 v125 v126 v127 v128 v129 v130 v131 v132 v133 v134 v135 v136 v137 v138 v139 v140 v141 v142 v143 v144 v145 v146 v147 v148 v149 v150 v151 v152 v153 v154 v155 v156 v157 v158 v159 v160 v161 v162 v163 v164 v165 v166 v167 v168 v169 v170 v171 v172 v173 v174 v175 v176 v177 v178 v179 v180 v181 v182 v183 v184 v185 v186 v190 v191 v192 v193 v194 v195 v196 v197 v198 v199 v200 v201 v202 v203 v204 v205 v206 v207 v208 v209 v210 v211 v212 v213 v214 v215 v216 v217 v218 v219 v220 v221 v222 v223 v224 v225 v226 v227 v228 v229 v230 v231 v232 v233 v234 v235 v236 v237 v238 v239 v240 v241 v242 v243 v244 v245 v246 v247 v248 v249 v250 v251 v252 v253 v254 v255 v256 v257 v258 v259 v260 v261 v262 v263 v264 v265 v266 v267 v268 v269 v270 v271 v272 v273 v274:Value} {Q0:Exit→Act→World→Prop} (w:World) (hE:EmuAt W g d ts TA m tc EA DA N) (hN:(N:Int)=nodesOf d) (hc:CfgOk d ts) (hD:W.heap[gD]?=some (.cells #[.int .i64 d.W,.int .i64 d.H,.int .i64 d.T,.int .i64 d.R] 25 (0,0))) (hR:W.heap[gR]?=some (.cells #[.int .i64 0,.slice none 0 0,.slice none 0 0,.slice none 0 0] 61 (0,0))) (_hpl:pl.length≤100) (S:Sepa W w (trBlk gT g gI gF gM :: numPc gI 1 (insL d ts) :: numPc gF (sqB d ts) (owL d ts) :: numPc gM (ltB d ts) pl :: lnBlk gL In (.slice SA sn sc) Lv Ov :: pA :: .cel (celSq (sqMid d ts pl 0)) (.slice SA sn sc) :: pC :: pi :: po :: .cel (celI (owL d ts)) (.slice WA wn wq) :: rs))
  (hexit:∀(y5 y6 y7 y19 y20 y21 y22 y23 y189 y190 y191 y192 y193 y194 y195 y196 y197 y198 y199 y200 y201 y202 y203 y204 y205 y206 y207 y208 y209 y210 y211 y212 y213 y214 y215 y216 y217 y218 y219 y220 y221 y222 y223 y224 y225 y226 y227 y228 y229 y230 y231 y232 y233 y234 y235 y236 y237 y238 y239 y240 y241 y242 y243 y244 y245 y246:Value) (w':World),(∀x∈owL d ts,sqOk d ts pl x=true)∧Sepa W w' (trBlk gT g gI gF gM :: numPc gI 1 (insL d ts) :: numPc gF (sqB d ts) (owL d ts) :: numPc gM (ltB d ts) pl :: lnBlk gL In (.slice SA sn sc) Lv Ov :: pA :: .cel (celSq (sqMid d ts pl (owL d ts).length)) (.slice SA sn sc) :: pC :: pi :: po :: .cel (celI (owL d ts)) (.slice WA wn wq) :: rs)→Q0 (.exit 7) ⟨List.toArray (v0 :: v1 :: .pointer (some ⟨gD,0,none⟩) :: v3 :: .pointer (some ⟨gR,0,none⟩) :: y5 :: y6 :: y7 :: .pointer (some ⟨gT,0,none⟩) :: .pointer (some ⟨gL,0,none⟩) :: v10 :: v11 :: v12 :: v13 :: v14 :: v15 :: v16 :: v17 :: v18 :: y19 :: y20 :: y21 :: y22 :: y23 :: v24 :: v25 :: v26 :: v27 :: v28 :: v29 :: v30 :: v31 :: v32 :: v33 :: v34 :: v35 :: v36 :: v37 :: v38 :: v39 :: v40 :: v41 :: v42 :: v43 :: v44 :: v45 :: v46 :: v47 :: v48 :: v49 :: v50 :: v51 :: v52 :: v53 :: v54 :: v55 :: v56 :: v57 :: v58 :: v59 :: v60 :: v61 :: v62 :: v63 :: v64 :: v65 :: v66 :: v67 :: v68 :: v69 :: v70 :: v71 :: v72 :: v73 :: v74 :: v75 :: v76 :: v77 :: v78 :: v79 :: v80 :: v81 :: v82 :: v83 :: v84 :: v85 :: v86 :: v87 :: v88 :: v89 :: v90 :: v91 :: v92 :: v93 :: v94 :: v95 :: v96 :: v97 :: v98 :: v99 :: v100 :: v101 :: v102 :: v103 :: v104 :: v105 :: v106 :: v107 :: v108 :: v109 :: v110 :: v111 :: v112 :: v113 :: v114 :: v115 :: v116 :: v117 :: v118 :: v119 :: v120 :: v121 :: v122 :: v123 :: v124 :: v125 :: v126 :: v127 :: v128 :: v129 :: v130 :: v131 :: v132 :: v133 :: v134 :: v135 :: v136 :: v137 :: v138 :: v139 :: v140 :: v141 :: v142 :: v143 :: v144 :: v145 :: v146 :: v147 :: v148 :: v149 :: v150 :: v151 :: v152 :: v153 :: v154 :: v155 :: v156 :: v157 :: v158 :: v159 :: v160 :: v161 :: v162 :: v163 :: v164 :: v165 :: v166 :: v167 :: v168 :: v169 :: v170 :: v171 :: v172 :: v173 :: v174 :: v175 :: v176 :: v177 :: v178 :: v179 :: v180 :: v181 :: v182 :: v183 :: v184 :: v185 :: v186 :: .slice WA wn wq :: .int .i64 (wn:Int) :: y189 :: y190 :: y191 :: y192 :: y193 :: y194 :: y195 :: y196 :: y197 :: y198 :: y199 :: y200 :: y201 :: y202 :: y203 :: y204 :: y205 :: y206 :: y207 :: y208 :: y209 :: y210 :: y211 :: y212 :: y213 :: y214 :: y215 :: y216 :: y217 :: y218 :: y219 :: y220 :: y221 :: y222 :: y223 :: y224 :: y225 :: y226 :: y227 :: y228 :: y229 :: y230 :: y231 :: y232 :: y233 :: y234 :: y235 :: y236 :: y237 :: y238 :: y239 :: y240 :: y241 :: y242 :: y243 :: y244 :: y245 :: y246 :: v247 :: v248 :: v249 :: v250 :: v251 :: v252 :: v253 :: v254 :: v255 :: v256 :: v257 :: v258 :: v259 :: v260 :: v261 :: v262 :: v263 :: v264 :: v265 :: v266 :: v267 :: v268 :: v269 :: v270 :: v271 :: v272 :: v273 :: v274 :: []),[]⟩ w')
  (hret:∀(y19 y20 y21 y22 y23 y189 y190 y191 y192 y193 y194 y195 y196 y197 y198 y199 y200 y201 y202 y203 y204 y205 y206 y207 y208 y209 y210 y211 y212 y213 y214 y215 y216 y217 y218 y219 y220 y221 y222 y223 y224 y225 y226 y227 y228 y229 y230 y231 y232 y233 y234 y235 y236 y237 y238 y239 y240 y241 y242 y243 y244 y245 y246:Value) (w':World),(∃x∈owL d ts,sqOk d ts pl x=false)∧Below W.heap.size W w'→Q0 .ret ⟨List.toArray (v0 :: v1 :: .pointer (some ⟨gD,0,none⟩) :: v3 :: .pointer (some ⟨gR,0,none⟩) :: .slice none 0 0 :: .slice none 0 0 :: .bool false :: .pointer (some ⟨gT,0,none⟩) :: .pointer (some ⟨gL,0,none⟩) :: v10 :: v11 :: v12 :: v13 :: v14 :: v15 :: v16 :: v17 :: v18 :: y19 :: y20 :: y21 :: y22 :: y23 :: v24 :: v25 :: v26 :: v27 :: v28 :: v29 :: v30 :: v31 :: v32 :: v33 :: v34 :: v35 :: v36 :: v37 :: v38 :: v39 :: v40 :: v41 :: v42 :: v43 :: v44 :: v45 :: v46 :: v47 :: v48 :: v49 :: v50 :: v51 :: v52 :: v53 :: v54 :: v55 :: v56 :: v57 :: v58 :: v59 :: v60 :: v61 :: v62 :: v63 :: v64 :: v65 :: v66 :: v67 :: v68 :: v69 :: v70 :: v71 :: v72 :: v73 :: v74 :: v75 :: v76 :: v77 :: v78 :: v79 :: v80 :: v81 :: v82 :: v83 :: v84 :: v85 :: v86 :: v87 :: v88 :: v89 :: v90 :: v91 :: v92 :: v93 :: v94 :: v95 :: v96 :: v97 :: v98 :: v99 :: v100 :: v101 :: v102 :: v103 :: v104 :: v105 :: v106 :: v107 :: v108 :: v109 :: v110 :: v111 :: v112 :: v113 :: v114 :: v115 :: v116 :: v117 :: v118 :: v119 :: v120 :: v121 :: v122 :: v123 :: v124 :: v125 :: v126 :: v127 :: v128 :: v129 :: v130 :: v131 :: v132 :: v133 :: v134 :: v135 :: v136 :: v137 :: v138 :: v139 :: v140 :: v141 :: v142 :: v143 :: v144 :: v145 :: v146 :: v147 :: v148 :: v149 :: v150 :: v151 :: v152 :: v153 :: v154 :: v155 :: v156 :: v157 :: v158 :: v159 :: v160 :: v161 :: v162 :: v163 :: v164 :: v165 :: v166 :: v167 :: v168 :: v169 :: v170 :: v171 :: v172 :: v173 :: v174 :: v175 :: v176 :: v177 :: v178 :: v179 :: v180 :: v181 :: v182 :: v183 :: v184 :: v185 :: v186 :: .slice WA wn wq :: .int .i64 (wn:Int) :: y189 :: y190 :: y191 :: y192 :: y193 :: y194 :: y195 :: y196 :: y197 :: y198 :: y199 :: y200 :: y201 :: y202 :: y203 :: y204 :: y205 :: y206 :: y207 :: y208 :: y209 :: y210 :: y211 :: y212 :: y213 :: y214 :: y215 :: y216 :: y217 :: y218 :: y219 :: y220 :: y221 :: y222 :: y223 :: y224 :: y225 :: y226 :: y227 :: y228 :: y229 :: y230 :: y231 :: y232 :: y233 :: y234 :: y235 :: y236 :: y237 :: y238 :: y239 :: y240 :: y241 :: y242 :: y243 :: y244 :: y245 :: y246 :: v247 :: v248 :: v249 :: v250 :: v251 :: v252 :: v253 :: v254 :: v255 :: v256 :: v257 :: v258 :: v259 :: v260 :: v261 :: v262 :: v263 :: v264 :: v265 :: v266 :: v267 :: v268 :: v269 :: v270 :: v271 :: v272 :: v273 :: v274 :: []),[]⟩ ((((w'.setCell ⟨gR,0,none⟩ (.int .i64 0)).setCell ⟨gR,1,none⟩ (.slice none 0 0)).setCell ⟨gR,2,none⟩ (.slice none 0 0)).setCell ⟨gR,3,none⟩ (.slice none 0 0)))
  : Code.wp Tryz.prog (loopAt Tryz.f30 2) Q0 ⟨List.toArray (v0 :: v1 :: .pointer (some ⟨gD,0,none⟩) :: v3 :: .pointer (some ⟨gR,0,none⟩) :: v5 :: v6 :: v7 :: .pointer (some ⟨gT,0,none⟩) :: .pointer (some ⟨gL,0,none⟩) :: v10 :: v11 :: v12 :: v13 :: v14 :: v15 :: v16 :: v17 :: v18 :: v19 :: v20 :: v21 :: v22 :: v23 :: v24 :: v25 :: v26 :: v27 :: v28 :: v29 :: v30 :: v31 :: v32 :: v33 :: v34 :: v35 :: v36 :: v37 :: v38 :: v39 :: v40 :: v41 :: v42 :: v43 :: v44 :: v45 :: v46 :: v47 :: v48 :: v49 :: v50 :: v51 :: v52 :: v53 :: v54 :: v55 :: v56 :: v57 :: v58 :: v59 :: v60 :: v61 :: v62 :: v63 :: v64 :: v65 :: v66 :: v67 :: v68 :: v69 :: v70 :: v71 :: v72 :: v73 :: v74 :: v75 :: v76 :: v77 :: v78 :: v79 :: v80 :: v81 :: v82 :: v83 :: v84 :: v85 :: v86 :: v87 :: v88 :: v89 :: v90 :: v91 :: v92 :: v93 :: v94 :: v95 :: v96 :: v97 :: v98 :: v99 :: v100 :: v101 :: v102 :: v103 :: v104 :: v105 :: v106 :: v107 :: v108 :: v109 :: v110 :: v111 :: v112 :: v113 :: v114 :: v115 :: v116 :: v117 :: v118 :: v119 :: v120 :: v121 :: v122 :: v123 :: v124 :: v125 :: v126 :: v127 :: v128 :: v129 :: v130 :: v131 :: v132 :: v133 :: v134 :: v135 :: v136 :: v137 :: v138 :: v139 :: v140 :: v141 :: v142 :: v143 :: v144 :: v145 :: v146 :: v147 :: v148 :: v149 :: v150 :: v151 :: v152 :: v153 :: v154 :: v155 :: v156 :: v157 :: v158 :: v159 :: v160 :: v161 :: v162 :: v163 :: v164 :: v165 :: v166 :: v167 :: v168 :: v169 :: v170 :: v171 :: v172 :: v173 :: v174 :: v175 :: v176 :: v177 :: v178 :: v179 :: v180 :: v181 :: v182 :: v183 :: v184 :: v185 :: v186 :: .slice WA wn wq :: .int .i64 (wn:Int) :: .int .i64 0 :: v190 :: v191 :: v192 :: v193 :: v194 :: v195 :: v196 :: v197 :: v198 :: v199 :: v200 :: v201 :: v202 :: v203 :: v204 :: v205 :: v206 :: v207 :: v208 :: v209 :: v210 :: v211 :: v212 :: v213 :: v214 :: v215 :: v216 :: v217 :: v218 :: v219 :: v220 :: v221 :: v222 :: v223 :: v224 :: v225 :: v226 :: v227 :: v228 :: v229 :: v230 :: v231 :: v232 :: v233 :: v234 :: v235 :: v236 :: v237 :: v238 :: v239 :: v240 :: v241 :: v242 :: v243 :: v244 :: v245 :: v246 :: v247 :: v248 :: v249 :: v250 :: v251 :: v252 :: v253 :: v254 :: v255 :: v256 :: v257 :: v258 :: v259 :: v260 :: v261 :: v262 :: v263 :: v264 :: v265 :: v266 :: v267 :: v268 :: v269 :: v270 :: v271 :: v272 :: v273 :: v274 :: []),[]⟩ w:=by
 have hm36:m≤36:=by have:=tiles_eq hc.dev;have:=hc.len;have:=hE.tiles.tlen;omega
 have HOW:Hid (∀x,x∈owL d ts→0≤x∧x<2 * (m:Int)∧tileIn d (x / 2)=true):=fun x hx=>by
  have h1:=owTo_in.1 hx
  have h2:=tiles_eq hc.dev
  have h3:=hc.len
  have h4:=hE.tiles.tlen
  exact ⟨h1.1,by omega,tileIn_iff.2 ⟨hc.dev,by omega,by omega⟩⟩
 have hpb:=perT_bd hc.dev
 have hwn:=(S.ints 10 rfl).1
 have hwu:wn≤72:=by have h1:=owTo_length d ts ts.length;have h2:=hE.tiles.tlen;unfold owL at hwn;omega
 have hsn:sn=wn:=by have h:=OwnC.sqLen (S.rd 6 rfl);rw [sqMid_length] at h;omega
 subst hsn
 have HWN:=Lib.hid hwn
 have HE:=Lib.hid hE
 have HC:=Lib.hid hc
 have HD:=Lib.hid hD
 have HRR:=Lib.hid hR
 have HN:=Lib.hid hN
 have HS:=Lib.hid S
 have HX:=Lib.hid hexit
 have HZ:=Lib.hid hret
 have HNF:=Lib.hid (fun x=>numF_bd (base:=ltB d ts) (l:=pl) (x:=x) (by have:=ltB_pos d ts;omega))
 have hlb:ltB d ts≤200:=by have h1:=padTo_length d ts 1 ts.length;have h2:=owTo_length d ts ts.length;have h4:=hE.tiles.tlen;unfold ltB insL owL;omega
 clear hE hN hc hD hR S hexit hret hwn
 conv=>arg 2;whnf
 go_loopw [189] (fun i wr=>∃(k:Nat),k≤sn∧i = .int .i64 k∧(∀(j:Nat) (x:Int),j<k→(owL d ts)[j]?=some x→sqOk d ts pl x=true)∧Sepa W wr (trBlk gT g gI gF gM :: numPc gI 1 (insL d ts) :: numPc gF (sqB d ts) (owL d ts) :: numPc gM (ltB d ts) pl :: lnBlk gL In (.slice SA sn sc) Lv Ov :: pA :: .cel (celSq (sqMid d ts pl k)) (.slice SA sn sc) :: pC :: pi :: po :: .cel (celI (owL d ts)) (.slice WA sn wq) :: rs)) (fun i _=>sn - (intOf i).toNat)
 case atStart=>exact ⟨0,by omega,rfl,fun j x hj=>by omega,HS.out⟩
 case round =>
  obtain ⟨k,hk,rfl,hall,hs⟩:=hrel
  have HALL:=Lib.hid hall
  have HSS:=Lib.hid hs
  clear hall
  by_cases hlt:k<sn
  ·have hdk:decide ((k:Int)<(sn:Int))=true:=by simp;omega
   obtain ⟨x,hx⟩:∃x,(owL d ts)[k]?=some x:=⟨_,List.getElem?_eq_getElem (by rw [HWN.out];exact hlt)⟩
   have hgx:=sqMid_get (pl:=pl) hx
   obtain ⟨gS,hSA,hgS,hgS2,ck,fk,-⟩:=hs.num 6 rfl (i:=k * 3+0) ((flatS_at Sq.cells_length hgx (by omega)).trans rfl)
   subst hSA
   obtain ⟨b,o,hWA,hbl,hcx⟩:=(hs.ints 10 rfl).2 (by omega)
   have hck:=hcx k hlt
   rw [hx,Option.getD_some] at hck
   have hl1:=cell_heap (k:=1) (hs.blk 4 rfl).1 rfl
   have hll:=heap_lt0 (hs.blk 4 rfl).1
   have hm2:=(flatS_at Sq.cells_length hgx (j:=2) (by omega)).trans rfl
   obtain ⟨IA,il,ic,hci,hil,hfi,-⟩:=hs.rowSlice 6 (k * 3+2) rfl hm2
   obtain ⟨hx0,hx1,hti⟩:=HOW.out x (List.mem_of_getElem? hx)
   have HXX:=Lib.hid hx
   have HTI:=Lib.hid hti
   have HNX:=Lib.hid (HNF.out x)
   have HKX:Hid (InI64 x):=⟨by omega,by omega⟩
   have HMX:=Lib.hid (sqMid_set (pl:=pl) hx)
   have i0:(0:Int)≤(k:Int):=by omega
   have i1:(k:Int)<(sn:Int):=by omega
   have HGX:=Lib.hid hgx
   clear hs hcx hx hgx
   subst hWA
   rw [Nat.add_zero] at ck fk
   by_cases hK:kindOf d (x / 2)=2
   ·have HQ:Hid ((sq0 d ts x).kind=1):=by show _=_;rw [sq0,if_pos hK]
    have HQI:Hid ((sq0 d ts x).ins=[]):=by show _=_;rw [sq0,if_pos hK]
    have HQ2:Hid ({ sq0 d ts x with ins:=ramIn d ts pl x 4 }=sqOf d ts pl x):=by show _=_;rw [sqOf,sqI,if_pos hK]
    have HOKD:Hid (sqOk d ts pl x=ramOk d ts pl x):=by show _=_;rw [sqOk,decide_eq_true hK];rfl
    have HQ0:Hid ({ sq0 d ts x with ins:=ramIn d ts pl x 0 }=sq0 d ts x):=by show _=_;rw [show ramIn d ts pl x 0=(sq0 d ts x).ins from HQI.out.symm]
    rw [HQ.out] at ck
    obtain ⟨q,hq⟩:∃q,x / 2=q:=⟨_,rfl⟩
    have hq0:0≤q:=by omega
    have hq1:q<(m:Int):=by omega
    have HQX:=Lib.hid hq
    have hmul0:0≤q * perT d:=Int.mul_nonneg hq0 (by omega)
    have hmul1:q * perT d≤36 * 23:=Int.mul_le_mul (by omega) (by omega) (by omega) (by omega)
    have HNI:Hid (∀j:Nat,j<4→nodeIn d (q * perT d+(j:Int))=true):=fun j hj=>(node_at (k:=(j:Int)) (by rw [←hq];exact HTI.out) (by omega) (by omega)).1
    have HRS:Hid (∀j:Nat,ramIn d ts pl x (j+1)=ramIn d ts pl x j++[tr d ts pl (q * perT d+(j:Int))]):=fun j=>by unfold ramIn;rw [List.range_succ,List.map_append,hq];rfl
    have HRO:Hid (∀j:Nat,j<4→tr d ts pl (q * perT d+(j:Int))<0→ramOk d ts pl x=false):=fun j hj hn=>by unfold ramOk;rw [List.all_eq_false];exact ⟨j,List.mem_range.2 hj,by rw [hq];simp;omega⟩
    have HRY:Hid ((∀j:Nat,j<4→0≤tr d ts pl (q * perT d+(j:Int)))→ramOk d ts pl x=true):=fun hn=>by unfold ramOk;rw [List.all_eq_true];exact fun j hj=>decide_eq_true (by rw [hq];exact hn j (List.mem_range.1 hj))
    have HPT:=Lib.hid (fun w=>perT_any' d w HC.out.dev)
    have HTKN:=Lib.hid (fun (n0:Int) (hni:nodeIn d n0=true) (w':World) (ps:List Pc) (h:Sepa W w' (trBlk gT g gI gF gM :: numPc gI 1 (insL d ts) :: numPc gF (sqB d ts) (owL d ts) :: numPc gM (ltB d ts) pl :: ps))=>trace_any gT g gI gF gM d ts TA m tc EA DA N pl n0 w' (trAt_of HE.out h) HN.out HC.out hni)
    have HS00:=Lib.hid (show Sepa W wr (trBlk gT g gI gF gM :: numPc gI 1 (insL d ts) :: numPc gF (sqB d ts) (owL d ts) :: numPc gM (ltB d ts) pl :: lnBlk gL In (.slice (some ⟨gS,0,none⟩) sn sc) Lv Ov :: pA :: .cel (celSq ((sqMid d ts pl k).set k { sq0 d ts x with ins:=ramIn d ts pl x 0 })) (.slice (some ⟨gS,0,none⟩) sn sc) :: pC :: pi :: po :: .cel (celI (owL d ts)) (.slice (some ⟨b,o,none⟩) sn wq) :: rs) from by rw [HQ0.out,set_same HGX.out];exact HSS.out)
    clear hK hci hfi hm2 hq hti
    generalize perT d=P at *
    obtain ⟨wo,rfl⟩:∃y,y=wr:=⟨wr,rfl⟩
    go_wp2_with fail
    clear ck fk hck hll hl1
    go_loopw [21] (fun v wr=>∃j:Nat,j≤4∧v = .int .i64 j∧(∀i:Nat,i<j→0≤tr d ts pl (q * P+(i:Int)))∧Sepa W wr (trBlk gT g gI gF gM :: numPc gI 1 (insL d ts) :: numPc gF (sqB d ts) (owL d ts) :: numPc gM (ltB d ts) pl :: lnBlk gL In (.slice (some ⟨gS,0,none⟩) sn sc) Lv Ov :: pA :: .cel (celSq ((sqMid d ts pl k).set k { sq0 d ts x with ins:=ramIn d ts pl x j })) (.slice (some ⟨gS,0,none⟩) sn sc) :: pC :: pi :: po :: .cel (celI (owL d ts)) (.slice (some ⟨b,o,none⟩) sn wq) :: rs)) (fun v _=>4 - (intOf v).toNat)
    case atStart=>exact ⟨0,by omega,rfl,fun i hi=>by omega,HS00.out⟩
    case round =>
     obtain ⟨j,hj,rfl,hal,hs⟩:=hrel
     have HAL:=Lib.hid hal
     have HS2:=Lib.hid hs
     clear hal
     by_cases hlt2:j<4
     ·have hdj:decide ((j:Int)<4)=true:=by simp;omega
      have hb:=hs.bel
      have hD':=heap_tr hb HD.out
      have d0:=cell_heap (k:=0) hD' rfl
      have d1:=cell_heap (k:=1) hD' rfl
      have d2:=cell_heap (k:=2) hD' rfl
      have d3:=cell_heap (k:=3) hD' rfl
      have lD:=heap_lt0 hD'
      have hni:=HNI.out j hlt2
      have HNJ:=Lib.hid hni
      have hrs:=HRS.out j
      have hro:=HRO.out j hlt2
      have HAL2:=Lib.hid (fun h=>all_succ HAL.out h)
      have j0:(0:Int)≤(j:Int):=by omega
      have j1:(j:Int)<4:=by omega
      have HTK:=Lib.hid (fun w' ps h=>HTKN.out (q * P+(j:Int)) hni w' ps h)
      have hqx:=HQX.out
      clear hs hb hD' hni
      generalize tr d ts pl (q * P+(j:Int))=X at *
      have HRSJ:=Lib.hid hrs
      have HROJ:=Lib.hid hro
      clear hrs hro
      go_wp2_with fail
      refine (HPT.out _).mono ?_
      rintro e w1 ⟨rfl,b1⟩
      have B1:=Lib.hid b1
      clear b1 d0 d1 d2 d3
      go_wp2_with fail
      refine (HTK.out _ _ (HS2.out.below B1.out)).mono ?_
      rintro e w2 ⟨rfl,b2⟩
      have HS3:=Lib.hid (HS2.out.below (below_tr B1.out b2))
      clear b2
      by_cases hx:0≤X
      ·have hdx:decide (0≤X)=true:=by simpa using hx
       have HV:=Lib.hid (tv_pos hx)
       have HXP:=Lib.hid hx
       rw [HV.out,hdx]
       clear hdx hx hqx
       go_upto_region 49 with fail
       have hgm:=(List.getElem?_set_self (l:=sqMid d ts pl k) (i:=k) (a:={ sq0 d ts x with ins:=ramIn d ts pl x j }) (List.getElem?_eq_some_iff.1 HGX.out).1)
       have hm2:=(flatS_at Sq.cells_length hgm (j:=2) (by omega)).trans rfl
       obtain ⟨JA,jl,jc,hcj,hjl,-,hgz⟩:=HS3.out.rowSlice 6 (k * 3+2) rfl hm2
       have hjl4:jl≤4:=by rw [←hjl];show (ramIn d ts pl x j).length≤4;unfold ramIn;simp;omega
       have l1:=cell_heap (k:=1) (HS3.out.blk 4 rfl).1 rfl
       have lL:=heap_lt0 (HS3.out.blk 4 rfl).1
       have HM2:=Lib.hid hm2
       have HCJ:=Lib.hid ((World.cell?_of_block (a:=⟨gS,k * 3+2,none⟩) (Below.heap_alloc w2 (.cells #[.int .i64 X] 3) gS hgz)).trans hcj)
       have HEQ:=Lib.hid (flatS_set Sq.cells_length (y:={ sq0 d ts x with ins:=ramIn d ts pl x j++[X] }) (c:=celI (ramIn d ts pl x j++[X])) hgm (j:=2) (by omega) rfl)
       clear hgm hm2 hjl
       refine wp_region_noPanic ?_
       go_region_law ((refine step_slotPush rfl _ _ (by rfl) _ (HS3.out.alloc _).drew 6 (k * 3+2) gS _ _ sn sc _ (ramIn d ts pl x j) X JA jl jc _ (0,0) rfl HM2.out HCJ.out (by rfl) (by rfl) (heap_new w2 _) (by omega) ?_);intro g2 cap w3 hS1 ⟨vv,hvv⟩ hff3 hgg hzz hSf;have l13:=cell_heap (k:=1) (hS1.blk 4 rfl).1 rfl;have lL3:=heap_lt0 (hS1.blk 4 rfl).1;have HSF:=Lib.hid hSf;clear hS1 hSf hzz)
       all_goals
        refine NoPanic.normal ?_
        have h9:=HSF.out
        rw [HEQ.out,List.set_set,←HRSJ.out] at h9
        have H9:=Lib.hid h9
        clear h9 HSF l13 lL3 hvv hff3 hgg
        generalize w3.setCell _ _=w4 at *
        go_wp2_with fail
        go_roundw
        case rel=>exact ⟨j+1,by omega,by go_num,HAL2.out HXP.out,H9.out⟩
        case measure=>simp [intOf];omega
      ·have hdx:decide (0≤X)=false:=by simpa using hx
       have hR':=heap_tr HS3.out.bel HRR.out
       have r0:=cell_heap (k:=0) hR' rfl
       have r1:=cell_heap (k:=1) hR' rfl
       have r2:=cell_heap (k:=2) hR' rfl
       have r3:=cell_heap (k:=3) hR' rfl
       have f0:=frozen_heap hR' 0
       have f1:=frozen_heap hR' 1
       have f2:=frozen_heap hR' 2
       have f3:=frozen_heap hR' 3
       have lR:=heap_lt0 hR'
       have HEX:Hid (∃y∈owL d ts,sqOk d ts pl y=false):=⟨x,List.mem_of_getElem? HXX.out,by rw [HOKD.out];exact HROJ.out (by omega)⟩
       rw [hdx]
       clear hdx hx hR' hqx
       go_wp2_with fail
       apply HZ.out
       exact ⟨HEX.out,HS3.out.bel⟩
     ·have hj4:j=4:=by omega
      subst hj4
      have HOK:Hid (sqOk d ts pl x=true):=by show _=_;rw [HOKD.out];exact HRY.out HAL.out
      have HS9:=Lib.hid (show Sepa W wr (trBlk gT g gI gF gM :: numPc gI 1 (insL d ts) :: numPc gF (sqB d ts) (owL d ts) :: numPc gM (ltB d ts) pl :: lnBlk gL In (.slice (some ⟨gS,0,none⟩) sn sc) Lv Ov :: pA :: .cel (celSq (sqMid d ts pl (k+1))) (.slice (some ⟨gS,0,none⟩) sn sc) :: pC :: pi :: po :: .cel (celI (owL d ts)) (.slice (some ⟨b,o,none⟩) sn wq) :: rs) from by rw [←HMX.out,←HQ2.out];exact HS2.out)
      clear hs
      go_wp2_with fail
      go_roundw
      case rel=>exact ⟨k+1,by omega,by go_num,all_nth HALL.out HXX.out HOK.out,HS9.out⟩
      case measure=>simp [intOf];omega
   ·have HQ:Hid ((sq0 d ts x).kind=0):=by show _=_;rw [sq0,if_neg hK]
    have HOK:Hid (sqOk d ts pl x=true):=by show _=_;rw [sqOk,decide_eq_false hK];rfl
    have HQ2:Hid ({ sq0 d ts x with ins:=[numF (ltB d ts) pl x] }=sqOf d ts pl x):=by show _=_;rw [sqOf,sqI,if_neg hK]
    have HQI:Hid ((sq0 d ts x).ins=[]):=by show _=_;rw [sq0,if_neg hK]
    rw [HQ.out] at ck
    clear hK
    go_upto_region 42 with fail
    go_cut [] from 201 to 212 (fun wx=>Sepa W wx (trBlk gT g gI gF gM :: numPc gI 1 (insL d ts) :: numPc gF (sqB d ts) (owL d ts) :: numPc gM (ltB d ts) pl :: lnBlk gL In (.slice (some ⟨gS,0,none⟩) sn sc) Lv Ov :: pA :: .cel (celSq (sqMid d ts pl (k+1))) (.slice (some ⟨gS,0,none⟩) sn sc) :: pC :: pi :: po :: .cel (celI (owL d ts)) (.slice (some ⟨b,o,none⟩) sn wq) :: rs))
    case first =>
     obtain ⟨g',hg',-,-,-,-,hSl⟩:=(HSS.out.consLit (numF (ltB d ts) pl x)).slot 7 0 (by decide) (m:=k * 3+2) rfl hm2 rfl
     injection hg' with hg'
     injection hg' with hg'
     subst hg'
     have e:=flatS_set Sq.cells_length (y:={ sq0 d ts x with ins:=[numF (ltB d ts) pl x] }) (c:=celI [numF (ltB d ts) pl x]) HGX.out (j:=2) (by omega) rfl
     rw [HQ2.out,HMX.out] at e
     have hS2:=hSl.tail
     rw [e,World.setCell_alloc_past _ _ _ _ hgS2] at hS2
     have HSF:=Lib.hid (show Sepa W ((wr.setCell ⟨gS,k * 3+2,none⟩ (.slice (some ⟨wr.heap.size,0,none⟩) 1 1)).alloc (.cells #[.int .i64 (numF (ltB d ts) pl x)] 3)) (trBlk gT g gI gF gM :: numPc gI 1 (insL d ts) :: numPc gF (sqB d ts) (owL d ts) :: numPc gM (ltB d ts) pl :: lnBlk gL In (.slice (some ⟨gS,0,none⟩) sn sc) Lv Ov :: pA :: .cel (celSq (sqMid d ts pl (k+1))) (.slice (some ⟨gS,0,none⟩) sn sc) :: pC :: pi :: po :: .cel (celI (owL d ts)) (.slice (some ⟨b,o,none⟩) sn wq) :: rs) from hS2)
     have HKC:=Lib.hid (fun (w':World) (p1 p2:Pc) (r:List Pc) (h:Sepa W w' (trBlk gT g gI gF gM :: p1 :: p2 :: numPc gM (ltB d ts) pl :: lnBlk gL In (.slice (some ⟨gS,0,none⟩) sn sc) Lv Ov :: r))=>(show (fun w'=>w'.cell? ⟨gL,1,none⟩=some (.slice (some ⟨gS,0,none⟩) sn sc)∧w'.cell? ⟨gT,3,none⟩=some (.map (some gM))∧(Instr.lookup 116 (.map (some gM)) (.int .i64 x) false).run Tryz.prog w' = .ok (.int .i64 (numF (ltB d ts) pl x)) w') w' from ⟨cell_heap (k:=1) (h.blk 4 rfl).1 rfl,cell_heap (k:=3) (h.blk 0 rfl).1 rfl,(h.own 3 rfl).1.look HKX.out⟩))
     have lT:=heap_lt0 (HSS.out.blk 0 rfl).1
     have e1:(0:Int)≤(k:Int):=i0
     clear hS2 hSl e
     go_region_held3 (fun w'=>w'.cell? ⟨gL,1,none⟩=some (.slice (some ⟨gS,0,none⟩) sn sc)∧w'.cell? ⟨gT,3,none⟩=some (.map (some gM))∧(Instr.lookup 116 (.map (some gM)) (.int .i64 x) false).run Tryz.prog w' = .ok (.int .i64 (numF (ltB d ts) pl x)) w')
      (first|with_reducible exact HKC.out _ _ _ _ HSS.out|with_reducible exact HKC.out _ _ _ _ HSS.out.drew|with_reducible exact HKC.out _ _ _ _ (HSS.out.alloc _).drew|exact HKC.out _ _ _ _ HSF.out.drew)
      (fail)
     go_wp2_with fail
     go_meet
     exact HSF.out.drew
    have HS5:=Lib.hid hcut
    clear hcut
    go_wp2_with fail
    go_roundw
    case rel=>exact ⟨k+1,by omega,by go_num,all_nth HALL.out HXX.out HOK.out,HS5.out⟩
    case measure=>simp [intOf];omega
  ·have hkm:k=sn:=by omega
   have hdk:decide ((k:Int)<(sn:Int))=false:=by simp;omega
   have hul:(owL d ts).length=k:=by rw [HWN.out];omega
   have HS2:=Lib.hid (And.intro (show ∀x∈owL d ts,sqOk d ts pl x=true from fun t ht=>by obtain ⟨j,hj,rfl⟩:=List.getElem_of_mem ht;exact HALL.out j _ (by omega) (List.getElem?_eq_getElem hj)) hs)
   have HUL:=Lib.hid hul
   clear hs hkm hul
   go_wp2_with fail
   apply HX.out
   rw [HUL.out]
   exact HS2.out
end Go.Proofs.YtignkfhdkcgkgaaGreat
