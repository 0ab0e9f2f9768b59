/- The second loop of the program's Disassemble: flip-flops and memories (printed by mkdisp.py). -/
import Derived.Test.YtignkfhdkcgkgaaGreatSepN
namespace Go.Proofs.YtignkfhdkcgkgaaGreat
set_option maxRecDepth 100000
open Go.RowKit

set_option maxRecDepth 100000 in
set_option maxHeartbeats 8000000 in
theorem dis_lp2 (W:World) (gD gT g gI gF gM gL:Nat) (d:Dev) (ts:List Tile) (TA:Option Addr) (m tc:Nat) (EA DA:Option Addr) (N:Nat) (In:Int) (Lv Ov:Value) (pI pM pA pC pi po:Pc) (rs:List Pc) {v0 v1 v3 v4 v5 v6 v7 v10 v11 v12 v13 v15 v16 v17 v18 v19 v20 v21 v22 v23 v24 v25 v26 v27 v28 v29 v30 v31 v32 v33 v34 v35 v36 v37 v38 v39 v40 v41 v42 v43 v44 v45 v46 v47 v48 v49 v50 v51 v52 v53 v54 v55 v56 v57 v58 v59 v60 v61 v62 v63 v64 v65 v66 v67 v68 v69 v70 v71 v72 v73 v74 v75 v76 v77 v78 v79 v80 v81 v82 v83 v84 v85 v86 v87 v88 v92 v93 v94 v95 v96 v97 v98 v99 v100 v101 v102 v103 v104 v105 v106 v107 v108 v109 v110 v111 v112 v113 v114 v115 v116 v117 v118 v119 v120 v121 v122 v123 v124 v125 v126 v127 v128 v129 v130 v131 v132 v133 v134 v135 v136 v137 v138 v139 v140 v141 v142 v143 v144 v145 v146 v147 v148 v149 v150 v151 v152 v153 v154 v155 v156 v157 v158 v159 v160 v161 v162 v163 v164 v165 v166 v167 v168 v169 v170 v171 v172 v173 v174 v175 v176 v177 v178 v179 v180 v181 v182 v183 v184 v185 v186 v187 v188 v189 v190 v191 v192 v193 v194 v195 v196 v197 v198 v199 v200 v201 v202 v203 v204 v205 v206 v207 v208 v209 v210 v211 v212 v213 v214 v215 v216 v217 v218 v219 v220 v221 v222 v223 v224 v225 v226 v227 v228 v229 v230 v231 v232 v233 v234 v235 v236 v237 v238 v239 v240 v241 v242 v243 v244 v245 v246 v247 v248 v249 v250 v251 v252 v253 v254 v255 v256 v257 v258 v259 v260 v261 v262 v263 v264 v265 v266 v267 v268 v269 v270 v271 v272 v273 v274:Value} {Q0:Exit→Act→World→Prop} (w:World) (hE:EmuAt W g d ts TA m tc EA DA N) (hc:CfgOk d ts) (hD:W.heap[gD]?=some (.cells #[.int .i64 d.W,.int .i64 d.H,.int .i64 d.T,.int .i64 d.R] 25 (0,0))) (hIn:1+In=sqB d ts) (S:Sepa W w (trBlk gT g gI gF gM :: pI :: numPc gF (sqB d ts) ([]) :: pM :: lnBlk gL In (.slice none 0 0) Lv Ov :: pA :: .cel (celSq (([]).map (sq0 d ts))) (.slice none 0 0) :: pC :: pi :: po :: .cel (celI ([])) (.slice none 0 0) :: rs))
  (hexit:∀(SA:Option Addr) (sc:Nat) (WA:Option Addr) (wq:Nat) (y15 y16 y17 y18 y91 y92 y93 y94 y95 y96 y97 y98 y99 y100 y101 y102 y103 y104 y105 y106 y107 y108 y109 y110 y111 y112 y113 y114 y115 y116 y117 y118 y119 y120 y121 y122 y123 y124 y125 y126 y127 y128 y129 y130 y131 y132 y133 y134 y135 y136 y137 y138 y139 y140 y141 y142 y143 y144 y145 y146 y147 y148 y149 y150 y151 y152 y153 y154 y155 y156 y157 y158 y159 y160 y161 y162 y163 y164 y165 y166 y167 y168 y169 y170 y171:Value) (w':World),Sepa W w' (trBlk gT g gI gF gM :: pI :: numPc gF (sqB d ts) (owL d ts) :: pM :: lnBlk gL In (.slice SA (owL d ts).length sc) Lv Ov :: pA :: .cel (celSq ((owL d ts).map (sq0 d ts))) (.slice SA (owL d ts).length sc) :: pC :: pi :: po :: .cel (celI (owL d ts)) (.slice WA (owL d ts).length wq) :: rs)→Q0 (.exit 2) ⟨List.toArray (v0 :: v1 :: .pointer (some ⟨gD,0,none⟩) :: v3 :: v4 :: v5 :: v6 :: v7 :: .pointer (some ⟨gT,0,none⟩) :: .pointer (some ⟨gL,0,none⟩) :: v10 :: v11 :: v12 :: v13 :: .slice WA (owL d ts).length wq :: y15 :: y16 :: y17 :: y18 :: v19 :: v20 :: v21 :: v22 :: v23 :: v24 :: v25 :: v26 :: v27 :: v28 :: v29 :: v30 :: v31 :: v32 :: v33 :: v34 :: v35 :: v36 :: v37 :: v38 :: v39 :: v40 :: v41 :: v42 :: v43 :: v44 :: v45 :: v46 :: v47 :: v48 :: v49 :: v50 :: v51 :: v52 :: v53 :: v54 :: v55 :: v56 :: v57 :: v58 :: v59 :: v60 :: v61 :: v62 :: v63 :: v64 :: v65 :: v66 :: v67 :: v68 :: v69 :: v70 :: v71 :: v72 :: v73 :: v74 :: v75 :: v76 :: v77 :: v78 :: v79 :: v80 :: v81 :: v82 :: v83 :: v84 :: v85 :: v86 :: v87 :: v88 :: .slice TA m tc :: .int .i64 (m:Int) :: y91 :: y92 :: y93 :: y94 :: y95 :: y96 :: y97 :: y98 :: y99 :: y100 :: y101 :: y102 :: y103 :: y104 :: y105 :: y106 :: y107 :: y108 :: y109 :: y110 :: y111 :: y112 :: y113 :: y114 :: y115 :: y116 :: y117 :: y118 :: y119 :: y120 :: y121 :: y122 :: y123 :: y124 :: y125 :: y126 :: y127 :: y128 :: y129 :: y130 :: y131 :: y132 :: y133 :: y134 :: y135 :: y136 :: y137 :: y138 :: y139 :: y140 :: y141 :: y142 :: y143 :: y144 :: y145 :: y146 :: y147 :: y148 :: y149 :: y150 :: y151 :: y152 :: y153 :: y154 :: y155 :: y156 :: y157 :: y158 :: y159 :: y160 :: y161 :: y162 :: y163 :: y164 :: y165 :: y166 :: y167 :: y168 :: y169 :: y170 :: y171 :: v172 :: v173 :: v174 :: v175 :: v176 :: v177 :: v178 :: v179 :: v180 :: v181 :: v182 :: v183 :: v184 :: v185 :: v186 :: v187 :: v188 :: v189 :: v190 :: v191 :: v192 :: v193 :: v194 :: v195 :: v196 :: v197 :: v198 :: v199 :: v200 :: v201 :: v202 :: v203 :: v204 :: v205 :: v206 :: v207 :: v208 :: v209 :: v210 :: v211 :: v212 :: v213 :: v214 :: v215 :: v216 :: v217 :: v218 :: v219 :: v220 :: v221 :: v222 :: v223 :: v224 :: v225 :: v226 :: v227 :: v228 :: v229 :: v230 :: v231 :: v232 :: v233 :: v234 :: v235 :: v236 :: v237 :: v238 :: v239 :: v240 :: v241 :: v242 :: v243 :: v244 :: v245 :: v246 :: v247 :: v248 :: v249 :: v250 :: v251 :: v252 :: v253 :: v254 :: v255 :: v256 :: v257 :: v258 :: v259 :: v260 :: v261 :: v262 :: v263 :: v264 :: v265 :: v266 :: v267 :: v268 :: v269 :: v270 :: v271 :: v272 :: v273 :: v274 :: []),[]⟩ w')
  : Code.wp Tryz.prog (loopAt Tryz.f30 1) Q0 ⟨List.toArray (v0 :: v1 :: .pointer (some ⟨gD,0,none⟩) :: v3 :: v4 :: v5 :: v6 :: v7 :: .pointer (some ⟨gT,0,none⟩) :: .pointer (some ⟨gL,0,none⟩) :: v10 :: v11 :: v12 :: v13 :: .slice none 0 0 :: v15 :: v16 :: v17 :: v18 :: v19 :: v20 :: v21 :: v22 :: v23 :: v24 :: v25 :: v26 :: v27 :: v28 :: v29 :: v30 :: v31 :: v32 :: v33 :: v34 :: v35 :: v36 :: v37 :: v38 :: v39 :: v40 :: v41 :: v42 :: v43 :: v44 :: v45 :: v46 :: v47 :: v48 :: v49 :: v50 :: v51 :: v52 :: v53 :: v54 :: v55 :: v56 :: v57 :: v58 :: v59 :: v60 :: v61 :: v62 :: v63 :: v64 :: v65 :: v66 :: v67 :: v68 :: v69 :: v70 :: v71 :: v72 :: v73 :: v74 :: v75 :: v76 :: v77 :: v78 :: v79 :: v80 :: v81 :: v82 :: v83 :: v84 :: v85 :: v86 :: v87 :: v88 :: .slice TA m tc :: .int .i64 (m:Int) :: .int .i64 0 :: v92 :: v93 :: v94 :: v95 :: v96 :: v97 :: v98 :: v99 :: v100 :: v101 :: v102 :: v103 :: v104 :: v105 :: v106 :: v107 :: v108 :: v109 :: v110 :: v111 :: v112 :: v113 :: v114 :: v115 :: v116 :: v117 :: v118 :: v119 :: v120 :: v121 :: v122 :: v123 :: v124 :: v125 :: v126 :: v127 :: v128 :: v129 :: v130 :: v131 :: v132 :: v133 :: v134 :: v135 :: v136 :: v137 :: v138 :: v139 :: v140 :: v141 :: v142 :: v143 :: v144 :: v145 :: v146 :: v147 :: v148 :: v149 :: v150 :: v151 :: v152 :: v153 :: v154 :: v155 :: v156 :: v157 :: v158 :: v159 :: v160 :: v161 :: v162 :: v163 :: v164 :: v165 :: v166 :: v167 :: v168 :: v169 :: v170 :: v171 :: v172 :: v173 :: v174 :: v175 :: v176 :: v177 :: v178 :: v179 :: v180 :: v181 :: v182 :: v183 :: v184 :: v185 :: v186 :: v187 :: v188 :: v189 :: v190 :: v191 :: v192 :: v193 :: v194 :: v195 :: v196 :: v197 :: v198 :: v199 :: v200 :: v201 :: v202 :: v203 :: v204 :: v205 :: v206 :: v207 :: v208 :: v209 :: v210 :: v211 :: v212 :: v213 :: v214 :: v215 :: v216 :: v217 :: v218 :: v219 :: v220 :: v221 :: v222 :: v223 :: v224 :: v225 :: v226 :: v227 :: v228 :: v229 :: v230 :: v231 :: v232 :: v233 :: v234 :: v235 :: v236 :: v237 :: v238 :: v239 :: v240 :: v241 :: v242 :: v243 :: v244 :: v245 :: v246 :: v247 :: v248 :: v249 :: v250 :: v251 :: v252 :: v253 :: v254 :: v255 :: v256 :: v257 :: v258 :: v259 :: v260 :: v261 :: v262 :: v263 :: v264 :: v265 :: v266 :: v267 :: v268 :: v269 :: v270 :: v271 :: v272 :: v273 :: v274 :: []),[]⟩ w:=by
 have htm:=hE.tiles.tlen
 have hm36:m≤36:=by have:=tiles_eq hc.dev;have:=hc.len;omega
 have hm9:9≤m:=by have:=tiles_eq hc.dev;have:=hc.len;omega
 obtain ⟨b,o,_,_,_,rfl,hbW,-⟩:=emu_le (t:=0) (p:=0) hE hc (tileIn_iff.2 ⟨hc.dev,by omega,by have:=(dev_WH hc.dev).1;omega⟩) (by omega)
 have HTT:Hid (∀k:Nat,k<m→tileIn d (k:Int)=true):=fun k hk=>tileIn_iff.2 ⟨hc.dev,by omega,by have:=tiles_eq hc.dev;have:=hc.len;omega⟩
 have hIn1:0≤In∧In≤36:=by have h1:=padTo_length d ts 1 ts.length;unfold sqB insL at hIn;omega
 obtain ⟨hIn0,hIn1⟩:=hIn1
 obtain ⟨ti,ht1,ht2,ht3,ht4⟩:=info_parts seq_info
 have HTI:=Lib.hid (And.intro ht1 (And.intro ht2 (And.intro ht3 ht4)))
 have HE:=Lib.hid hE
 have HC:=Lib.hid hc
 have HD:=Lib.hid hD
 have HTM:=Lib.hid htm
 have HIN:=Lib.hid hIn
 have HS:=Lib.hid S
 have HX:=Lib.hid hexit
 clear hE hc hD htm hIn S hexit ht1 ht2 ht3 ht4
 conv=>arg 2;whnf
 go_loopw [14,91] (fun a1 i wr=>∃(k:Nat) (SA:Option Addr) (sn sc:Nat) (WA:Option Addr) (wn wq:Nat),k≤m∧i = .int .i64 k∧a1 = .slice WA wn wq∧sn=(owTo d ts k).length∧Sepa W wr (trBlk gT g gI gF gM :: pI :: numPc gF (sqB d ts) (owTo d ts k) :: pM :: lnBlk gL In (.slice SA sn sc) Lv Ov :: pA :: .cel (celSq ((owTo d ts k).map (sq0 d ts))) (.slice SA sn sc) :: pC :: pi :: po :: .cel (celI (owTo d ts k)) (.slice WA wn wq) :: rs)) (fun _ i _=>m - (intOf i).toNat)
 case atStart=>exact ⟨0,none,0,0,none,0,0,by omega,rfl,rfl,rfl,HS.out⟩
 case round =>
  obtain ⟨k,SA,sn,sc,WA,wn,wq,hk,rfl,rfl,hsn,hs⟩:=hrel
  have hwn:=(hs.ints 10 rfl).1
  have hol:=owTo_length d ts k
  have HWN:=Lib.hid hwn
  have HSN:=Lib.hid hsn
  have HSS:=Lib.hid hs
  have hsn72:sn≤72:=by omega
  have hwn72:wn≤72:=by omega
  clear hwn hsn hol
  by_cases hlt:k<m
  ·have hdk:decide ((k:Int)<(m:Int))=true:=by simp;omega
   have hol2:=owTo_length d ts (k+1)
   obtain ⟨b',o',bl,ol,q4,hTA,-,hbl,-,cl,cp,cr,-,-,-⟩:=emu_le (p:=0) HE.out HC.out (HTT.out k hlt) (by omega)
   injection hTA with hTA
   injection hTA with e1 e2
   subst e1 e2
   obtain ⟨b',o',S',m3,q,_,_,_,hTA,-,ca,-,-,-,-,-⟩:=HE.out.tiles.tile (k:=k) (by rw [HTM.out];exact hlt)
   injection hTA with hTA
   injection hTA with e1 e2
   subst e1 e2
   have hb:=hs.bel
   have c0:=(hb.cell (p:=⟨b,o+k * 4,none⟩) hbW).trans ca
   have c1:=(hb.cell (p:=⟨b,o+k * 4+1,none⟩) hbW).trans cl
   have c2:=(hb.cell (p:=⟨b,o+k * 4+2,none⟩) hbW).trans cp
   have c3:=(hb.cell (p:=⟨b,o+k * 4+3,none⟩) hbW).trans cr
   have hD':=heap_tr hb HD.out
   have d0:=cell_heap (k:=0) hD' rfl
   have d1:=cell_heap (k:=1) hD' rfl
   have d2:=cell_heap (k:=2) hD' rfl
   have d3:=cell_heap (k:=3) hD' rfl
   have lD:=heap_lt0 hD'
   have lb:=below_lt hb hbW
   have HTK:=Lib.hid (fun w'=>tileKind_any d (k:Int) w' HC.out.dev (by omega) (by omega))
   have HOT:Hid (owTo d ts (k+1)=owTo d ts k++owAt d ts k):=rfl
   have i0:(0:Int)≤(k:Int):=by omega
   have i1:(k:Int)<(m:Int):=by omega
   have HCL0:=Lib.hid cl
   clear hs hb ca cl cp cr hD'
   generalize hK:kindOf d (k:Int)=K at *
   generalize hRM:(tileAt ts (k:Int)).ram=ram at *
   have HK:=Lib.hid hK
   have HRM:=Lib.hid hRM
   clear hK hRM
   have hk3:=kindOf_bd d (k:Int)
   rw [HK.out] at hk3
   go_wp2_with fail
   refine (HTK.out _).mono ?_
   rintro e w1 ⟨rfl,b1⟩
   have hs1:=(HSS.out.consBlk _ _).below b1
   have HS1:=Lib.hid hs1
   have HS1T:=Lib.hid hs1.tail
   have hc1:=cell_heap (k:=1) (hs1.blk 0 rfl).1 rfl
   have hc3:=cell_heap (k:=3) (hs1.blk 0 rfl).1 rfl
   have lc:=heap_lt0 (hs1.blk 0 rfl).1
   clear b1 c0 c1 c2 c3 d0 d1 d2 d3 lD lb hs1
   rcases hk3 with rfl|rfl|rfl
   ·have HR:Hid (owTo d ts (k+1)=owTo d ts k):=by show _=_;rw [HOT.out,owAt,HK.out];exact List.append_nil _
    go_wp2_with fail
    go_roundw
    case rel=>exact ⟨k+1,SA,sn,sc,WA,wn,wq,by omega,by go_num,rfl,by rw [HR.out];exact HSN.out,by rw [HR.out];exact HS1T.out⟩
    case measure=>simp [intOf];omega
   ·have HOA:Hid (owAt d ts k=owP ts k 2):=owP_two HK.out
    have HCL:=HCL0
    have hpl2:=owP_len ts k 2
    go_wp2_with fail
    obtain ⟨wo,rfl⟩:∃x,x=wr:=⟨wr,rfl⟩
    go_loopw [14,104] (fun a1 i wr=>∃(e:Nat) (SA:Option Addr) (sn sc:Nat) (WA:Option Addr) (wn wq:Nat),e≤2∧i = .int .i64 e∧a1 = .slice WA wn wq∧sn=(owTo d ts k++owP ts k e).length∧Sepa W wr (trBlk gT g gI gF gM :: pI :: numPc gF (sqB d ts) (owTo d ts k++owP ts k e) :: pM :: lnBlk gL In (.slice SA sn sc) Lv Ov :: pA :: .cel (celSq ((owTo d ts k++owP ts k e).map (sq0 d ts))) (.slice SA sn sc) :: pC :: pi :: po :: .cel (celI (owTo d ts k++owP ts k e)) (.slice WA wn wq) :: rs)) (fun _ i _=>2 - (intOf i).toNat)
    case atStart=>exact ⟨0,SA,sn,sc,WA,wn,wq,by omega,rfl,rfl,by rw [HSN.out];simp [owP],by simpa [owP] using HS1T.out⟩
    clear hc1 hc3 lc hsn72 hwn72
    case round =>
     obtain ⟨e,SA,sn,sc,WA,wn,wq,he,rfl,rfl,hsn,hs⟩:=hrel
     have hwn:=(hs.ints 10 rfl).1
     have hpl:=owP_len ts k e
     have hol:=owTo_length d ts k
     rw [List.length_append] at hwn
     have HSN2:=Lib.hid hsn
     have HSS2:=Lib.hid hs
     have hsn72:sn≤80:=by rw [hsn,List.length_append];omega
     have hwn72:wn≤80:=by omega
     clear hwn hsn hol hpl
     by_cases hlt2:e<2
     ·have hde:decide ((e:Int)<2)=true:=by simp;omega
      obtain ⟨A5,n5,c5,-,e0,-,e1,e2,e3⟩:=emu_sel (p:=e) HE.out HC.out (HTT.out k hlt) (by omega) rfl HCL.out
      have hb:=hs.bel
      have x0:=(hb.cell (p:=⟨bl,ol+e * 4,none⟩) hbl).trans e0
      have x1:=(hb.cell (p:=⟨bl,ol+e * 4+1,none⟩) hbl).trans e1
      have x2:=(hb.cell (p:=⟨bl,ol+e * 4+2,none⟩) hbl).trans e2
      have x3:=(hb.cell (p:=⟨bl,ol+e * 4+3,none⟩) hbl).trans e3
      have lbl:=below_lt hb hbl
      have HPS:Hid (owP ts k (e+1)=owP ts k e++if (leX ts (2 * (k:Int)+(e:Int))).flop=1 then [2 * (k:Int)+(e:Int)] else []):=rfl
      have HLX:=Lib.hid (leX_eq ts (k:Int) (e:Int) (by omega) (by omega))
      have j0:(0:Int)≤(e:Int):=by omega
      have j1:(e:Int)<2:=by omega
      clear hs hb e0 e1 e2 e3
      generalize leAt ts (k:Int) (e:Int)=le at *
      by_cases hf:le.flop=1
      ·have hf1:(le.flop==1)=true:=by simpa using hf
       have HR:Hid (owP ts k (e+1)=owP ts k e++[2 * (k:Int)+(e:Int)]):=by show _=_;rw [HPS.out,HLX.out,if_pos hf]
       have HNW:Hid (2 * (k:Int)+(e:Int)∉owTo d ts k++owP ts k e):=fun h=>by
        rcases List.mem_append.1 h with h|h
        ·have:=(owTo_in.1 h).2.1;omega
        ·have:=owP_in h;omega
       have HQ:Hid (sq0 d ts (2 * (k:Int)+(e:Int))=⟨0,le.init,[]⟩):=by show _=_;rw [sq0,(half_two (k:Int) j0 (by omega)).1,HK.out,HLX.out];rfl
       clear hf
       go_upto_region 27 with fail
       go_cut [] from 112 to 126 (fun wx=>Sepa W wx (.blk wr.heap.size #[.slice A5 n5 c5,.int .i64 le.mask,.int .i64 le.flop,.int .i64 le.init] 107 :: trBlk gT g gI gF gM :: pI :: numPc gF (sqB d ts) (owTo d ts k++owP ts k e++[2 * (k:Int)+(e:Int)]) :: pM :: lnBlk gL In (.slice SA sn sc) Lv Ov :: pA :: .cel (celSq ((owTo d ts k++owP ts k e).map (sq0 d ts))) (.slice SA sn sc) :: pC :: pi :: po :: .cel (celI (owTo d ts k++owP ts k e)) (.slice WA wn wq) :: rs))
       case first =>
        have HSC:=Lib.hid (HSS2.out.consBlk #[.slice A5 n5 c5,.int .i64 le.mask,.int .i64 le.flop,.int .i64 le.init] 107)
        obtain ⟨w4,hrun,S4,-⟩:=HSC.out.drew.numPut 3 rfl (by have:=HSN2.out;omega) (2 * (k:Int)+(e:Int)) (1+In+(sn:Int)) ⟨by omega,by omega⟩ (by rw [HIN.out,HSN2.out]) ⟨by omega,by omega⟩ HNW.out
        have HS4:=Lib.hid S4
        have HKC:=Lib.hid (fun (w':World) (p0 p1 p2 p3:Pc) (r:List Pc) (h:Sepa W w' (p0 :: trBlk gT g gI gF gM :: p1 :: p2 :: p3 :: lnBlk gL In (.slice SA sn sc) Lv Ov :: r))=>(show w'.cell? ⟨gT,2,none⟩=some (.map (some gF))∧w'.cell? ⟨gL,0,none⟩=some (.int .i64 In)∧w'.cell? ⟨gL,1,none⟩=some (.slice SA sn sc) from ⟨cell_heap (k:=2) (h.blk 1 rfl).1 rfl,cell_heap (k:=0) (h.blk 5 rfl).1 rfl,cell_heap (k:=1) (h.blk 5 rfl).1 rfl⟩))
        have p1:=heap_lt0 (HSC.out.blk 1 rfl).1
        have p5:=heap_lt0 (HSC.out.blk 5 rfl).1
        have v1:IntKind.i64.wrap (2 * (k:Int))=2 * (k:Int):=IntWalk.i64_in _ (by omega)
        have v0:IntKind.i64.wrap (2 * (k:Int)+(e:Int))=2 * (k:Int)+(e:Int):=IntWalk.i64_in _ (by omega)
        have v2:IntKind.i64.wrap (1+In)=1+In:=IntWalk.i64_in _ (by omega)
        have v3:IntKind.i64.wrap (1+In+(sn:Int))=1+In+(sn:Int):=IntWalk.i64_in _ (by omega)
        clear S4
        go_region_held3 (fun w'=>w'.cell? ⟨gT,2,none⟩=some (.map (some gF))∧w'.cell? ⟨gL,0,none⟩=some (.int .i64 In)∧w'.cell? ⟨gL,1,none⟩=some (.slice SA sn sc))
         (first|with_reducible exact HKC.out _ _ _ _ _ _ HSC.out|with_reducible exact HKC.out _ _ _ _ _ _ HSC.out.drew|exact HKC.out _ _ _ _ _ _ HS4.out)
         (fail)
        go_wp2_with fail
        go_meet
        exact HS4.out
       have HS5:=Lib.hid hcut
       have l1:=cell_heap (k:=1) (hcut.blk 5 rfl).1 rfl
       have p0:=cell_heap (k:=3) (hcut.blk 0 rfl).1 rfl
       have pl:=heap_lt0 (hcut.blk 5 rfl).1
       have pc:=heap_lt0 (hcut.blk 0 rfl).1
       clear hcut x0 x1 x2 x3
       go_upto_region 29 with (at_builtin;refine wpList_sepPushG rfl _ _ _ 105 rfl ti _ 3 40 Tryz.underlying58 HTI.out.1 HTI.out.2.1 HTI.out.2.2.1 HTI.out.2.2.2 rfl (by decide) (by decide) _ ((HS5.out.alloc _).consSeq 0 le.init) 8 0 (by decide) sn sc _ SA (((owTo d ts k++owP ts k e).map (sq0 d ts)).flatMap Sq.cells) _ #[.int .i64 0,.int .i64 le.init,.slice none 0 0] _ rfl rfl rfl rfl (heap_new _ _) rfl (by omega) ?_;intro g9 cap w9 S9 hz9;have l9:=cell_heap (k:=1) (S9.blk 6 rfl).1 rfl;have f9:=frozen_heap (S9.blk 6 rfl).1 1;have q9:=heap_lt0 (S9.blk 6 rfl).1;have HS9:=Lib.hid S9;clear S9)
       have HS10:=Lib.hid (HS9.out.put 6 rfl 1 (.slice (some ⟨g9,0,none⟩) (sn+1) cap)).tail.tail
       clear l9 f9 q9 l1 p0 pl pc
       generalize w9.setCell _ _=w10 at *
       go_wp2_with (at_builtin;refine wpList_sepPush rfl _ _ rfl _ (HS10.out.alloc _) 10 WA wn wq (owTo d ts k++owP ts k e) (2 * (k:Int)+(e:Int)) _ (0,0) rfl rfl rfl (heap_new _ _) (by omega) ?_;intro g11 cap11 w11 S11 hz11;have HS11:=Lib.hid S11;clear S11)
       go_roundw
       case rel=>exact ⟨e+1,_,sn+1,cap,_,_,_,by omega,by go_num,rfl,by rw [HR.out,←List.append_assoc,List.length_append (bs:=[_]),HSN2.out];rfl,by rw [HR.out,←List.append_assoc,List.map_append (l₂:=[_]),celSq,sqs_snoc',HQ.out];exact HS11.out⟩
       case measure=>simp [intOf];omega
      ·have hf1:(le.flop==1)=false:=by simpa using hf
       have HR:Hid (owP ts k (e+1)=owP ts k e):=by show _=_;rw [HPS.out,HLX.out,if_neg hf,List.append_nil]
       have HSC:=Lib.hid (HSS2.out.alloc (.cells #[.slice A5 n5 c5,.int .i64 le.mask,.int .i64 le.flop,.int .i64 le.init] 107))
       clear hf
       go_wp2_with fail
       go_roundw
       case rel=>exact ⟨e+1,SA,sn,sc,WA,wn,wq,by omega,by go_num,rfl,by rw [HR.out];exact HSN2.out,by rw [HR.out];exact HSC.out⟩
       case measure=>simp [intOf];omega
     ·have he2:e=2:=by omega
      subst he2
      have HFIN:Hid (owTo d ts (k+1)=owTo d ts k++owP ts k 2):=by show _=_;rw [HOT.out,HOA.out]
      go_wp2_with fail
      go_roundw
      case rel=>exact ⟨k+1,SA,sn,sc,WA,wn,wq,by omega,by go_num,rfl,by rw [HFIN.out];exact HSN2.out,by rw [HFIN.out];exact HSS2.out⟩
      case measure=>simp [intOf];omega
   ·have hrow:=owAt_in (d:=d) (ts:=ts) (j:=k) (x:=2 * (k:Int))
    have HOA:Hid (owAt d ts k=[2 * (k:Int)]):=by show _=_;rw [owAt,HK.out];rfl
    have HR:Hid (owTo d ts (k+1)=owTo d ts k++[2 * (k:Int)]):=by show _=_;rw [HOT.out,HOA.out]
    have HNW:Hid (2 * (k:Int)∉owTo d ts k):=fun h=>by have:=(owTo_in.1 h).2.1;omega
    have HQ:Hid (sq0 d ts (2 * (k:Int))=⟨1,ram,[]⟩):=by show _=_;rw [sq0,show 2 * (k:Int) / 2=(k:Int) by omega,HK.out,HRM.out];rfl
    clear hrow hol2
    go_upto_region 32 with fail
    go_cut [] from 145 to 157 (fun wx=>Sepa W wx (.blk wr.heap.size #[.slice S' m3 q,.slice (some ⟨bl,ol,none⟩) 2 q4,.int .i64 (tileAt ts (k:Int)).pad,.int .i64 ram] 103 :: trBlk gT g gI gF gM :: pI :: numPc gF (sqB d ts) (owTo d ts k++[2 * (k:Int)]) :: pM :: lnBlk gL In (.slice SA sn sc) Lv Ov :: pA :: .cel (celSq ((owTo d ts k).map (sq0 d ts))) (.slice SA sn sc) :: pC :: pi :: po :: .cel (celI (owTo d ts k)) (.slice WA wn wq) :: rs))
    case first =>
     obtain ⟨w4,hrun,S4,-⟩:=HS1.out.drew.numPut 3 rfl (by have:=HSN.out;omega) (2 * (k:Int)) (1+In+(sn:Int)) ⟨by omega,by omega⟩ (by rw [HIN.out,HSN.out]) ⟨by omega,by omega⟩ HNW.out
     have HS4:=Lib.hid S4
     have HKC:=Lib.hid (fun (w':World) (p0 p1 p2 p3:Pc) (r:List Pc) (h:Sepa W w' (p0 :: trBlk gT g gI gF gM :: p1 :: p2 :: p3 :: lnBlk gL In (.slice SA sn sc) Lv Ov :: r))=>(show w'.cell? ⟨gT,2,none⟩=some (.map (some gF))∧w'.cell? ⟨gL,0,none⟩=some (.int .i64 In)∧w'.cell? ⟨gL,1,none⟩=some (.slice SA sn sc) from ⟨cell_heap (k:=2) (h.blk 1 rfl).1 rfl,cell_heap (k:=0) (h.blk 5 rfl).1 rfl,cell_heap (k:=1) (h.blk 5 rfl).1 rfl⟩))
     have p1:=heap_lt0 (HS1.out.blk 1 rfl).1
     have p5:=heap_lt0 (HS1.out.blk 5 rfl).1
     have v1:IntKind.i64.wrap (2 * (k:Int))=2 * (k:Int):=IntWalk.i64_in _ (by omega)
     have v2:IntKind.i64.wrap (1+In)=1+In:=IntWalk.i64_in _ (by omega)
     have v3:IntKind.i64.wrap (1+In+(sn:Int))=1+In+(sn:Int):=IntWalk.i64_in _ (by omega)
     clear S4
     go_region_held3 (fun w'=>w'.cell? ⟨gT,2,none⟩=some (.map (some gF))∧w'.cell? ⟨gL,0,none⟩=some (.int .i64 In)∧w'.cell? ⟨gL,1,none⟩=some (.slice SA sn sc))
      (first|with_reducible exact HKC.out _ _ _ _ _ _ HS1.out|with_reducible exact HKC.out _ _ _ _ _ _ HS1.out.drew|exact HKC.out _ _ _ _ _ _ HS4.out)
      (fail)
     go_wp2_with fail
     go_meet
     exact HS4.out
    have HS5:=Lib.hid hcut
    have l1:=cell_heap (k:=1) (hcut.blk 5 rfl).1 rfl
    have p0:=cell_heap (k:=3) (hcut.blk 0 rfl).1 rfl
    have pl:=heap_lt0 (hcut.blk 5 rfl).1
    have pc:=heap_lt0 (hcut.blk 0 rfl).1
    clear hcut hc1 hc3 lc
    go_upto_region 34 with (at_builtin;refine wpList_sepPushG rfl _ _ _ 105 rfl ti _ 3 40 Tryz.underlying58 HTI.out.1 HTI.out.2.1 HTI.out.2.2.1 HTI.out.2.2.2 rfl (by decide) (by decide) _ ((HS5.out.alloc _).consSeq 1 ram) 8 0 (by decide) sn sc _ SA (((owTo d ts k).map (sq0 d ts)).flatMap Sq.cells) _ #[.int .i64 1,.int .i64 ram,.slice none 0 0] _ rfl rfl rfl rfl (heap_new _ _) rfl (by omega) ?_;intro g9 cap w9 S9 hz9;have l9:=cell_heap (k:=1) (S9.blk 6 rfl).1 rfl;have f9:=frozen_heap (S9.blk 6 rfl).1 1;have q9:=heap_lt0 (S9.blk 6 rfl).1;have HS9:=Lib.hid S9;clear S9)
    have HS10:=Lib.hid (HS9.out.put 6 rfl 1 (.slice (some ⟨g9,0,none⟩) (sn+1) cap)).tail.tail
    clear l9 f9 q9 l1 p0 pl pc
    generalize w9.setCell _ _=w10 at *
    go_wp2_with (at_builtin;refine wpList_sepPush rfl _ _ rfl _ (HS10.out.alloc _) 10 WA wn wq (owTo d ts k) (2 * (k:Int)) _ (0,0) rfl rfl rfl (heap_new _ _) (by omega) ?_;intro g11 cap11 w11 S11 hz11;have HS11:=Lib.hid S11;clear S11)
    go_roundw
    case rel=>exact ⟨k+1,_,sn+1,cap,_,_,_,by omega,by go_num,rfl,by rw [HR.out,List.length_append,HSN.out];rfl,by rw [HR.out,List.map_append,celSq,sqs_snoc',HQ.out];exact HS11.out⟩
    case measure=>simp [intOf];omega
  ·have hkm:k=m:=by omega
   have hdk:decide ((k:Int)<(m:Int))=false:=by simp;omega
   have HOW:Hid (owTo d ts k=owL d ts):=by show _=_;unfold owL;rw [HTM.out,←hkm]
   have hse:sn=(owL d ts).length:=by rw [←HOW.out];exact HSN.out
   have hwe:wn=(owL d ts).length:=by rw [←HOW.out];exact HWN.out.symm
   rw [HOW.out] at hs
   subst hse hwe
   have HS2:=Lib.hid hs
   clear hs hkm
   go_wp2_with fail
   apply HX.out
   exact HS2.out
end Go.Proofs.YtignkfhdkcgkgaaGreat
