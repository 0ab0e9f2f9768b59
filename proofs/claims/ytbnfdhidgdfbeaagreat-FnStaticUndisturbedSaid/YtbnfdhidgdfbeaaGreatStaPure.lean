/- A quiet region: what lies in it does not reach the tiles outside it. Plain lemmas. -/
import Derived.Test.YtbnfdhidgdfbeaaGreatCmPure
namespace Go.Proofs.YtbnfdhidgdfbeaaGreat
set_option maxRecDepth 100000
open Go.RowKit Cw

/-- Two sets of tiles that are alike outside a region; the second is quiet there. -/
structure Calm (d:Dev) (r:Reg) (ts us:List Tile) (st su:List Int):Prop where
 dev:devOk d=true
 len:ts.length=us.length
 cfg:CfgOk d us
 tile:∀j:Nat,inReg d r (j:Int)=false→ts[j]?.getD Tile.zero=us[j]?.getD Tile.zero
 quiet:∀k:Nat,k<(nodesOf d).toNat→rqOk d us r (k:Int)=true
 sta:∀i:Nat,inReg d r ((i / 2:Nat):Int)=false→st[i]?.getD 0=su[i]?.getD 0
def VEq (d:Dev) (r:Reg) (vs ws:List Int):Prop:=vs.length=ws.length∧∀i,nodeIn d i=true→inReg d r (i / perT d)=false→nv vs i=nv ws i
theorem node_of {d:Dev} {t s:Int} (ht:tileIn d t=true) (h0:0≤s) (h1:s<perT d):nodeIn d (t * perT d+s)=true∧(t * perT d+s) / perT d=t:=by
 obtain ⟨hd,q0,q1⟩:=tileIn_iff.1 ht
 have hp:=perT_bd hd
 refine ⟨?_,(divmod_of rfl h0 h1).1⟩
 have hm:=Int.mul_nonneg q0 (show 0≤perT d by omega)
 have hn:t * perT d+s<nodesOf d:=by
  unfold nodesOf
  have h2:t * perT d≤(d.W * d.H - 1) * perT d:=Int.mul_le_mul_of_nonneg_right (by omega) (by omega)
  rw [Int.sub_mul] at h2
  omega
 unfold nodeIn
 rw [hd,decide_eq_true (show 0≤t * perT d+s by omega),decide_eq_true hn]
 rfl
section
variable {d:Dev} {r:Reg} {ts us:List Tile} {st su ps:List Int}
theorem Calm.at (h:Calm d r ts us st su) {t:Int} (ht:tileIn d t=true) (ho:inReg d r t=false):tileAt ts t=tileAt us t:=by
 have h0:=(tileIn_iff.1 ht).2.1
 refine h.tile t.toNat ?_
 rw [Int.toNat_of_nonneg h0];exact ho
theorem Calm.fit (h:Calm d r ts us st su) {t:Int} (ht:tileIn d t=true):TileFit d (tileAt us t):=by
 obtain ⟨hd,h0,h1⟩:=tileIn_iff.1 ht
 have hN:=(tiles_eq hd).1
 exact tileOk_iff (h.cfg.fit t.toNat (by rw [h.cfg.len];omega))
theorem Calm.le (h:Calm d r ts us st su) {t e:Int} (ht:tileIn d t=true) (j:Nat):(leAt us t e).sel[j]?.getD 0≤7:=by
 obtain ⟨e0,e1,hl,l0,l1⟩:=(h.fit ht).les
 have key:∀x:Le,leOk x=true→x.sel[j]?.getD 0≤7:=fun x hx=>by
  obtain ⟨a,b,c,f,hs,ha,hb,hc,hf⟩:=(leOk_iff hx).sel
  rw [hs]
  match j with
  | 0=>exact ha.2
  | 1=>exact hb.2
  | 2=>exact hc.2
  | 3=>exact hf.2
  | j+4=>simp
 unfold leAt
 rw [hl]
 match e.toNat with
 | 0=>exact key e0 l0
 | 1=>exact key e1 l1
 | n+2=>simp [Le.zero]
theorem sta_sel (h:Calm d r ts us st su) {vs ws:List Int} (hv:VEq d r vs ws) {t s:Int} (ht:tileIn d t=true) (ho:inReg d r t=false) (hs:s≤7):selV d vs t s=selV d ws t s:=by
 unfold selV
 split
 ·have hp:=perT_bd h.dev
  obtain ⟨h1,h2⟩:=node_of (s:=s - 1) ht (by omega) (by omega)
  rw [show t * perT d+s - 1=t * perT d+(s - 1) by omega]
  exact hv.2 _ h1 (by rw [h2];exact ho)
 ·rfl
theorem sta_lut (h:Calm d r ts us st su) {vs ws:List Int} (hv:VEq d r vs ws) {t e:Int} (ht:tileIn d t=true) (ho:inReg d r t=false):lutF d vs t (leAt us t e)=lutF d ws t (leAt us t e):=by
 have hs:=fun j=>sta_sel h hv ht ho (h.le (e:=e) ht j)
 generalize leAt us t e=x at *
 have hn:∀j,negTo d vs t x.sel j=negTo d ws t x.sel j:=fun j=>by
  induction j with
  | zero=>rfl
  | succ j ih=>rw [negTo,negTo,ih,hs j]
 have hi:∀j,idxTo d vs t x.sel j=idxTo d ws t x.sel j:=fun j=>by
  induction j with
  | zero=>rfl
  | succ j ih=>rw [idxTo,idxTo,ih,hs j]
 unfold lutF
 rw [hn,hi]
theorem sta_le (h:Calm d r ts us st su) {t e:Int} (ht:tileIn d t=true) (ho:inReg d r t=false):leAt ts t e=leAt us t e:=by
 unfold leAt
 rw [h.at ht ho]
theorem sta_drv (h:Calm d r ts us st su) {n:Int} (hn:nodeIn d n=true) (ho:inReg d r (n / perT d)=false):drvOf d ts n=drvOf d us n:=by
 unfold drvOf selOf
 rw [h.at (node_tile hn) ho]
theorem sta_pin (h:Calm d r ts us st su) {vs ws:List Int} (hv:VEq d r vs ws) {t e:Int} (ht:tileIn d t=true) (ho:inReg d r t=false) (he:0≤e∧e≤1):pinF d ts st ps vs t e=pinF d us su ps ws t e:=by
 have h0:=(tileIn_iff.1 ht).2.1
 have hst:∀f:Int,0≤f→f≤1→nv st (2 * t+f)=nv su (2 * t+f):=fun f f0 f1=>by
  refine h.sta _ ?_
  rw [show (((2 * t+f).toNat / 2:Nat):Int)=t by omega]
  exact ho
 have h2:=hst 0 (by omega) (by omega)
 rw [Int.add_zero] at h2
 unfold pinF
 rw [h.at ht ho,h2,hst e he.1 he.2,sta_le h ht ho,sta_lut h hv ht ho]
theorem sta_node (h:Calm d r ts us st su) {vs ws:List Int} (hv:VEq d r vs ws) {n:Int} (hn:nodeIn d n=true) (ho:inReg d r (n / perT d)=false):nodeV d ts st ps vs n=nodeV d us su ps ws n:=by
 unfold nodeV
 split
 ·exact sta_pin h hv (node_tile hn) ho (by omega)
 ·rw [sta_drv h hn ho]
  split
  ·rename_i hd
   refine hv.2 _ (drv_node h.cfg hd).1 ?_
   have h0:0≤n:=(node_tk hn).2.1
   have hb:n<nodesOf d:=by unfold nodeIn at hn;simp only [Bool.and_eq_true,decide_eq_true_eq] at hn;exact hn.2.2
   have hq:=h.quiet n.toNat (by omega)
   unfold rqOk at hq
   rw [Int.toNat_of_nonneg h0,ho,decide_eq_false (show ¬drvOf d us n<0 by omega),Bool.false_or,Bool.false_or] at hq
   cases hi:inReg d r (drvOf d us n / perT d) with
   | false=>rfl
   | true=>rw [hi] at hq;cases hq
  ·rfl
theorem sta_step (h:Calm d r ts us st su) {vs ws:List Int} (hv:VEq d r vs ws) (n:Nat):VEq d r (stepV d ts st ps vs (n:Int)) (stepV d us su ps ws (n:Int)):=by
 refine ⟨by rw [stepV_length,stepV_length];exact hv.1,fun i hi ho=>?_⟩
 have i0:0≤i:=(node_tk hi).2.1
 have hs:∀(xs:List Int) (x:Int),i.toNat≠(n:Int).toNat→nv (xs.set (n:Int).toNat x) i=nv xs i:=fun xs x hne=>by
  unfold nv
  rw [List.getElem?_set_ne (fun e=>hne e.symm)]
 by_cases he:i=(n:Int)
 ·subst he
  have hno:=sta_node (ps:=ps) h hv hi ho
  have hvn:=hv.2 _ hi ho
  unfold stepV
  rw [hno,hvn]
  split
  ·unfold nv
   rw [List.getElem?_set,List.getElem?_set,hv.1,if_pos rfl,if_pos rfl]
  ·exact hvn
 ·have hne:i.toNat≠(n:Int).toNat:=by omega
  have a1:nv (stepV d ts st ps vs (n:Int)) i=nv vs i:=by unfold stepV;split;exact hs _ _ hne;rfl
  have a2:nv (stepV d us su ps ws (n:Int)) i=nv ws i:=by unfold stepV;split;exact hs _ _ hne;rfl
  rw [a1,a2]
  exact hv.2 i hi ho
theorem sta_sweep (h:Calm d r ts us st su) {vs ws:List Int} (hv:VEq d r vs ws) (k:Nat):VEq d r (sweepTo d ts st ps vs k) (sweepTo d us su ps ws k):=by
 induction k with
 | zero=>exact hv
 | succ k ih=>exact sta_step h ih k
theorem sta_vals (h:Calm d r ts us st su):VEq d r (valsF d ts st ps) (valsF d us su ps):=by
 unfold valsF
 generalize (nodesOf d).toNat=N
 generalize N+1=j
 induction j with
 | zero=>exact ⟨rfl,fun _ _ _=>rfl⟩
 | succ j ih=>exact sta_sweep h ih N

/-! ### the next states and the outputs -/
def LEq (d:Dev) (r:Reg) (l l':List Int):Prop:=l.length=l'.length∧∀i:Nat,inReg d r ((i / 2:Nat):Int)=false→l[i]?.getD 0=l'[i]?.getD 0
theorem LEq.set {l l':List Int} (h:LEq d r l l') (i:Nat) (x:Int):LEq d r (l.set i x) (l'.set i x):=by
 refine ⟨by rw [List.length_set,List.length_set];exact h.1,fun j hj=>?_⟩
 rw [getD_set,getD_set,h.1]
 split
 ·rfl
 ·exact h.2 j hj
theorem LEq.inL {l l':List Int} (h:LEq d r l l') {i:Nat} (hi:inReg d r ((i / 2:Nat):Int)=true) (x:Int):LEq d r (l.set i x) l':=by
 refine ⟨by rw [List.length_set];exact h.1,fun j hj=>?_⟩
 rw [getD_set,if_neg]
 ·exact h.2 j hj
 ·rintro ⟨e,_⟩
  rw [e,hj] at hi
  cases hi
theorem LEq.symm {l l':List Int} (h:LEq d r l l'):LEq d r l' l:=⟨h.1.symm,fun i hi=>(h.2 i hi).symm⟩
theorem LEq.inR {l l':List Int} (h:LEq d r l l') {i:Nat} (hi:inReg d r ((i / 2:Nat):Int)=true) (x:Int):LEq d r l (l'.set i x):=(h.symm.inL hi x).symm
theorem flop_in {l l' vs ws:List Int} (h:LEq d r l l') {k e:Nat} (hk:inReg d r (k:Int)=true) (he:e<2):LEq d r (flopSet d ts vs k l e) (flopSet d us ws k l' e):=by
 have hi:inReg d r (((2 * k+e) / 2:Nat):Int)=true:=by rw [show ((2 * k+e) / 2:Nat)=k by omega];exact hk
 unfold flopSet
 split <;> split
 ·exact (h.inL hi _).inR hi _
 ·exact h.inL hi _
 ·exact h.inR hi _
 ·exact h
theorem sta_flop (h:Calm d r ts us st su) {vs ws l l':List Int} (hv:VEq d r vs ws) (hl:LEq d r l l') {k e:Nat} (ht:tileIn d (k:Int)=true) (he:e<2):LEq d r (flopSet d ts vs k l e) (flopSet d us ws k l' e):=by
 cases ho:inReg d r (k:Int) with
 | true=>exact flop_in hl ho he
 | false =>
  unfold flopSet
  rw [sta_le h ht ho,sta_lut h hv ht ho]
  split
  ·exact hl.set _ _
  ·exact hl
theorem sta_in (h:Calm d r ts us st su) {vs ws:List Int} (hv:VEq d r vs ws) {t:Int} (ht:tileIn d t=true) (ho:inReg d r t=false) {k:Nat} (hk:k≤4):inTo d vs t k=inTo d ws t k:=by
 have hp:=perT_bd h.dev
 induction k with
 | zero=>rfl
 | succ k ih =>
  obtain ⟨h1,h2⟩:=node_of (s:=(k:Int)) ht (by omega) (by omega)
  rw [inTo,inTo,ih (by omega),hv.2 _ h1 (by rw [h2];exact ho)]
theorem sta_nx1 (h:Calm d r ts us st su) {vs ws l l':List Int} (hv:VEq d r vs ws) (hl:LEq d r l l') {k:Nat} (ht:tileIn d (k:Int)=true):LEq d r (nx1 d ts st vs k l) (nx1 d us su ws k l'):=by
 unfold nx1
 split
 ·exact sta_flop (e:=1) h hv (sta_flop (e:=0) h hv hl ht (by decide)) ht (by decide)
 ·split
  ·cases ho:inReg d r (k:Int) with
   | true =>
    have hi:inReg d r ((2 * k / 2:Nat):Int)=true:=by rw [show (2 * k / 2:Nat)=k by omega];exact ho
    exact (hl.inL hi _).inR hi _
   | false =>
    have hs:=h.sta (2 * k) (by rw [show (2 * k / 2:Nat)=k by omega];exact ho)
    rw [hs,sta_in h hv ht ho (Nat.le_refl _)]
    exact hl.set _ _
  ·exact hl
theorem sta_tile (h:Calm d r ts us st su) {k:Nat} (hk:k<us.length):tileIn d (k:Int)=true:=by
 have hN:=(tiles_eq h.dev).1
 rw [h.cfg.len] at hk
 exact tileIn_iff.2 ⟨h.dev,by omega,by omega⟩
theorem sta_next (h:Calm d r ts us st su) (hl:LEq d r st su):LEq d r (nextF d ts st ps) (nextF d us su ps):=by
 have hv:=sta_vals (ps:=ps) h
 unfold nextF
 rw [h.len]
 generalize valsF d ts st ps=vs at *
 generalize valsF d us su ps=ws at *
 have key:∀k,k≤us.length→LEq d r (nextTo d ts st vs k) (nextTo d us su ws k):=fun k=>by
  induction k with
  | zero=>exact fun _=>hl
  | succ k ih=>exact fun hk=>sta_nx1 h hv (ih (by omega)) (sta_tile h (by omega))
 exact key _ (Nat.le_refl _)
theorem sta_out (h:Calm d r ts us st su) (i:Nat) (hi:inReg d r (i:Int)=false):(outF d ts st ps)[i]?.getD 0=(outF d us su ps)[i]?.getD 0:=by
 have hv:=sta_vals (ps:=ps) h
 unfold outF
 rw [h.len]
 generalize valsF d ts st ps=vs at *
 generalize valsF d us su ps=ws at *
 have hp:=perT_bd h.dev
 have key:∀k,k≤us.length→(outTo d ts vs us.length k)[i]?.getD 0=(outTo d us ws us.length k)[i]?.getD 0:=fun k=>by
  induction k with
  | zero=>exact fun _=>rfl
  | succ k ih =>
   intro hk
   have ih:=ih (by omega)
   have ht:=sta_tile h (show k<us.length by omega)
   rw [outTo,outTo]
   by_cases he:k=i
   ·subst he
    have ha:=h.tile k hi
    obtain ⟨h1,h2⟩:=node_of (s:=0) ht (by omega) (by omega)
    rw [Int.add_zero] at h1 h2
    have hn:=hv.2 _ h1 (by rw [h2];exact hi)
    unfold ou1
    rw [ha,hn]
    split
    ·rw [getD_set,getD_set,outTo_length,outTo_length,ih]
    ·exact ih
   ·have hs:∀(ts:List Tile) (vs l:List Int),(ou1 d ts vs k l)[i]?.getD 0=l[i]?.getD 0:=fun ts vs l=>by
     unfold ou1
     split
     ·rw [getD_set,if_neg (fun h=>he h.1)]
     ·rfl
    rw [hs,hs]
    exact ih
 exact key _ (Nat.le_refl _)
end
theorem zS_get (ts:List Int):∀{l:List Int},(∀t∈ts,0≤t)→∀j:Nat,j<l.length→(zS ts l)[j]?.getD 0=if (j:Int)∈ts then 0 else l[j]?.getD 0:=by
 induction ts with
 | nil=>intro l _ j _;rfl
 | cons t ts ih =>
  intro l h0 j hj
  have h1:=ih (l:=l.set t.toNat 0) (fun u hu=>h0 u (List.mem_cons_of_mem _ hu)) j (by rw [List.length_set];exact hj)
  have ht:=h0 t (List.mem_cons_self ..)
  refine Eq.trans h1 ?_
  by_cases hm:(j:Int)∈ts
  ·rw [if_pos hm,if_pos (List.mem_cons_of_mem _ hm)]
  ·rw [if_neg hm,getD_set]
   by_cases he:t.toNat=j
   ·rw [if_pos ⟨he,by omega⟩,if_pos (by rw [List.mem_cons];exact .inl (by omega))]
   ·rw [if_neg (fun h=>he h.1),if_neg (by rw [List.mem_cons];exact fun h=>h.elim (fun h=>by omega) hm)]

/-! ### boards -/
/-- A board that is written beside one that keeps the saved frames. -/
structure Still (b L C:Bd):Prop where
 bkL:bkF L=true
 bkC:bkF C=true
 ph:L.phase=1
 pC:C.phase=0
 dev:L.dev=b.dev
 dvC:C.dev=b.dev
 reg:L.reg=b.reg
 fr:L.frames=b.frames
 frC:C.frames=b.saved
 sta:LEq b.dev b.reg L.state C.state
 len:L.state.length=b.state.length
 same:∀i:Nat,inReg b.dev b.reg ((i / 2:Nat):Int)=true→L.state[i]?.getD 0=b.state[i]?.getD 0
theorem still_start {b:Bd} (h:Good b) (hp:b.phase=1):Still b b { newB b.dev b.saved with state:=b.state }:=by
 obtain ⟨_,h2,_,h4,_⟩:=bk_parts h.bk
 have hs:=(rq_parts (h4 hp)).1
 rw [newB_good hs]
 exact ⟨h.bk,bk_mk hs h2 (.inl ⟨.inl rfl,rfl,rfl⟩),hp,rfl,rfl,rfl,rfl,rfl,rfl,⟨rfl,fun _ _=>rfl⟩,rfl,fun _ _=>rfl⟩
theorem still_calm {b L C:Bd} (hb:Good b) (hp:b.phase=1) (h:Still b L C):Calm b.dev b.reg (tilesOf b.dev b.frames) (tilesOf b.dev b.saved) L.state C.state:=by
 obtain ⟨h1,_,_,h4,_⟩:=bk_parts hb.bk
 obtain ⟨hs,hr⟩:=rq_parts (h4 hp)
 have hq:=h4 hp
 simp only [rqF,Bool.and_eq_true,List.all_eq_true,List.mem_range] at hq
 have l1:=(framesOk_iff h1).2.1
 have l2:=(framesOk_iff hs).2.1
 refine ⟨(framesOk_iff h1).1,by rw [tilesOf_len,tilesOf_len,l1,l2],cfg_of_frames hs,fun j hj=>?_,hq.2.2,h.sta.2⟩
 have ho:=hb.out hp j hj
 unfold tilesOf
 rw [List.getElem?_map,List.getElem?_map]
 rcases Nat.lt_or_ge j b.frames.length with hlt|hge
 ·rw [List.getElem?_eq_getElem hlt,List.getElem?_eq_getElem (show j<b.saved.length by omega)] at ho ⊢
  simp only [Option.map_some,Option.getD_some] at ho ⊢
  rw [ho]
 ·rw [List.getElem?_eq_none hge,List.getElem?_eq_none (show b.saved.length≤j by omega)]
/-- What a cycle shows of both boards. -/
structure StillOut (b L' C':Bd) (oL oC:List Int):Prop where
 still:Still b L' C'
 lenL:oL.length=tiles b.dev
 lenC:oC.length=tiles b.dev
 zero:∀i:Nat,i<tiles b.dev→inReg b.dev b.reg (i:Int)=true→oL[i]?.getD 0=0
 same:∀i:Nat,inReg b.dev b.reg (i:Int)=false→oL[i]?.getD 0=oC[i]?.getD 0
theorem still_step {b L C:Bd} (hb:Good b) (hp:b.phase=1) (h:Still b L C) {ps:List Int} (hps:padsOk b.dev ps=true):StillOut b (spB L ps) (spB C ps) (spN L ps) (spN C ps):=by
 have hc:=still_calm hb hp h
 obtain ⟨h1,hst,_,h4,_⟩:=bk_parts hb.bk
 obtain ⟨_,hr⟩:=rq_parts (h4 hp)
 have oL:spO L ps=true:=by unfold spO;rw [h.bkL,h.dev,hps];rfl
 have oC:spO C ps=true:=by unfold spO;rw [h.bkC,h.dvC,hps];rfl
 have kL:=bk_sp h.bkL ps
 have kC:=bk_sp h.bkC ps
 have hlen:L.state.length=2 * tiles b.dev:=by rw [h.len];exact stOk_len hst
 have eN:nxB L ps=nextF b.dev (tilesOf b.dev b.frames) L.state ps:=by unfold nxB;rw [h.dev,h.fr]
 have eM:nxB C ps=nextF b.dev (tilesOf b.dev b.saved) C.state ps:=by unfold nxB;rw [h.dvC,h.frC]
 have eO:ouB L ps=outF b.dev (tilesOf b.dev b.frames) L.state ps:=by unfold ouB;rw [h.dev,h.fr]
 have eP:ouB C ps=outF b.dev (tilesOf b.dev b.saved) C.state ps:=by unfold ouB;rw [h.dvC,h.frC]
 have sN:=sta_next (ps:=ps) hc h.sta
 rw [←eN,←eM] at sN
 have sO:=fun i hi=>sta_out (ps:=ps) hc i hi
 rw [←eO,←eP] at sO
 have lO:=ouB_len h.bkL ps
 have lP:=ouB_len h.bkC ps
 have hpL:=h.ph
 have hpC:=h.pC
 have eL:spB L ps={ L with state:=ovS L.state (regTiles b.dev b.reg) (nxB L ps) }:=by unfold spB;rw [if_pos oL,if_neg (by omega),if_pos hpL,h.dev,h.reg]
 have eC:spB C ps={ C with state:=nxB C ps }:=by unfold spB;rw [if_pos oC,if_neg (by omega),if_neg (by omega)]
 have nL:spN L ps=zS (regTiles b.dev b.reg) (ouB L ps):=by unfold spN;rw [if_pos oL,if_neg (by omega),if_pos hpL,h.dev,h.reg]
 have nC:spN C ps=ouB C ps:=by unfold spN;rw [if_pos oC,if_neg (by omega),if_neg (by omega)]
 have hpos:=fun t ht=>regTiles_pos (d:=b.dev) (r:=b.reg) (t:=t) ht
 rw [h.dev] at lO
 rw [h.dvC] at lP
 have hlN:(nxB L ps).length=2 * tiles b.dev:=by rw [nxB_len,hlen]
 have zlen:(zS (regTiles b.dev b.reg) (ouB L ps)).length=tiles b.dev:=by
  rw [←lO]
  generalize ouB L ps=l
  generalize regTiles b.dev b.reg=q
  unfold zS
  induction q generalizing l with
  | nil=>rfl
  | cons t q ih=>rw [List.foldl_cons,ih,List.length_set]
 refine ⟨⟨kL,kC,by rw [eL];exact hpL,by rw [eC];exact hpC,by rw [eL];exact h.dev,by rw [eC];exact h.dvC,by rw [eL];exact h.reg,by rw [eL];exact h.fr,by rw [eC];exact h.frC,?_,?_,?_⟩,by rw [nL];exact zlen,by rw [nC];exact lP,?_,?_⟩
 ·rw [eL,eC]
  refine ⟨by show (ovS _ _ _).length=_;rw [ovS_length];exact sN.1,fun i hi=>?_⟩
  show (ovS L.state (regTiles b.dev b.reg) (nxB L ps))[i]?.getD 0=(nxB C ps)[i]?.getD 0
  rcases Nat.lt_or_ge i (nxB L ps).length with hlt|hge
  ·rw [ovS_get _ _ hpos i hlt,if_neg (fun hm=>by have:=((mem_regTiles hr).1 hm).2;rw [hi] at this;cases this)]
   exact sN.2 i hi
  ·rw [List.getElem?_eq_none (show (ovS L.state (regTiles b.dev b.reg) (nxB L ps)).length≤i by rw [ovS_length];exact hge),List.getElem?_eq_none (show (nxB C ps).length≤i by rw [←sN.1];exact hge)]
 ·rw [eL];show (ovS _ _ _).length=_;rw [ovS_length,nxB_len];exact h.len
 ·intro i hi
  rw [eL,←h.same i hi]
  show (ovS L.state (regTiles b.dev b.reg) (nxB L ps))[i]?.getD 0=_
  rcases Nat.lt_or_ge i (nxB L ps).length with hlt|hge
  ·rw [ovS_get _ _ hpos i hlt,if_pos ((mem_regTiles hr).2 ⟨by omega,hi⟩)]
  ·rw [List.getElem?_eq_none (show (ovS L.state (regTiles b.dev b.reg) (nxB L ps)).length≤i by rw [ovS_length];exact hge),List.getElem?_eq_none (show L.state.length≤i by rw [nxB_len] at hge;exact hge)]
 ·intro i hi hin
  rw [nL,zS_get _ hpos i (by omega),if_pos ((mem_regTiles hr).2 ⟨hi,hin⟩)]
 ·intro i hin
  rw [nL,nC]
  rcases Nat.lt_or_ge i (tiles b.dev) with hlt|hge
  ·rw [zS_get _ hpos i (by omega),if_neg (fun hm=>by have:=((mem_regTiles hr).1 hm).2;rw [hin] at this;cases this)]
   exact sO i hin
  ·rw [List.getElem?_eq_none (by omega),List.getElem?_eq_none (by omega)]
end Go.Proofs.YtbnfdhidgdfbeaaGreat
