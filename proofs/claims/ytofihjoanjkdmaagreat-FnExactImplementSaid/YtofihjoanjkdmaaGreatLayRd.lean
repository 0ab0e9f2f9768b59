/- Reading networks of look-up tables. -/
import Derived.Test.YtofihjoanjkdmaaGreatLayP2
import Derived.Test.YtofihjoanjkdmaaGreatSepB
namespace Go.Proofs.YtofihjoanjkdmaaGreat
set_option maxHeartbeats 400000
set_option maxRecDepth 100000
open Go.RowKit
theorem RdC.lut'{w:World}{B n c k:Nat}{A:Oh}{xs:List Lt}(h:RdC w B (aj xs) (.slice A n c))(hk:k<xs.length) :
  ∃b o S m p,A=some ⟨b,o,none⟩/\b<B/\w.cell? ⟨b,o+k*2,none⟩=some (.slice S m p)/\w.cell? ⟨b,o+k*2+1,none⟩=some (.int .i64 (xs[k]?.getD Lt.zero).mask)/\RdC w B (aI (xs[k]?.getD Lt.zero).ins) (.slice S m p):=by
 have hl:=jM Lt.cells_length xs;obtain⟨b,o,rfl,hb,hc⟩:=h.cell (by rw[hl];omega);have hx:=getD_some Lt.zero hk;generalize xs[k]?.getD Lt.zero=t at *;have g:=fun(j:Nat) (hj:j<2)=>hc (k*2+j) (by rw[hl];omega);obtain⟨c0,H,q,G,z⟩:=g 0 (by omega);obtain⟨c1,I,e1,D,u⟩:=g 1 (by omega);rw[pY Lt.cells_length hx (by omega)]at q e1;simp only[Lt.cells,List.getElem?_cons_zero,List.getElem?_cons_succ,Option.some.injEq]at q e1;subst q e1;rw[jJ]at u;subst u;obtain⟨S,m,p,rfl⟩:=gz (e:=3) (s:=1) z;exact⟨b,o,S,m,p,rfl,hb,G,D,z⟩
theorem RdC.lutN'{w:World}{B n c:Nat}{A:Oh}{xs:List Lt}(h:RdC w B (aj xs) (.slice A n c)):xs.length=n:=by
 have:=RdC.len h;rw[jM Lt.cells_length]at this;omega
theorem RdC.sq'{w:World}{B n c k:Nat}{A:Oh}{xs:List Sq}(h:RdC w B (aY xs) (.slice A n c))(hk:k<xs.length) :
  ∃b o S m p,A=some ⟨b,o,none⟩/\b<B/\w.cell? ⟨b,o+k*3,none⟩=some (.int .i64 (xs[k]?.getD Sq.zero).kind)/\w.cell? ⟨b,o+k*3+1,none⟩=some (.int .i64 (xs[k]?.getD Sq.zero).init)/\w.cell? ⟨b,o+k*3+2,none⟩=some (.slice S m p)/\RdC w B (aI (xs[k]?.getD Sq.zero).ins) (.slice S m p):=by
 have hl:=jM Sq.cells_length xs;obtain⟨b,o,rfl,hb,hc⟩:=h.cell (by rw[hl];omega);have hx:=getD_some Sq.zero hk;generalize xs[k]?.getD Sq.zero=t at *;have g:=fun(j:Nat) (hj:j<3)=>hc (k*3+j) (by rw[hl];omega);obtain⟨c0,J,q,H,z⟩:=g 0 (by omega);obtain⟨c1,Q,e1,G,u⟩:=g 1 (by omega);obtain⟨c2,K,e2,I,D⟩:=g 2 (by omega);rw[pY Sq.cells_length hx (by omega)]at q e1 e2;simp only[Sq.cells,List.getElem?_cons_zero,List.getElem?_cons_succ,Option.some.injEq]at q e1 e2;subst q e1 e2;rw[jJ]at z u;subst z u;obtain⟨S,m,p,rfl⟩:=gz (e:=3) (s:=1) D;exact⟨b,o,S,m,p,rfl,hb,H,G,I,D⟩
theorem RdC.sqN'{w:World}{B n c:Nat}{A:Oh}{xs:List Sq}(h:RdC w B (aY xs) (.slice A n c)):xs.length=n:=by
 have:=RdC.len h;rw[jM Sq.cells_length]at this;omega
abbrev ig(l:aU)(SA LA OA:Oh)(sn sc ln lc on oc:Nat):Value := .agg #[.int .i64 l.inputs,.slice SA sn sc,.slice LA ln lc,.slice OA on oc]
abbrev bX(l:aU)(SA LA OA:Oh)(sn sc ln lc on oc:Nat):Array Value:=#[.int .i64 l.inputs,.slice SA sn sc,.slice LA ln lc,.slice OA on oc]
structure fA(w:World)(l:aU)(SA LA OA:Oh)(sn sc ln lc on oc:Nat):Prop where
 sq:RdC w w.heap.size (aY l.seqs) (.slice SA sn sc)
 lt:RdC w w.heap.size (aj l.luts) (.slice LA ln lc)
 ou:RdC w w.heap.size (aI l.outs) (.slice OA on oc)
theorem fA.below{w w':World}{l:aU}{SA LA OA:Oh}{sn sc ln lc on oc:Nat}(h:fA w l SA LA OA sn sc ln lc on oc)(hb:Below w.heap.size w w'):fA w' l SA LA OA sn sc ln lc on oc:=⟨h.sq.below hb,h.lt.below hb,h.ou.below hb⟩
theorem fA.lens{w:World}{l:aU}{SA LA OA:Oh}{sn sc ln lc on oc:Nat}(h:fA w l SA LA OA sn sc ln lc on oc):l.seqs.length=sn/\l.luts.length=ln/\l.outs.length=on:=⟨h.sq.sqN',h.lt.lutN',h.ou.ints.1⟩
theorem wV(g:Int)(SA LA OA:Oh)(sn sc ln lc on oc:Nat)(w:World)(h0:0<=g)(h1:g<=1099511627776)(h2:sn<=1099511627776)(h3:ln<=1099511627776) :
  Calls Tryz.prog 247 #[.agg #[.int .i64 g,.slice SA sn sc,.slice LA ln lc,.slice OA on oc]] w fun e w'=>e=.returned (.int .i64 (1+g+(sn:Int)+(ln:Int)))/\Below w.heap.size w w':=by
 go_enter Tryz.func247,Tryz.ntmps247;go_wp2;go_ret;exact⟨rfl,aB (Below.refl _ _) _⟩
def LeT.cells(e:LeT):List Cel:=[.int e.lut,.int e.ff]
def ay(es:List LeT):Cel := .row 94 2 (es.flatMap LeT.cells)
def Blk.cells(b:Blk):List Cel:=[.int b.kind,.int b.item,ay b.les]
def aa(bs:List Blk):Cel := .row 89 3 (bs.flatMap Blk.cells)
def aL.cells(p:aL):List Cel:=[.int p.block,.int p.pin]
def aZ(g:List aL):Cel := .row 100 2 (g.flatMap aL.cells)
def Cn.cells(c:Cn):List Cel:=[.int c.node,.int c.src.block,.int c.src.pin,aZ c.sinks]
def bL(cs:List Cn):Cel := .row 158 4 (cs.flatMap Cn.cells)
def Rou.cells(r:Rou):List Cel:=[aI r.nodes,aI r.from_]
def bM(rs:List Rou):Cel := .row 114 2 (rs.flatMap Rou.cells)
theorem LeT.cells_length(x:LeT):x.cells.length=2:=rfl
theorem Blk.cells_length(x:Blk):x.cells.length=3:=rfl
theorem aL.cells_length(x:aL):x.cells.length=2:=rfl
theorem Cn.cells_length(x:Cn):x.cells.length=4:=rfl
theorem Rou.cells_length(x:Rou):x.cells.length=2:=rfl
theorem Ci(xs:List aL)(x:aL):(xs++[x]).flatMap aL.cells=xs.flatMap aL.cells++x.cells:=by simp
theorem Hr(xs:List Cn)(x:Cn):(xs++[x]).flatMap Cn.cells=xs.flatMap Cn.cells++x.cells:=by simp
theorem RdC.elem{α:Type}{f:α→List Cel}{s e:Nat}(hf:∀x,(f x).length=s){w:World}{B n c k:Nat}{A:Oh}{xs:List α}{z:α}(h:RdC w B (.row e s (xs.flatMap f)) (.slice A n c))(hk:k<xs.length)(hs:0<s) :
  ∃b o,A=some ⟨b,o,none⟩/\b<B/\∀(j:Nat) (c:Cel),(f (xs[k]?.getD z))[j]?=some c→∃v,w.cell? ⟨b,o+k*s+j,none⟩=some v/\RdC w B c v:=by
 have hl:=jM hf xs
 have hm:k*s+s<=xs.length*s:=by
  have:=Nat.mul_le_mul_right s (show k+1<=xs.length by omega);rwa[Nat.succ_mul]at this
 obtain⟨b,o,rfl,hb,hc⟩:=h.cell (by rw[hl];omega);have hx:=getD_some z hk;refine⟨b,o,rfl,hb,fun j c hj=>?_⟩
 have g:j<s:=by
  rcases Nat.lt_or_ge j s with h|h
  ·exact h
  rw[List.getElem?_eq_none (by rw[hf];exact h)]at hj
  cases hj
 obtain⟨D,v,e1,q,u⟩:=hc (k*s+j) (by rw[hl];omega);rw[pY hf hx g,hj]at e1;obtain rfl:=Option.some.inj e1;exact⟨v,by rw[Nat.add_assoc];exact q,u⟩
theorem RdC.flatN{α:Type}{f:α→List Cel}{s e:Nat}(hf:∀x,(f x).length=s)(hs:0<s){w:World}{B n c:Nat}{A:Oh}{xs:List α}(h:RdC w B (.row e s (xs.flatMap f)) (.slice A n c)):xs.length=n:=by
 have:=RdC.len h;rw[jM hf]at this;exact Nat.eq_of_mul_eq_mul_right hs this
theorem RdC.esN{w:World}{B n c:Nat}{A:Oh}{xs:List LeT}(h:RdC w B (ay xs) (.slice A n c)):xs.length=n:=RdC.flatN LeT.cells_length (by omega) h
theorem RdC.blkN{w:World}{B n c:Nat}{A:Oh}{xs:List Blk}(h:RdC w B (aa xs) (.slice A n c)):xs.length=n:=RdC.flatN Blk.cells_length (by omega) h
theorem RdC.pinN{w:World}{B n c:Nat}{A:Oh}{xs:List aL}(h:RdC w B (aZ xs) (.slice A n c)):xs.length=n:=RdC.flatN aL.cells_length (by omega) h
theorem RdC.cnN{w:World}{B n c:Nat}{A:Oh}{xs:List Cn}(h:RdC w B (bL xs) (.slice A n c)):xs.length=n:=RdC.flatN Cn.cells_length (by omega) h
theorem RdC.rouN{w:World}{B n c:Nat}{A:Oh}{xs:List Rou}(h:RdC w B (bM xs) (.slice A n c)):xs.length=n:=RdC.flatN Rou.cells_length (by omega) h
theorem RdC.es{w:World}{B n c k:Nat}{A:Oh}{xs:List LeT}(h:RdC w B (ay xs) (.slice A n c))(hk:k<xs.length) :
  ∃b o,A=some ⟨b,o,none⟩/\b<B/\w.cell? ⟨b,o+k*2,none⟩=some (.int .i64 (xs[k]?.getD LeT.zero).lut)/\w.cell? ⟨b,o+k*2+1,none⟩=some (.int .i64 (xs[k]?.getD LeT.zero).ff):=by
 obtain⟨b,o,rfl,hb,hc⟩:=RdC.elem (z:=LeT.zero) LeT.cells_length h hk (by omega);obtain⟨D,u,j⟩:=hc 0 _ rfl;obtain⟨G,q,g⟩:=hc 1 _ rfl;rw[jJ]at j g;subst j g;exact⟨b,o,rfl,hb,u,q⟩
theorem RdC.pin{w:World}{B n c k:Nat}{A:Oh}{xs:List aL}(h:RdC w B (aZ xs) (.slice A n c))(hk:k<xs.length) :
  ∃b o,A=some ⟨b,o,none⟩/\b<B/\w.cell? ⟨b,o+k*2,none⟩=some (.int .i64 (xs[k]?.getD aL.zero).block)/\w.cell? ⟨b,o+k*2+1,none⟩=some (.int .i64 (xs[k]?.getD aL.zero).pin):=by
 obtain⟨b,o,rfl,hb,hc⟩:=RdC.elem (z:=aL.zero) aL.cells_length h hk (by omega);obtain⟨D,u,j⟩:=hc 0 _ rfl;obtain⟨G,q,g⟩:=hc 1 _ rfl;rw[jJ]at j g;subst j g;exact⟨b,o,rfl,hb,u,q⟩
theorem RdC.blk{w:World}{B n c k:Nat}{A:Oh}{xs:List Blk}(h:RdC w B (aa xs) (.slice A n c))(hk:k<xs.length) :
  ∃b o S m p,A=some ⟨b,o,none⟩/\b<B/\w.cell? ⟨b,o+k*3,none⟩=some (.int .i64 (xs[k]?.getD Blk.zero).kind)/\w.cell? ⟨b,o+k*3+1,none⟩=some (.int .i64 (xs[k]?.getD Blk.zero).item)/\w.cell? ⟨b,o+k*3+2,none⟩=some (.slice S m p)/\RdC w B (ay (xs[k]?.getD Blk.zero).les) (.slice S m p):=by
 obtain⟨b,o,rfl,hb,hc⟩:=RdC.elem (z:=Blk.zero) Blk.cells_length h hk (by omega);obtain⟨H,D,j⟩:=hc 0 _ rfl;obtain⟨J,u,g⟩:=hc 1 _ rfl;obtain⟨I,G,q⟩:=hc 2 _ rfl;rw[jJ]at j g;subst j g;obtain⟨S,m,p,rfl⟩:=gz (e:=94) (s:=2) q;exact⟨b,o,S,m,p,rfl,hb,D,u,G,q⟩
theorem RdC.cn{w:World}{B n c k:Nat}{A:Oh}{xs:List Cn}(h:RdC w B (bL xs) (.slice A n c))(hk:k<xs.length) :
  ∃b o S m p,A=some ⟨b,o,none⟩/\b<B/\w.cell? ⟨b,o+k*4,none⟩=some (.int .i64 (xs[k]?.getD Cn.zero).node)/\w.cell? ⟨b,o+k*4+1,none⟩=some (.int .i64 (xs[k]?.getD Cn.zero).src.block)/\w.cell? ⟨b,o+k*4+2,none⟩=some (.int .i64 (xs[k]?.getD Cn.zero).src.pin)/\w.cell? ⟨b,o+k*4+3,none⟩=some (.slice S m p)/\RdC w B (aZ (xs[k]?.getD Cn.zero).sinks) (.slice S m p):=by
 obtain⟨b,o,rfl,hb,hc⟩:=RdC.elem (z:=Cn.zero) Cn.cells_length h hk (by omega);obtain⟨J,G,j⟩:=hc 0 _ rfl;obtain⟨Q,D,g⟩:=hc 1 _ rfl;obtain⟨K,I,q⟩:=hc 2 _ rfl;obtain⟨R,H,u⟩:=hc 3 _ rfl;rw[jJ]at j g q;subst j g q;obtain⟨S,m,p,rfl⟩:=gz (e:=100) (s:=2) u;exact⟨b,o,S,m,p,rfl,hb,G,D,I,H,u⟩
theorem RdC.rou{w:World}{B n c k:Nat}{A:Oh}{xs:List Rou}(h:RdC w B (bM xs) (.slice A n c))(hk:k<xs.length) :
  ∃b o S m p g j p',A=some ⟨b,o,none⟩/\b<B/\w.cell? ⟨b,o+k*2,none⟩=some (.slice S m p)/\w.cell? ⟨b,o+k*2+1,none⟩=some (.slice g j p')/\RdC w B (aI (xs[k]?.getD Rou.zero).nodes) (.slice S m p)/\RdC w B (aI (xs[k]?.getD Rou.zero).from_) (.slice g j p'):=by
 obtain⟨b,o,rfl,hb,hc⟩:=RdC.elem (z:=Rou.zero) Rou.cells_length h hk (by omega);obtain⟨H,G,u⟩:=hc 0 _ rfl;obtain⟨I,D,q⟩:=hc 1 _ rfl;obtain⟨S,m,p,rfl⟩:=gz (e:=3) (s:=1) u;obtain⟨g,j,p',rfl⟩:=gz (e:=3) (s:=1) q;exact⟨b,o,S,m,p,g,j,p',rfl,hb,G,D,u,q⟩
end Go.Proofs.YtofihjoanjkdmaaGreat
