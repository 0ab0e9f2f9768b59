/- Rows of queue entries among the pieces. -/
import Derived.Test.YtofihjoanjkdmaaGreatGroP
import Derived.Test.YtofihjoanjkdmaaGreatHeldW
import Derived.Test.YtofihjoanjkdmaaGreatLayDP
import Derived.Test.YtofihjoanjkdmaaGreatPinS
import Derived.Test.YtofihjoanjkdmaaGreatResc
namespace Go.Proofs.YtofihjoanjkdmaaGreat
set_option maxHeartbeats 8000000
set_option maxRecDepth 100000
open Go.RowKit
def lM(es:List aL):Cel := .row 251 2 (es.flatMap aL.cells)
theorem MB:(Tryz.prog.info? 251).map (fun i=>(i.zero,i.size,i.bytes))=some (some (.agg #[.int .i64 0,.int .i64 0]),2,16):=by kernel_rfl
theorem RdC.queN{w:World}{B n c:Nat}{A:Oh}{xs:List aL}(h:RdC w B (lM xs) (.slice A n c)):xs.length=n:=RdC.flatN aL.cells_length (by omega) h
theorem aD.setQ{W w:World}{u:List Pc}(S:aD W w u)(j:Nat){n c i:Nat}{A:Oh}{o:List aL}(hj:u[j]?=some (.cel (lM o) (.slice A n c)))(hi:i<o.length) :
  ∃g,A=some ⟨g,0,none⟩/\g<w.heap.size/\w.cell? ⟨g,i*2,none⟩=some (.int .i64 (o[i]?.getD aL.zero).block)/\w.cell? ⟨g,i*2+1,none⟩=some (.int .i64 (o[i]?.getD aL.zero).pin)/\w.frozen? ⟨g,i*2,none⟩=false/\w.frozen? ⟨g,i*2+1,none⟩=false /\
   ∀p:aL,aD W ((w.setCell ⟨g,i*2,none⟩ (.int .i64 p.block)).setCell ⟨g,i*2+1,none⟩ (.int .i64 p.pin)) (u.set j (.cel (lM (o.set i p)) (.slice A n c))):=by
 have hx:o[i]?=some (o[i]?.getD aL.zero):=getD_some _ hi;have G:(o.flatMap aL.cells)[i*2]?=some (.int (o[i]?.getD aL.zero).block):=by have:=pY (f:=aL.cells) (s:=2) aL.cells_length hx (j:=0) (by omega);rw[Nat.add_zero]at this;exact this
 have e1:(o.flatMap aL.cells)[i*2+1]?=some (.int (o[i]?.getD aL.zero).pin):=pY (f:=aL.cells) (s:=2) aL.cells_length hx (j:=1) (by omega);unfold lM at hj;obtain⟨g,hA,h2,h3,H,K,R⟩:=S.num j hj G;obtain⟨I,hA',_,_,z,D,_⟩:=S.num j hj e1;have hg:g=I:=by rw[hA]at hA';injection hA' with h;injection h
 subst hg;have B:=(List.getElem?_eq_some_iff.1 hj).1;refine⟨g,hA,h3,H,z,K,D,fun p=>?_⟩;have k1:=R p.block;have k2:=k1.num j (i:=i*2+1) (x:=(o[i]?.getD aL.zero).pin) (by rw[List.getElem?_set_self B]) (by rw[List.getElem?_set_ne (by omega)];exact e1);obtain⟨Q,q,_,_,_,_,J⟩:=k2;have hg:g=Q:=by rw[hA]at q;injection q with h;injection h
 subst hg;have k3:=J p.pin;rw[List.set_set,FW o hi p]at k3;exact k3
theorem KE(o:List aL)(a b:Int):lM (o++[⟨a,b⟩])=.row 251 2 (o.flatMap aL.cells++[.int a,.int b]):=by unfold lM;rw[List.flatMap_append,List.flatMap_singleton];rfl
theorem uI{o:List aL}{i j:Nat}(hi:i<o.length)(hj:j<o.length):((o.set i (o[j]?.getD aL.zero)).set j (o[i]?.getD aL.zero)).Perm o:=by
 have:=List.set_set_perm hi hj;rw[List.getElem?_eq_getElem hi,List.getElem?_eq_getElem hj];exact this
theorem aD.swapQ{W w:World}{u:List Pc}(S:aD W w u)(q:Nat){n c i j:Nat}{g:Nat}{o:List aL}(hq:u[q]?=some (.cel (lM o) (.slice (some ⟨g,0,none⟩) n c)))(hi:i<o.length)(hj:j<o.length) :
  aD W ((((w.setCell ⟨g,i*2,none⟩ (.int .i64 (o[j]?.getD aL.zero).block)).setCell ⟨g,i*2+1,none⟩ (.int .i64 (o[j]?.getD aL.zero).pin)).setCell ⟨g,j*2,none⟩ (.int .i64 (o[i]?.getD aL.zero).block)).setCell ⟨g,j*2+1,none⟩ (.int .i64 (o[i]?.getD aL.zero).pin)) (u.set q (.cel (lM ((o.set i (o[j]?.getD aL.zero)).set j (o[i]?.getD aL.zero))) (.slice (some ⟨g,0,none⟩) n c))):=by
 have z:=(List.getElem?_eq_some_iff.1 hq).1;obtain⟨I,B,_,_,_,_,_,H⟩:=S.setQ q hq hi;obtain rfl:g=I:=by injection B with h;injection h
 obtain⟨J,G,_,_,_,_,_,D⟩:=(H (o[j]?.getD aL.zero)).setQ q (List.getElem?_set_self z) (i:=j) (by rw[List.length_set];exact hj);obtain rfl:g=J:=by injection G with h;injection h
 have h3:=D (o[i]?.getD aL.zero);rw[List.set_set]at h3;exact h3
theorem GH{w:World}:∀{es:List aL} {vs:List Value} {F:List Nat},dh w (es.flatMap aL.cells) vs F→F=[]/\vs=es.flatMap fun p=>[Value.int .i64 p.block,Value.int .i64 p.pin]
 | [],vs,F,h=>by
  have:=dH.1 h
  exact⟨this.2,this.1⟩
 | p::es,vs,F,h=>by
  rw[List.flatMap_cons]at h;obtain⟨D,q,H,u,rfl,rfl,h1,h2⟩:=bU.1 h;obtain⟨G,g,B,z,rfl,rfl,h3,j⟩:=bU.1 h2;obtain⟨rfl,rfl⟩:=dZ.1 h1;obtain⟨rfl,rfl⟩:=dZ.1 h3;obtain⟨rfl,rfl⟩:=GH j;exact⟨rfl,rfl⟩
theorem aD.shrinkQ{W w:World}{j:List Pc}(S:aD W w j)(q:Nat){n c m:Nat}{g:Nat}{o:List aL}(hq:j[q]?=some (.cel (lM o) (.slice (some ⟨g,0,none⟩) n c)))(hm:m<=n) :
  aD W w (j.set q (.cel (lM (o.take m)) (.slice (some ⟨g,0,none⟩) m c))):=by
 have hn:=(S.rd q hq).queN;refine S.same q hq fun F h=>?_;have u:dJ w (lM o) (.slice (some ⟨g,0,none⟩) n c) F:=h;show dJ w (lM (o.take m)) (.slice (some ⟨g,0,none⟩) m c) F;unfold lM at u ⊢;rw[dV]at u ⊢;obtain⟨U,V,R,vs,F',K,z,rfl,hl⟩:=u;injection K with hA hnn hcc
 subst hA hnn hcc;obtain⟨rfl,rfl⟩:=GH hl;obtain⟨h1,h2⟩:=z
 have B:((o.take m).flatMap fun p:aL=>[Value.int .i64 p.block,Value.int .i64 p.pin])=(o.flatMap fun p:aL=>[Value.int .i64 p.block,Value.int .i64 p.pin]).take (m*2):=by
  clear h1 h2 hl h;rw[←hn]at hm;clear hn hq S
  induction o generalizing m with
  | nil=>simp
  | cons x o ih =>
   cases m with
   | zero=>simp
   | succ m =>
    rw[List.take_succ_cons,List.flatMap_cons,List.flatMap_cons,ih (by simpa using hm),show(m+1)*2=m*2+2 by omega];rfl
 refine⟨_,_,_,_,[],rfl,⟨by rw[lm (f:=fun p:aL=>[Value.int .i64 p.block,Value.int .i64 p.pin]) (s:=2) (fun _=>rfl),List.length_take,hn];rw[Nat.min_eq_left hm],?_⟩,rfl,xL _⟩
 rcases h2 with⟨h3,_⟩|⟨Q,cap,cur,h3,D,G,Y,H,J,I⟩
 ·cases h3
 injection h3 with k1 k2 k3
 injection k1 with k1
 injection k1 with k1
 subst k1 k3;refine .inr ⟨_,_,cur,rfl,D,G,by omega,H,J,?_⟩;rw[B,←I,List.take_take,Nat.min_eq_left (Nat.mul_le_mul_right 2 hm)]
theorem aD.cap{W w:World}{u:List Pc}(S:aD W w u)(q:Nat){n c g e z:Nat}{cs:List Cel}(hq:u[q]?=some (.cel (.row e z cs) (.slice (some ⟨g,0,none⟩) n c))):n<=c/\c<=maxLen:=by
 obtain⟨F,k1,_⟩:=S.part q hq;have h:dJ w (.row e z cs) (.slice (some ⟨g,0,none⟩) n c) F:=k1;rw[dV]at h;obtain⟨Q,R,K,vs,F',G,j,rfl,hl⟩:=h;injection G with hA hnn hcc
 subst hA hnn hcc
 rcases j.2 with⟨h3,_⟩|⟨I,cap,cur,h3,H,J,D,B,_⟩
 ·cases h3
 injection h3 with k1 k2 k3
 subst k3;exact⟨D,B⟩
theorem MC{o:List aL}{n:Nat}(h:o.length=n+1):(o[0]?.getD aL.zero::(o.set 0 (o[n]?.getD aL.zero)).take n).Perm o:=by
 match o,h with
 | x::xs,h =>
  simp only[List.length_cons,Nat.add_right_cancel_iff]at h
  cases n with
  | zero =>
   have:xs=[]:=List.eq_nil_of_length_eq_zero h;subst this
   exact List.Perm.refl _
  | succ n =>
   rw[List.set_cons_zero,List.take_succ_cons];simp only[List.getElem?_cons_zero,Option.getD_some,List.getElem?_cons_succ];refine List.Perm.cons _ ?_;rw[List.getElem?_eq_getElem (by omega),Option.getD_some]
   have e:xs=xs.take n++[xs[n]'(by omega)]:=by
    conv=>lhs;rw[←List.take_append_drop n xs]
    congr 1
    rw[List.drop_eq_getElem_cons (by omega),List.drop_of_length_le (by omega)]
   have p:(xs[n]'(by omega)::xs.take n).Perm (xs.take n++[xs[n]'(by omega)]):=(List.perm_append_singleton _ _).symm;exact p.trans (by rw[←e])
theorem uk(W:World)(Y:List Pc)(q:Nat)(es:List aL)(a b:Int)(A:Oh)(n c:Nat)(w:World)(S:aD W w Y)(hq:Y[q]?=some (.cel (lM es) (.slice A n c)))(hn:n<=1099511627775) :
  Calls Tryz.prog 264 #[.slice A n c,.agg #[.int .i64 a,.int .i64 b]] w fun e w'=>∃u g c',e=.returned (.slice (some ⟨g,0,none⟩) (n+1) c')/\u.Perm (⟨a,b⟩::es)/\aD W w' (Y.set q (.cel (lM u) (.slice (some ⟨g,0,none⟩) (n+1) c'))):=by
 have R:=(S.rd q hq).queN;have aj:=(List.getElem?_eq_some_iff.1 hq).1;obtain⟨ax,V,al,ae,K⟩:=info_parts MB;obtain⟨x0,x1,lx⟩:=iC (aG w (.cells #[.int .i64 a,.int .i64 b] 251));have aq:=Hd (S.alloc (.cells #[.int .i64 a,.int .i64 b] 251));obtain⟨HQ,H,ap⟩:=hd3 hq aj R;have B:=Hd (And.intro V (And.intro al (And.intro ae K)));clear S hq aj R V al ae K;go_enter Tryz.func264,Tryz.ntmps264;go_upto_region 1 with fail;generalize w.alloc (.cells #[.int .i64 a,.int .i64 b] 251)=W0 at *
 go_wp2_with (at_builtin;refine af rfl _ _ 248 251 rfl ax _ 2 16 Tryz.underlying248 B.1.1 B.1.2.1 B.1.2.2.1 B.1.2.2.2 rfl (by decide) (by decide) _ ((aq.1.alloc _).consPin a b) (q+1) 0 (by omega) n c _ A (es.flatMap aL.cells) _ #[.int .i64 a,.int .i64 b] _ (by rw[List.getElem?_cons_succ];exact HQ.1) rfl rfl rfl (aG _ _) rfl (by omega) ?_;intro G cap w9 S9 aw;have Q:=Hd S9.tail;clear S9 aw)
 have I:=Q.1;rw[←KE]at I;have HT:=Hd I;clear I Q x0 x1 lx;have am:Hv ((es++[(⟨a,b⟩:aL)]).Perm (⟨a,b⟩::es)):=Hd<|List.perm_append_singleton _ _
 go_loopw[5] (fun v wr=>∃(j:Nat) (u:List aL),j<=n/\v=.int .i64 (j:Int)/\u.Perm (⟨a,b⟩::es)/\aD W wr (Y.set q (.cel (lM u) (.slice (some ⟨G,0,none⟩) (n+1) cap)))) (fun v _=>(intOf v).toNat)
 ·exact⟨n,_,by omega,by go_num,am.1,HT.1⟩
 obtain⟨j,u,hj,rfl,hp,hs⟩:=hrel;obtain⟨HP,Z⟩:=hd2 hp hs;have z:Hv (u.length=n+1):=Hd<|by show _=_;rw[hp.length_eq,List.length_cons,ap.1]
 clear hp hs;by_cases aT:0<j
 ·have dj:decide ((j:Int)>0)=true:=by simp;omega
  have ay:decide (0<j)=true:=by simp;omega
  obtain⟨p,hp⟩:∃p,(j-1)/2=p:=⟨_,rfl⟩;have aU:p<j:=by omega
  have e1:((j:Int)-1).tdiv 2=(p:Int):=by rw[Int.tdiv_eq_ediv_of_nonneg (by omega)];omega
  have e2:((j:Int)-1)/2=(p:Int):=by omega
  have e3:wrap64 (p:Int)=(p:Int):=IntWalk.wrap64_in _ ⟨by omega,by omega⟩;have e4:IntKind.i64.wrap ((j:Int)-1)=(j:Int)-1:=IntWalk.i64_in _ (by omega);have p0:(0:Int)<=(p:Int):=by omega
  have p1:(p:Int)<((n+1:Nat):Int):=by omega
  have j0:(0:Int)<=(j:Int):=by omega
  have j1:(j:Int)<((n+1:Nat):Int):=by omega
  have p2:(p:Int)<(n:Int)+1:=by omega
  have j2:(j:Int)<(n:Int)+1:=by omega
  obtain⟨g1,ak,lg,av,ao,aH,aP,_⟩:=Z.1.setQ q (List.getElem?_set_self H.1) (i:=p) (by rw[z.1];omega);obtain rfl:G=g1:=by injection ak with h;injection h
  obtain⟨g2,ai,_,az,aA,aS,aI,_⟩:=Z.1.setQ q (List.getElem?_set_self H.1) (i:=j) (by rw[z.1];omega);obtain rfl:G=g2:=by injection ai with h;injection h
  have J:=Z.1.swapQ q (List.getElem?_set_self H.1) (i:=p) (j:=j) (by rw[z.1];omega) (by rw[z.1];omega);rw[List.set_set]at J;have U:=Hd J;have ar:Hv (((u.set p (u[j]?.getD aL.zero)).set j (u[p]?.getD aL.zero)).Perm (⟨a,b⟩::es)):=Hd<|(uI (by rw[z.1];omega) (by rw[z.1];omega)).trans HP.1
  have aM:p*2≠j*2:=by omega
  clear ak ai J hp;generalize u[p]?.getD aL.zero=ep at *;generalize u[j]?.getD aL.zero=ej at *;obtain⟨pd,pn⟩:=ep;obtain⟨jd,jn⟩:=ej;simp only at av ao az aA;have ad:Hv (aD W ((((wr.setCell ⟨G,p*2,none⟩ (.int .i64 jd)).setCell ⟨G,p*2+1,none⟩ (.int .i64 jn)).setCell ⟨G,j*2,none⟩ (.int .i64 pd)).setCell ⟨G,j*2+1,none⟩ (.int .i64 pn)) (Y.set q (.cel (lM ((u.set p ⟨jd,jn⟩).set j ⟨pd,pn⟩)) (.slice (some ⟨G,0,none⟩) (n+1) cap)))):=U;clear U;go_upto_region 5 with fail;by_cases D:pd<=jd
  ·have dl:decide (pd<=jd)=true:=decide_eq_true D;clear D
   go_quiet (fail)
   go_wp2;go_ret;exact⟨_,_,_,rfl,HP.1,Z.1.drewN _⟩
  have dl:decide (pd<=jd)=false:=decide_eq_false D;clear D
  go_quiet (fail)
  go_upto_region 6 with fail
  go_region_with (fail)
  all_goals
   go_wp2;go_roundw
   ·exact⟨p,_,by omega,rfl,ar.1,(ad.1.drewN _).drew⟩
   simp[intOf];omega
 have dj:decide ((j:Int)>0)=false:=by simp;omega
 have ay:decide (0<j)=false:=by simp;omega
 go_wp2;go_ret;exact⟨_,_,_,rfl,HP.1,Z.1⟩
theorem mg{q:Func}{p u:Tmp}{j t:TypeId}{tmps cs:Array Value}{P:Program}{w:World}{g:Nat}{fs:Array Field}(h:q.results=#[.tmp u,.cell p j])(ht:tmps.getD p undef=.pointer (some ⟨g,0,none⟩))(hg:w.heap[g]?=some (.cells cs t (0,0)))
  (z:P.underlying j=some (.struct fs)) (hi:(P.info? j).map (·.size)=some cs.size):(results q tmps).run P w=.ok (.tuple #[tmps.getD u undef,.agg cs]) w:=by
 have hl:(loadVar j ⟨g,0,none⟩).run P w=.ok (.agg cs) w:=run_loadVar_row w g t j cs (0,0) (.struct fs) hg z rfl hi;simp only[results,h];simp only[Array.getD_eq_getD_getElem?]at ht;simp[ht,asAddr,hl]
theorem Dr(W:World)(ps:List Pc)(q:Nat)(es:List aL)(g n c:Nat)(w:World)(S:aD W w ps)(hq:ps[q]?=some (.cel (lM es) (.slice (some ⟨g,0,none⟩) (n+1) c)))(hn:n<=1099511627775) :
  Calls Tryz.prog 265 #[.slice (some ⟨g,0,none⟩) (n+1) c] w fun e w'=>∃(u:List aL) (t:aL),e=.returned (.tuple #[.slice (some ⟨g,0,none⟩) n c,.agg #[.int .i64 t.block,.int .i64 t.pin]])/\(t::u).Perm es/\aD W w' (ps.set q (.cel (lM u) (.slice (some ⟨g,0,none⟩) n c))):=by
 have aQ:=(S.rd q hq).queN;have aI:=(List.getElem?_eq_some_iff.1 hq).1;have bt:=(S.cap q hq).1;have ap:=Hd (S.consBlk #[.int .i64 0,.int .i64 0] 251);obtain⟨HQ,be,af⟩:=hd3 hq aI aQ;have Q:Hv (∀{x y:Pc} (z:Pc),(x::y::ps.set q z)[q+2]?=some z):=Hd<|fun z=>by rw[List.getElem?_cons_succ,List.getElem?_cons_succ];exact List.getElem?_set_self aI
 clear S hq aI aQ;go_enter Tryz.func265,Tryz.ntmps265;go_upto_region 1 with fail;obtain⟨gR,ax⟩:∃x,w.heap.size=x:=⟨_,rfl⟩;rw[ax]at ap
 (try rw[ax])
 clear ax;generalize w.alloc (.cells #[.int .i64 0,.int .i64 0] 251)=W0 at *;obtain⟨g1,D,lg,c0,c1,f0,f1,_⟩:=ap.1.setQ (q+1) (by rw[List.getElem?_cons_succ];exact HQ.1) (i:=0) (by rw[af.1];omega);obtain rfl:g=g1:=by injection D with h;injection h
 obtain⟨tt,aA⟩:∃t,es[0]?.getD aL.zero=t:=⟨_,rfl⟩;rw[aA]at c0 c1;have aT:=Hd aA;obtain⟨I,J⟩:=tt;simp only[Nat.zero_mul,Nat.zero_add]at c0 c1 f0 f1;have aE:=ap.1.consBlk #[.int .i64 I,.int .i64 J] 251;clear aA D;go_upto_region 2 with fail;obtain⟨gT,av⟩:∃x,W0.heap.size=x:=⟨_,rfl⟩;rw[av]at aE
 (try rw[av])
 have aS:=Hd aE;clear av aE c0 c1 f0 f1 lg ap;generalize W0.alloc (.cells #[.int .i64 I,.int .i64 J] 251)=W1 at *;have aG:Hv (∀{x y:Pc},(x::y::ps)[q+2]?=some (.cel (lM es) (.slice (some ⟨g,0,none⟩) (n+1) c))):=Hd<|by intro x y;rw[List.getElem?_cons_succ,List.getElem?_cons_succ];exact HQ.1
 obtain⟨g1,D,lg,c0,c1,f0,f1,au⟩:=aS.1.setQ (q+2) aG.1 (i:=0) (by rw[af.1];omega);obtain rfl:g=g1:=by injection D with h;injection h
 obtain⟨g2,R,_,e0,e1,_,_,_⟩:=aS.1.setQ (q+2) aG.1 (i:=n) (by rw[af.1];omega);obtain rfl:g=g2:=by injection R with h;injection h
 have hu:=au (es[n]?.getD aL.zero);have a9:=hu.shrinkQ (q+2) (n:=n+1) (m:=n) (c:=c) (g:=g) (o:=es.set 0 (es[n]?.getD aL.zero)) (by rw[List.getElem?_set_self (by simp;have:=be.1;omega)]) (by omega);have aB:=Hd (show aD W _ (.blk gT #[.int .i64 I,.int .i64 J] 251::.blk gR #[.int .i64 0,.int .i64 0] 251::ps.set q (.cel (lM ((es.set 0 (es[n]?.getD aL.zero)).take n)) (.slice (some ⟨g,0,none⟩) n c))) from by have h:=a9;simp only[List.set_cons_succ,List.set_set]at h;exact h);have aZ:=Hd (MC af.1);rw[aT.1]at aZ;have bf:Hv (((es.set 0 (es[n]?.getD aL.zero)).take n).length=n):=Hd<|by show _=_;rw[List.length_take,List.length_set,af.1];omega
 clear au D R hu a9 aG aT;simp only[Nat.zero_mul,Nat.zero_add]at c0 c1 f0 f1 aB;generalize (es.set 0 (es[n]?.getD aL.zero)).take n=P0 at *;generalize es[n]?.getD aL.zero=ln at *;obtain⟨ld,lp⟩:=ln;simp only at e0 e1 aB;have ar:Hv (∀u:List aL,u.Perm P0→(⟨I,J⟩::u).Perm es):=Hd<|fun u h=>(List.Perm.cons _ h).trans aZ.1
 have n0:(0:Int)<=(n:Int):=by omega
 have n1:(n:Int)<((n+1:Nat):Int):=by omega
 have n2:(n:Int)<(n:Int)+1:=by omega
 have n3:(n:Int)<=(c:Int):=by omega
 have n4:n<=c:=by omega
 go_upto_region 4 with fail;clear c0 c1 e0 e1 f0 f1 lg;generalize (W1.setCell ⟨g,0,none⟩ (.int .i64 ld)).setCell ⟨g,1,none⟩ (.int .i64 lp)=W2 at *;go_wp2
 go_loopw[6] (fun v wr=>∃(j:Nat) (u:List aL),j<=n/\v=.int .i64 (j:Int)/\u.Perm P0/\aD W wr (.blk gT #[.int .i64 I,.int .i64 J] 251::.blk gR #[.int .i64 0,.int .i64 0] 251::ps.set q (.cel (lM u) (.slice (some ⟨g,0,none⟩) n c)))) (fun v _=>n-(intOf v).toNat)
 ·exact⟨0,P0,by omega,rfl,List.Perm.refl _,aB.1⟩
 obtain⟨j,u,hj,rfl,hp,hs⟩:=hrel;obtain⟨HP,K⟩:=hd2 hp hs;have B:Hv (u.length=n):=Hd<|by show _=_;rw[hp.length_eq,bf.1]
 clear hp hs;by_cases hc:n<=2*j+1
 ·have dc:decide (2*(j:Int)+1≥(n:Int))=true:=by simp;omega
  have bh:decide ((n:Int)<=2*(j:Int)+1)=true:=by simp;omega
  clear hc;go_upto_region 13 with fail;have H:=(K.1.blk 1 rfl).1;have hT:=(K.1.blk 0 rfl).1;obtain⟨t0,t1,lt⟩:=iC hT;obtain⟨r0,r1⟩:=cs2 H;have aF:=aN H 0;have aw:=aN H 1;have lr:=aH H;have Z:=Hd H;have ad:=Hd (((K.1.put 1 rfl 0 (.int .i64 I)).put 1 rfl 1 (.int .i64 J)).tail.tail);clear H hT
  go_region_with (fail)
  all_goals
   go_wp2_with fail;refine bodyPost_ret (v := .tuple #[.slice (some ⟨g,0,none⟩) n c,.agg #[.int .i64 I,.int .i64 J]]) (mg Tryz.results265 rfl (fC (fC Z.1 (.int .i64 I) rfl) (.int .i64 J) rfl) Tryz.underlying251 (by kernel_rfl)) rfl ⟨u,⟨I,J⟩,rfl,ar.1 u HP.1,ad.1.drewN _⟩
 have dc:decide (2*(j:Int)+1≥(n:Int))=false:=by simp;omega
 have bh:decide ((n:Int)<=2*(j:Int)+1)=false:=by simp;omega
 by_cases bD:2*j+2<n
 focus
  obtain⟨g3,aY,_,aX,_,_,_,_⟩:=K.1.setQ (q+2) (Q.1 _) (i:=2*j+1) (by rw[B.1];omega);obtain rfl:g=g3:=by injection aY with h;injection h
  obtain⟨g4,a4,bz,bb,_,_,_,_⟩:=K.1.setQ (q+2) (Q.1 _) (i:=2*j+2) (by rw[B.1];omega);obtain rfl:g=g4:=by injection a4 with h;injection h
  have dd:decide (2*(j:Int)+1+1<(n:Int))=true:=by simp;omega
  have a0:(0:Int)<=2*(j:Int)+1:=by omega
  have a1:2*(j:Int)+1<(n:Int):=by omega
  have a2:(0:Int)<=2*(j:Int)+1+1:=by omega
  have a3:2*(j:Int)+1+1<(n:Int):=by omega
  have ea:(2*(j:Int)+1).toNat=2*j+1:=by omega
  have eb:(2*(j:Int)+1+1).toNat=2*j+2:=by omega
  have ew:IntKind.i64.wrap (2*(j:Int)+1+1)=2*(j:Int)+1+1:=IntWalk.i64_in _ (by omega);clear aY a4 hc;by_cases aq:(u[2*j+2]?.getD aL.zero).block<(u[2*j+1]?.getD aL.zero).block
  ·have az:decide ((u[2*j+2]?.getD aL.zero).block<(u[2*j+1]?.getD aL.zero).block)=true:=decide_eq_true aq;clear aq;go_upto_region 8 with fail
   go_quiet (fail)
   clear aX bb az ew;go_upto_region 10 with fail;obtain⟨g1,D,lg,ag,ae,aO,aU,_⟩:=K.1.setQ (q+2) (Q.1 _) (i:=j) (by rw[B.1];omega);obtain rfl:g=g1:=by injection D with h;injection h
   obtain⟨g2,R,_,ai,al,aW,aP,_⟩:=K.1.setQ (q+2) (Q.1 _) (i:=2*j+2) (by rw[B.1];omega);obtain rfl:g=g2:=by injection R with h;injection h
   have Y:=K.1.swapQ (q+2) (Q.1 _) (i:=j) (j:=2*j+2) (by rw[B.1];omega) (by rw[B.1];omega);have U:Hv (aD W _ (.blk gT #[.int .i64 I,.int .i64 J] 251::.blk gR #[.int .i64 0,.int .i64 0] 251::ps.set q (.cel (lM ((u.set j (u[2*j+2]?.getD aL.zero)).set (2*j+2) (u[j]?.getD aL.zero))) (.slice (some ⟨g,0,none⟩) n c)))):=Hd (by have h:=Y;simp only[List.set_cons_succ,List.set_set]at h;exact h);have V:Hv (((u.set j (u[2*j+2]?.getD aL.zero)).set (2*j+2) (u[j]?.getD aL.zero)).Perm P0):=Hd<|(uI (by rw[B.1];omega) (by rw[B.1];omega)).trans HP.1
   clear D R Y;generalize u[j]?.getD aL.zero=ep at *;generalize u[2*j+2]?.getD aL.zero=ej at *;obtain⟨pd,pn⟩:=ep;obtain⟨jd,jn⟩:=ej;simp only at ag ae ai al;obtain⟨d0,d1⟩:=ib (by omega:j<n);have d2:(0:Int)<=((2*j+2:Nat):Int):=by omega
   have d3:((2*j+2:Nat):Int)<(n:Int):=by omega
   by_cases G:pd<=jd
   ·have dl:decide (pd<=jd)=true:=decide_eq_true G;clear G U V
    go_quiet (fail)
    go_upto_region 13 with fail;have H:=(K.1.blk 1 rfl).1;have hT:=(K.1.blk 0 rfl).1;obtain⟨t0,t1,lt⟩:=iC hT;obtain⟨r0,r1⟩:=cs2 H;have aF:=aN H 0;have aw:=aN H 1;have lr:=aH H;have Z:=Hd H;have ad:=Hd (((K.1.put 1 rfl 0 (.int .i64 I)).put 1 rfl 1 (.int .i64 J)).tail.tail);clear H hT
    go_region_with (fail)
    all_goals
     go_wp2_with fail;refine bodyPost_ret (v := .tuple #[.slice (some ⟨g,0,none⟩) n c,.agg #[.int .i64 I,.int .i64 J]]) (mg Tryz.results265 rfl (fC (fC Z.1 (.int .i64 I) rfl) (.int .i64 J) rfl) Tryz.underlying251 (by kernel_rfl)) rfl ⟨u,⟨I,J⟩,rfl,ar.1 u HP.1,ad.1.drewN _⟩
   have dl:decide (pd<=jd)=false:=decide_eq_false G;clear G
   go_quiet (fail)
   go_upto_region 11 with fail
   go_region_with (fail)
   all_goals
    go_wp2;go_roundw
    ·exact⟨2*j+2,_,by omega,by go_num,V.1,(U.1.drewN _).drew⟩
    simp[intOf];omega
  have az:decide ((u[2*j+2]?.getD aL.zero).block<(u[2*j+1]?.getD aL.zero).block)=false:=decide_eq_false aq;clear aq;go_upto_region 8 with fail
  go_quiet (fail)
  clear aX bb az ew
 rotate_left
 focus
  have dd:decide (2*(j:Int)+1+1<(n:Int))=false:=by simp;omega
  have ea:(2*(j:Int)+1).toNat=2*j+1:=by omega
  have ew:IntKind.i64.wrap (2*(j:Int)+1+1)=2*(j:Int)+1+1:=IntWalk.i64_in _ (by omega);go_upto_region 8 with fail
  go_quiet (fail)
  clear ew
 all_goals
  go_upto_region 10 with fail;obtain⟨g1,D,lg,ag,ae,aO,aU,_⟩:=K.1.setQ (q+2) (Q.1 _) (i:=j) (by rw[B.1];omega);obtain rfl:g=g1:=by injection D with h;injection h
  obtain⟨g2,R,_,ai,al,aW,aP,_⟩:=K.1.setQ (q+2) (Q.1 _) (i:=2*j+1) (by rw[B.1];omega);obtain rfl:g=g2:=by injection R with h;injection h
  have Y:=K.1.swapQ (q+2) (Q.1 _) (i:=j) (j:=2*j+1) (by rw[B.1];omega) (by rw[B.1];omega);have U:Hv (aD W _ (.blk gT #[.int .i64 I,.int .i64 J] 251::.blk gR #[.int .i64 0,.int .i64 0] 251::ps.set q (.cel (lM ((u.set j (u[2*j+1]?.getD aL.zero)).set (2*j+1) (u[j]?.getD aL.zero))) (.slice (some ⟨g,0,none⟩) n c)))):=Hd (by have h:=Y;simp only[List.set_cons_succ,List.set_set]at h;exact h);have V:Hv (((u.set j (u[2*j+1]?.getD aL.zero)).set (2*j+1) (u[j]?.getD aL.zero)).Perm P0):=Hd<|(uI (by rw[B.1];omega) (by rw[B.1];omega)).trans HP.1
  clear D R Y;generalize u[j]?.getD aL.zero=ep at *;generalize u[2*j+1]?.getD aL.zero=ej at *;obtain⟨pd,pn⟩:=ep;obtain⟨jd,jn⟩:=ej;simp only at ag ae ai al;obtain⟨d0,d1⟩:=ib (by omega:j<n);have d2:(0:Int)<=((2*j+1:Nat):Int):=by omega
  have d3:((2*j+1:Nat):Int)<(n:Int):=by omega
  by_cases G:pd<=jd
  ·have dl:decide (pd<=jd)=true:=decide_eq_true G;clear G U V
   go_quiet (fail)
   go_upto_region 13 with fail;have H:=(K.1.blk 1 rfl).1;have hT:=(K.1.blk 0 rfl).1;obtain⟨t0,t1,lt⟩:=iC hT;obtain⟨r0,r1⟩:=cs2 H;have aF:=aN H 0;have aw:=aN H 1;have lr:=aH H;have Z:=Hd H;have ad:=Hd (((K.1.put 1 rfl 0 (.int .i64 I)).put 1 rfl 1 (.int .i64 J)).tail.tail);clear H hT
   go_region_with (fail)
   all_goals
    go_wp2_with fail;refine bodyPost_ret (v := .tuple #[.slice (some ⟨g,0,none⟩) n c,.agg #[.int .i64 I,.int .i64 J]]) (mg Tryz.results265 rfl (fC (fC Z.1 (.int .i64 I) rfl) (.int .i64 J) rfl) Tryz.underlying251 (by kernel_rfl)) rfl ⟨u,⟨I,J⟩,rfl,ar.1 u HP.1,ad.1.drewN _⟩
  have dl:decide (pd<=jd)=false:=decide_eq_false G;clear G
  go_quiet (fail)
  go_upto_region 11 with fail
  go_region_with (fail)
  all_goals
   go_wp2;go_roundw
   ·exact⟨2*j+1,_,by omega,by go_num,V.1,(U.1.drewN _).drew⟩
   simp[intOf];omega
def nN(d:Dev):Nat:=(fE d).toNat
theorem zk{d:Dev}(h:bQ d=true):fE d=(nN d:Int)/\nN d<=828/\99<=nN d:=by
 have:=jg h;unfold nN;omega
def uW(d:Dev)(k:Nat):List (List Int):=(List.range k).map fun(n:Nat)=>nX d (n:Int)
def grG(d:Dev):List (List Int):=uW d (nN d)
theorem wG(d:Dev)(k:Nat):(uW d k).length=k:=by simp[uW]
theorem Bt(d:Dev)(k:Nat):uW d (k+1)=uW d k++[nX d (k:Int)]:=by
 unfold uW;rw[List.range_succ,List.map_append];rfl
theorem GI{d:Dev}{k n:Nat}(h:n<k):(uW d k)[n]?.getD []=nX d (n:Int):=by
 unfold uW;rw[List.getElem?_map,List.getElem?_range h];rfl
def grF(d:Dev)(N k:Nat):List (List Int):=uW d k++List.replicate (N-k) []
theorem ME(d:Dev)(N:Nat):grF d N 0=List.replicate N []:=by simp[grF,uW]
theorem MF(d:Dev)(N:Nat):grF d N N=uW d N:=by simp[grF]
theorem NP(d:Dev){N k:Nat}(h:k<=N):(grF d N k).length=N:=by simp[grF,uW];omega
theorem MG(d:Dev){N k:Nat}(h:k<N):(grF d N k).set k (nX d (k:Int))=grF d N (k+1):=by
 unfold grF;rw[List.set_append_right _ _ (by rw[wG];exact Nat.le_refl _),wG,Nat.sub_self,show N-k=(N-(k+1))+1 by omega,List.replicate_succ,List.set_cons_zero,Bt,List.append_assoc];rfl
/-! ### the nodes that follow -/
def KF(K:List (List Int))(s:Nat)(n:Int):List (List Int):=K.set s (K[s]?.getD []++[n])
def tF(K:List (List Int))(n:Int)(row:List Int):Nat→List (List Int)
 | 0=>K
 | i+1=>KF (tF K n row i) (row[i]?.getD 0).toNat n
def kRw(G:List (List Int))(N:Nat):Nat→List (List Int)
 | 0=>List.replicate N []
 | n+1=>tF (kRw G N n) (n:Int) (G[n]?.getD []) (G[n]?.getD []).length
theorem MH(K:List (List Int))(s:Nat)(n:Int):(KF K s n).length=K.length:=by simp[KF]
theorem tH(K:List (List Int))(n:Int)(row:List Int):∀i,(tF K n row i).length=K.length
 | 0=>rfl
 | i+1=>by rw[tF,MH,tH K n row i]
theorem wH(G:List (List Int))(N:Nat):∀n,(kRw G N n).length=N
 | 0=>by simp[kRw]
 | n+1=>by rw[kRw,tH,wH G N n]
theorem GJ{K:List (List Int)}{s:Nat}(h:s<K.length)(n:Int)(z:Nat):(KF K s n)[z]?.getD []=if s=z then K[z]?.getD []++[n]else K[z]?.getD []:=by
 unfold KF;by_cases e:s=z
 ·subst e;rw[if_pos rfl,List.getElem?_set_self h];rfl
 rw[if_neg e,List.getElem?_set_ne e]
theorem zm{K:List (List Int)}{n:Int}{row:List Int}(hr:∀y∈row,0<=y/\y<(K.length:Int)){z:Nat}{y:Int}:∀{i:Nat},i<=row.length→(y∈(tF K n row i)[z]?.getD []↔y∈K[z]?.getD []∨(z:Int)∈row.take i/\y=n)
 | 0,_=>by simp[tF]
 | i+1,hi=>by
  have hm:row[i]?.getD 0∈row:=by rw[List.getElem?_eq_getElem (by omega)];exact List.getElem_mem _
  have hb:=hr _ hm;rw[tF,GJ (by rw[tH];omega),bF (z:=0) (by omega:i<row.length)]
  split
  ·rename_i e;rw[List.mem_append,List.mem_singleton,zm hr (show i<=row.length by omega),List.mem_append,List.mem_singleton];have:(z:Int)=row[i]?.getD 0:=by omega
   constructor
   ·rintro((h|⟨h1,h2⟩)|h)
    ·exact .inl h
    ·exact .inr ⟨.inl h1,h2⟩
    exact .inr ⟨.inr this,h⟩
   rintro(h|⟨h1|h1,h2⟩)
   ·exact .inl (.inl h)
   ·exact .inl (.inr ⟨h1,h2⟩)
   exact .inr h2
  rename_i e;rw[zm hr (show i<=row.length by omega),List.mem_append,List.mem_singleton];have:¬(z:Int)=row[i]?.getD 0:=by omega
  simp[this]
theorem Dt{K:List (List Int)}{n:Int}{row:List Int}(hr:∀y∈row,0<=y/\y<(K.length:Int)){z:Nat}:∀{i:Nat},i<=row.length→((tF K n row i)[z]?.getD []).length<=(K[z]?.getD []).length+i
 | 0,_=>by simp[tF]
 | i+1,hi=>by
  have hm:row[i]?.getD 0∈row:=by rw[List.getElem?_eq_getElem (by omega)];exact List.getElem_mem _
  have hb:=hr _ hm;have ih:=Dt hr (n:=n) (z:=z) (show i<=row.length by omega);rw[tF,GJ (by rw[tH];omega)]
  split
  ·rw[List.length_append];simp;omega
  omega
structure Du(N:Nat)(G:List (List Int)):Prop where
 len:G.length=N
 gin:∀x:Nat,x<N→∀y∈G[x]?.getD [],0<=y/\y<(N:Int)
 le:∀x:Nat,(G[x]?.getD []).length<=26
theorem Jf{N:Nat}{G:List (List Int)}(h:Du N G){z:Nat}{y:Int}:∀{n:Nat},n<=N→(y∈(kRw G N n)[z]?.getD []↔∃x:Nat,x<n/\y=(x:Int)/\(z:Int)∈G[x]?.getD [])
 | 0,_=>by
  rw[kRw,List.getElem?_replicate]
  split <;> simp
 | n+1,hn=>by
  have hr:=h.gin n (by omega);rw[kRw,zm (by rw[wH];exact hr) (Nat.le_refl _),Jf h (show n<=N by omega),List.take_length]
  constructor
  ·rintro(⟨x,h1,h2,h3⟩|⟨h1,h2⟩)
   ·exact⟨x,by omega,h2,h3⟩
   exact⟨n,by omega,h2,h1⟩
  rintro⟨x,h1,h2,h3⟩;by_cases e:x=n
  ·subst e;exact .inr ⟨h3,h2⟩
  exact .inl ⟨x,by omega,h2,h3⟩
theorem Ij{N:Nat}{G:List (List Int)}(h:Du N G){z:Nat}:∀{n:Nat},n<=N→((kRw G N n)[z]?.getD []).length<=26*n
 | 0,_=>by
  rw[kRw,List.getElem?_replicate]
  split <;> simp
 | n+1,hn=>by
  have h1:=Dt (K:=kRw G N n) (n:=(n:Int)) (row:=G[n]?.getD []) (by rw[wH];exact h.gin n (by omega)) (z:=z) (Nat.le_refl _);have h2:=Ij h (z:=z) (show n<=N by omega);have h3:=h.le n;rw[kRw];omega
structure KOk(N:Nat)(G K:List (List Int)):Prop where
 len:K.length=N
 mem:∀(z:Nat) (y:Int),y∈K[z]?.getD []↔∃x:Nat,x<N/\y=(x:Int)/\(z:Int)∈G[x]?.getD []
 le:∀z:Nat,(K[z]?.getD []).length<=26*N
theorem OD{N:Nat}{G:List (List Int)}(h:Du N G):KOk N G (kRw G N N):=⟨wH G N N,fun _ _=>Jf h (Nat.le_refl _),fun _=>Ij h (Nat.le_refl _)⟩
def wI(w:World)(g N:Nat)(G K:List (List Int)):Prop :=
 g<w.heap.size/\∃A c B e,w.cell? ⟨g,0,none⟩=some (.slice A N c)/\w.cell? ⟨g,1,none⟩=some (.slice B N e)/\RdC w w.heap.size (mG G) (.slice A N c)/\RdC w w.heap.size (mG K) (.slice B N e)
theorem wI.below{w w':World}{g N:Nat}{G K:List (List Int)}(h:wI w g N G K)(hb:Below w.heap.size w w'):wI w' g N G K:=by
 obtain⟨h1,A,c,B,e,h2,h3,q,j⟩:=h;exact⟨aJ hb h1,A,c,B,e,(hb.cell (p:=⟨g,0,none⟩) h1).trans h2,(hb.cell (p:=⟨g,1,none⟩) h1).trans h3,q.below hb,j.below hb⟩
theorem RdC.rowsN{w:World}{B n c:Nat}{A:Oh}{L:List (List Int)}(h:RdC w B (mG L) (.slice A n c)):L.length=n:=by
 have:=RdC.len h
 simpa using this
def Jg(w:World)(g k:Nat):Int:=match w.cell? ⟨g,k,none⟩with
 | some (.int _ x)=>x
 | _=>0
def KG(w:World)(g:Nat):Nat→Nat
 | 0=>0
 | k+1=>KG w g k+dPt (Jg w g k)
theorem wJ{w:World}{g n:Nat}{D:List Int}(h:bT w (some ⟨g,0,none⟩) n D):KG w g n=qQ D:=by
 have key:∀k,k<=n→KG w g k=l6 dPt D k:=by
  intro k
  induction k with
  | zero=>intro _;rfl
  | succ k ih =>
   intro hk;obtain⟨b,o,hA,_,hc⟩:=h.2 (by omega);injection hA with hA
   injection hA with h1 h2
   subst h1 h2;have j:=hc k (by omega);rw[Nat.zero_add]at j;rw[KG,l6,ih (by omega)];unfold Jg;rw[j]
 unfold qQ;rw[h.1];exact key n (Nat.le_refl _)
def OT(v:Value):Nat:=match v with
 | .bool true=>1
 | _=>0
theorem jW.starts_get{N:Nat}{G:List (List Int)}{C S:List Int}(h:jW N G C S){i:Nat}(hi:i<S.length):0<=S[i]?.getD 0/\S[i]?.getD 0<(N:Int):=h.sin _ (by rw[List.getElem?_eq_getElem hi];exact List.getElem_mem _)
theorem xJ(N:Nat)(G:List (List Int))(C S:List Int)(GA CA SA:Oh)(gc cc sn sc:Nat)(w:World)(hG:RdC w w.heap.size (mG G) (.slice GA N gc))(hC:bT w CA N C)(hS:bT w SA sn S)(hg:jW N G C S)(hN:0<N)(hr:∀x:Nat,(G[x]?.getD []).length<=26)(b1:sn<=1048576) :
  Calls Tryz.prog 245 #[.slice GA N gc,.slice CA N cc,.slice SA sn sc] w fun e w'=>∃A c,e=.returned (.slice A N c)/\Own w.heap.size w' A N c (distF G C S)/\Below w.heap.size w w'/\DI N G C S (distF G C S):=by
 obtain⟨HG,HC,HS,I,bm⟩:=hd5 hG hC hS hg hr;have ay:Hv (S.length=sn):=Hd<|hS.1
 have bn:=hg.nle;have bg:Hv (G.length=N):=Hd<|hg.glen
 clear hG hC hS hg hr;go_enter Tryz.func245,Tryz.ntmps245;go_wp2
 go_loopw[7,8] (fun v i wr=>∃(k:Nat) (A:Oh) (c:Nat),k<=N/\v=.slice A k c/\i=.int .i64 (k:Int)/\aD w wr [.cel (aI (List.replicate k (-1))) (.slice A k c)]) (fun _ i _=>N-(intOf i).toNat)
 ·exact⟨0,_,0,by omega,rfl,rfl,(aD.refl w).pushNew _ _⟩
 obtain⟨k,A,c,hk,rfl,rfl,hs⟩:=hrel;have j:=Hd hs;clear hs;by_cases u:k<N
 ·have U:=dT (by omega:k<N);have a8:Hv (List.replicate (k+1) (-1:Int)=List.replicate k (-1)++[-1]):=Hd<|by show _=_;rw[List.replicate_succ']
  go_wp2_with (at_builtin;refine bP rfl _ _ rfl _ (j.1.alloc _) 0 A k c (List.replicate k (-1)) (-1) _ (0,0) rfl rfl rfl (aG _ _) (by omega) ?_;intro g9 cap w9 S9 bN;have aV:=Hd S9;clear S9)
  go_roundw
  ·exact⟨k+1,_,_,by omega,rfl,by go_num,by rw[a8.1];exact aV.1⟩
  simp[intOf];omega
 have R:k=N:=by omega
 have U:=dF (by omega:N<=k);have hs:=j.1;rw[R,←Gm N S]at hs;obtain⟨gD,hA,_⟩:=hs.setI 0 rfl hN;have a1:=Hd hA;subst R;have bj:=Hd hs;clear hs hA j;obtain rfl:=a1.1;obtain⟨N,rfl⟩:∃x,x=k:=⟨k,rfl⟩;go_wp2
 go_loopw[9] (fun v wr=>∃i:Nat,i<=sn/\v=.int .i64 (i:Int)/\aD w wr [.cel (aI (dSt N S i)) (.slice (some ⟨gD,0,none⟩) N c)]) (fun v _=>sn-(intOf v).toNat)
 ·exact⟨0,by omega,rfl,bj.1⟩
 obtain⟨i,hi,rfl,hs⟩:=hrel;have j:=Hd hs;clear hs;by_cases u:i<sn
 ·have U:=dT (by omega:i<sn);have J:i<S.length:=by rw[ay.1];exact u
  have aj:=I.1.starts_get J;have aO:=Hd (Gn (N:=N) J aj.1);obtain⟨bs,os,aA,aC,aB⟩:=HS.1.2 (by omega);have cs:=(j.1.bel.cell (p:=⟨bs,os+i,none⟩) aC).trans (aB i u);have ls:=aJ j.1.bel aC;have a6:=Hd aA;clear J aA aB;obtain rfl:=a6.1;generalize S[i]?.getD 0=s at *;obtain⟨X,rfl⟩:∃X:Nat,s=(X:Int):=⟨_,(Int.toNat_of_nonneg aj.1).symm⟩;rw[Int.toNat_natCast]at aO;have bk:X<N:=by omega
  obtain⟨g1,W,_,lg,cX,fX,H⟩:=j.1.setI 0 rfl bk;obtain rfl:gD=g1:=by injection W with h;injection h
  have hu:=H 0;rw[aO.1]at hu;have HU:=Hd hu;obtain⟨i0,i1⟩:=ib (by omega:i<sn);obtain⟨X0,X1⟩:=ib (by omega:X<N);clear H W hu aj;go_wp2;go_roundw
  ·exact⟨i+1,by omega,by go_num,HU.1⟩
  simp[intOf];omega
 have au:i=sn:=by omega
 have U:=dF (by omega:sn<=i);have hs:=j.1;rw[au,←ay.1]at hs;have aY:=Hd hs;have ae:=Hd (MZ I.1);generalize dSt N S S.length=D0 at *;clear hs j au;go_wp2
 go_loopw[10] (fun v wr=>∃(b:Bool) (D:List Int),v=.bool b/\DI N G C S D/\(b=false→D=distF G C S)/\aD w wr [.cel (aI D) (.slice (some ⟨gD,0,none⟩) N c)]) (fun v wr=>2*KG wr gD N+OT v)
 ·exact⟨true,D0,rfl,ae.1,fun h=>by simp at h,aY.1⟩
 obtain⟨b,D,rfl,ad,aQ,hs⟩:=hrel;obtain⟨j,ae,am⟩:=hd3 hs ad aQ;have av:=Hd (wJ (hs.ints 0 rfl));clear hs ad aQ
 cases b with
 | false =>
  have HV:=Hd (am.1 rfl);go_wp2;go_ret
  exact⟨_,_,rfl,by rw[←HV.1];exact j.1.owned 0 rfl,j.1.bel,by rw[←HV.1];exact ae.1⟩
 | true =>
  have q:=Hd (SwI.start ae.1);obtain⟨p0,ax⟩:∃p,qQ D=p:=⟨_,rfl⟩;rw[ax]at q av;clear ax am;obtain⟨wo,rfl⟩:∃x,x=wr:=⟨wr,rfl⟩;go_wp2
  go_loopw[10,11] (fun v kv wr=>∃(b:Bool) (k:Nat) (D:List Int),k<=N/\v=.bool b/\kv=.int .i64 (k:Int)/\SwI N G C S p0 D b k 0/\aD w wr [.cel (aI D) (.slice (some ⟨gD,0,none⟩) N c)]) (fun _ kv _=>N-(intOf kv).toNat)
  ·exact⟨false,0,D,by omega,rfl,rfl,q.1,j.1⟩
  obtain⟨b,k,D,hk,rfl,rfl,g,hs⟩:=hrel;obtain⟨j,q⟩:=hd2 hs g;clear hs g;by_cases u:k<N
  ·have U:=dT (by omega:k<N);obtain⟨bG,oG,RA,m,mc,az,aR,cG,rG⟩:=HG.1.rowsR (k:=k) (by rw[bg.1];exact u);obtain⟨bf,ai⟩:=hd2 az rG.ints;have ao:=bm.1 k;rw[ai.1.1]at ao;have ar:Hv ((G[k]?.getD []).length=m):=Hd<|ai.1.1
   have a5:Hv (∀v,Below w.heap.size w v→v.cell? ⟨bG,oG+k,none⟩=some (.slice RA m mc)):=Hd<|fun v hv=>(hv.cell (p:=⟨bG,oG+k,none⟩) aR).trans cG
   clear az cG rG;obtain rfl:=bf.1;obtain⟨w2,rfl⟩:∃x,x=wr:=⟨wr,rfl⟩;obtain⟨k0,k1⟩:=ib (by omega:k<N);go_wp2
   go_loopw[10,12] (fun v iv wr=>∃(b:Bool) (i:Nat) (D:List Int),i<=m/\v=.bool b/\iv=.int .i64 (i:Int)/\SwI N G C S p0 D b k i/\aD w wr [.cel (aI D) (.slice (some ⟨gD,0,none⟩) N c)]) (fun _ iv _=>m-(intOf iv).toNat)
   ·exact⟨b,0,D,by omega,rfl,rfl,q.1,j.1⟩
   obtain⟨b,i,D,hi,rfl,rfl,g,hs⟩:=hrel;obtain⟨j,q⟩:=hd2 hs g;have cG:=a5.1 _ hs.bel;have lG:=aJ hs.bel aR;clear hs g;by_cases ah:i<m
   ·have ad:=dT (by omega:i<m);have J:i<(G[k]?.getD []).length:=by rw[ar.1];exact ah
    have K:(G[k]?.getD [])[i]?.getD 0∈G[k]?.getD []:=by rw[List.getElem?_eq_getElem J];exact List.getElem_mem _
    have V:=I.1.row K;obtain⟨Y,hY⟩:∃Y:Nat,(G[k]?.getD [])[i]?.getD 0=(Y:Int):=⟨_,(Int.toNat_of_nonneg V.2.1).symm⟩;rw[hY]at K V;have aL:Y<N:=by omega
    obtain⟨bR,oR,al,aN,aP⟩:=ai.1.2 (by omega);have cR:=(j.1.bel.cell (p:=⟨bR,oR+i,none⟩) aN).trans (aP i ah);rw[hY]at cR;have lR:=aJ j.1.bel aN;obtain⟨bC,oC,aK,aq,aF⟩:=HC.1.2 (by omega);have cC:=(j.1.bel.cell (p:=⟨bC,oC+k,none⟩) aq).trans (aF k u);have lC:=aJ j.1.bel aq;obtain⟨a7,aW⟩:=hd2 al aK;obtain⟨g1,W,_,lD,cY,_,_⟩:=j.1.setI 0 rfl aL;obtain rfl:gD=g1:=by injection W with h;injection h
    obtain⟨g2,aM,_,aX,cK,fK,H⟩:=j.1.setI 0 rfl u;obtain rfl:gD=g2:=by injection aM with h;injection h
    have a9:=q.1.di.le I.1 aL;have aZ:=q.1.di.le I.1 u;have bl:=I.1.cin k u;have aH:=Hd (fun h=>q.1.keep J hY (Rlx.of h));have ap:=Hd (fun h0 hr=>q.1.change I.1 K h0 hr);have hu:=H (D[Y]?.getD 0+C[k]?.getD 0);have HU:=Hd hu;clear H W aM hu aP aF al aK J K V hY aX;obtain rfl:=a7.1;obtain rfl:=aW.1;generalize a2:D[Y]?.getD 0=y at *;generalize hd2:D[k]?.getD 0=x at *;generalize C[k]?.getD 0=z at *;obtain⟨bw,bv⟩:=a9;obtain⟨bx,bA⟩:=aZ;obtain⟨bq,bB⟩:=bl;obtain⟨i0,i1⟩:=ib (by omega:i<m);obtain⟨Y0,Y1⟩:=ib (by omega:Y<N);have ew:IntKind.i64.wrap (y+z)=y+z:=IntWalk.i64_in _ (by omega);clear a2 hd2;go_upto_region 20 with fail;clear cG lG cR lR;by_cases B:0<=y
    ·have d1:decide (y≥0)=true:=decide_eq_true B;have bd:decide (0<=y)=true:=decide_eq_true B;by_cases Q:x<0
     ·have d2:decide (x<0)=true:=decide_eq_true Q;have HN:=Hd (ap.1 B (.inl Q));clear B Q
      go_quiet (fail)
      go_wp2;go_roundw
      ·exact⟨true,i+1,_,by omega,rfl,by go_num,HN.1,HU.1.drewN _⟩
      simp[intOf];omega
     have d2:decide (x<0)=false:=decide_eq_false Q;by_cases Z:y+z<x
     ·have d3:decide (y+z<x)=true:=decide_eq_true Z;have HN:=Hd (ap.1 B (.inr Z));clear B Q Z
      go_quiet (fail)
      go_wp2;go_roundw
      ·exact⟨true,i+1,_,by omega,rfl,by go_num,HN.1,HU.1.drewN _⟩
      simp[intOf];omega
     have d3:decide (y+z<x)=false:=decide_eq_false Z;have HN:=Hd (aH.1 (by omega));clear B Q Z
     go_quiet (fail)
     go_wp2;go_roundw
     ·exact⟨b,i+1,D,by omega,rfl,by go_num,HN.1,j.1.drewN _⟩
     simp[intOf];omega
    have d1:decide (y≥0)=false:=decide_eq_false (by omega);have bd:decide (0<=y)=false:=decide_eq_false B;have HN:=Hd (aH.1 (by omega));clear B
    go_quiet (fail)
    go_wp2;go_roundw
    ·exact⟨b,i+1,D,by omega,rfl,by go_num,HN.1,j.1.drewN _⟩
    simp[intOf];omega
   have aw:i=m:=by omega
   have ad:=dF (by omega:m<=i);have g:=q.1;rw[aw,←ar.1]at g;have HN:=Hd g.next;clear g aw;go_wp2;go_roundw
   ·exact⟨b,k+1,D,by omega,rfl,by go_num,HN.1,j.1⟩
   simp[intOf];omega
  have R:k=N:=by omega
  have U:=dF (by omega:N<=k);have g:=q.1;rw[R]at g;have bc:Hv (b=false→D=distF G C S):=Hd<|fun h=>by subst h;exact g.done I.1
  obtain⟨a4,bh⟩:=hd2 g.di g.pot;have aE:=Hd (wJ (j.1.ints 0 rfl));clear g R;go_wp2;go_roundw
  ·exact⟨b,D,rfl,a4.1,bc.1,j.1⟩
  case measure =>
   rw[aE.1,av.1];have h:=bh.1
   cases b <;> simp[OT]at h ⊢<;> omega
def MI(v:Value):Nat:=match v with
 | .slice _ n _=>n
 | _=>0
theorem Bv(f:Int→Nat)(D:List Int)(m:Nat):∀k,(∀x,x<k→f (D[x]?.getD 0)<=m)→l6 f D k<=k*m
 | 0,_=>by simp[l6]
 | k+1,h=>by
  have h1:=Bv f D m k (fun x hx=>h x (by omega));have h2:=h k (by omega);rw[l6,Nat.succ_mul];omega
theorem DI.pot_le{N:Nat}{G:List (List Int)}{C S D:List Int}(hg:jW N G C S)(h:DI N G C S D):qQ D<=828*82800001:=by
 have h1:=Bv dPt D 82800001 D.length (fun x hx=>by
  rw[h.len]at hx;have h2:=h.le hg hx;unfold dPt
  split <;> omega)
 have h3:=h.len;have j:=hg.nle;have g:=Nat.mul_le_mul_right 82800001 (show D.length<=828 by rw[h3];exact j);unfold qQ;exact Nat.le_trans h1 g
def qe(p:aL):Int×Int:=(p.block,p.pin)
theorem BC(N:Nat)(G K:List (List Int))(C S:List Int)(gG:Nat)(CA SA:Oh)(cc sn sc:Nat)(w:World)(hG:wI w gG N G K)(hC:bT w CA N C)(hS:bT w SA sn S)(hg:jW N G C S)(hN:0<N)(hK:KOk N G K)(dz:sn<=1048576) :
  Calls Tryz.prog 263 #[.pointer (some ⟨gG,0,none⟩),.slice CA N cc,.slice SA sn sc] w fun e w'=>∃A,e=.returned (.slice A N N)/\Own w.heap.size w' A N N (distF G C S)/\Below w.heap.size w w'/\DI N G C S (distF G C S):=by
 obtain⟨HG,HC,HS,Y,aO⟩:=hd5 hG hC hS hg hK;have aX:Hv (S.length=sn):=Hd<|hS.1
 have cM:=hg.nle;clear hG hC hS hg hK;obtain⟨cp,hi,J,V,bm⟩:=info_parts iE;have bf:=fun W=>dQ (P:=Tryz.prog) 26 3 cp _ Tryz.underlying26 hi J .i64 .i64 N N (Nat.le_refl _) (by rw[bm];omega) (by omega) W;rw[V,Nat.mul_one,show(Value.int .i64 0).cells=#[Value.int .i64 0] from rfl,kM]at bf;clear hi J V bm;have bp:=Hd ((aD.refl w).consOwn (aB (Below.refl _ _) (.cells (arr (List.replicate N 0)) 3)) (Own.arr (n:=N) (aG w _) (Nat.le_refl _) (by unfold maxLen;omega) (by simp)));go_enter Tryz.func263,Tryz.ntmps263;go_upto_region 2 with fail;obtain⟨gD,aq⟩:∃x,w.heap.size=x:=⟨_,rfl⟩;have dj:=Hd aq;rw[show(Value.slice (some (⟨w.heap.size,0,none⟩:Addr)) N N)=.slice (some ⟨gD,0,none⟩) N N by rw[aq]]at bp
 (try rw[aq])
 clear bf aq;generalize w.alloc (.cells (arr (List.replicate N 0)) 3)=W1 at *;go_wp2
 go_loopw[21] (fun v wr=>∃(k:Nat) (D:List Int),k<=N/\v=.int .i64 (k:Int)/\D.length=N/\(∀x,x<k→D[x]?.getD 0=-1)/\aD w wr [.cel (aI D) (.slice (some ⟨gD,0,none⟩) N N)]) (fun v _=>N-(intOf v).toNat)
 ·exact⟨0,_,by omega,rfl,by simp,fun x hx=>by omega,bp.1⟩
 obtain⟨k,D,hk,rfl,bE,bg,hs⟩:=hrel;obtain⟨u,am,aK⟩:=hd3 hs bE bg;clear hs bE bg;by_cases Q:k<N
 ·have aj:=dT (by omega:k<N);obtain⟨g1,H,_,lg,cX,fX,g⟩:=u.1.setI 0 rfl Q;obtain rfl:gD=g1:=by injection H with h;injection h
  have HU:=Hd (g (-1))
  have HN:Hv (∀x,x<k+1→(D.set k (-1))[x]?.getD 0=-1):=Hd<|fun x hx=>by
   rw[AC (by rw[am.1];exact Q)]
   split
   ·rfl
   exact aK.1 x (by omega)
  obtain⟨k0,k1⟩:=ib (by omega:k<N);clear g H;go_wp2;go_roundw
  ·exact⟨k+1,D.set k (-1),by omega,by go_num,by rw[List.length_set];exact am.1,HN.1,HU.1⟩
  simp[intOf];omega
 have b3:k=N:=by omega
 have aj:=dF (by omega:N<=k)
 have bH:D=dSt N S 0:=by
  rw[Gm];apply List.ext_getElem
  ·rw[am.1];simp
  intro i h1 h2;have:=aK.1 i (by rw[am.1]at h1;omega);rw[List.getElem?_eq_getElem h1,Option.getD_some]at this;rw[this];simp
 have hs:=u.1;rw[bH]at hs;have cE:=Hd (hs.pushNil 251 2);clear hs u b3 bH am aK hk;go_wp2
 go_loopw[9,30] (fun q v wr=>∃(i:Nat) (es:List aL) (A:Oh) (n c:Nat),i<=sn/\q=.slice A n c/\v=.int .i64 (i:Int)/\n<=i/\(∀s∈S.take i,(⟨0,s⟩:aL)∈es)/\(∀e∈es,e.block=0/\e.pin∈S)/\aD w wr [.cel (aI (dSt N S i)) (.slice (some ⟨gD,0,none⟩) N N),.cel (lM es) (.slice A n c)]) (fun _ v _=>sn-(intOf v).toNat)
 ·exact⟨0,[],none,0,0,by omega,rfl,rfl,by omega,by simp,by simp,cE.1⟩
 obtain⟨i,es,A,n,c,hi,rfl,rfl,df,ah,bV,hs⟩:=hrel;obtain⟨u,ak,ay⟩:=hd3 hs ah bV;clear hs ah bV;by_cases Q:i<sn
 ·have aj:=dT (by omega:i<sn);have ai:i<S.length:=by rw[aX.1];exact Q
  have a0:=Y.1.starts_get ai;have bS:=Hd (Gn (N:=N) ai a0.1);have cn:=Hd (MX (N:=N) ai);have ag:=Hd (bF (z:=0) ai);have cy:Hv (S[i]?.getD 0∈S):=Hd<|by show _∈_;rw[List.getElem?_eq_getElem ai];exact List.getElem_mem _
  obtain⟨bs,os,bz,bD,bB⟩:=HS.1.2 (by omega);have cs:=(u.1.bel.cell (p:=⟨bs,os+i,none⟩) bD).trans (bB i Q);have ls:=aJ u.1.bel bD;have cj:=Hd bz;have cJ:Hv (∀x,x<N→(dSt N S i)[x]?.getD 0=if(x:Int)∈S.take i then 0 else -1):=Hd<|fun x hx=>uP hx
  clear ai bz bB;obtain rfl:=cj.1;generalize S[i]?.getD 0=s at *;obtain⟨X,rfl⟩:∃X:Nat,s=(X:Int):=⟨_,(Int.toNat_of_nonneg a0.1).symm⟩;rw[Int.toNat_natCast]at bS;have ap:X<N:=by omega
  obtain⟨g1,H,_,lg,cX,fX,g⟩:=u.1.setI 0 rfl ap;obtain rfl:gD=g1:=by injection H with h;injection h
  have hu:=g 0;rw[bS.1]at hu;have HU:=Hd hu;rw[cJ.1 X ap]at cX;obtain⟨i0,i1⟩:=ib (by omega:i<sn);obtain⟨X0,X1⟩:=ib (by omega:X<N);clear g H hu a0;by_cases hm:(X:Int)∈S.take i
  ·rw[if_pos hm]at cX;have b2:Hv (aD w wr [.cel (aI (dSt N S (i+1))) (.slice (some ⟨gD,0,none⟩) N N),.cel (lM es) (.slice A n c)]):=Hd<|by show aD _ _ _;rw[cn.1 hm];exact u.1
   have a2:Hv (∀s∈S.take (i+1),(⟨0,s⟩:aL)∈es):=Hd<|fun s hs=>by
    rw[ag.1,List.mem_append,List.mem_singleton]at hs
    rcases hs with hs|rfl
    ·exact ak.1 s hs
    exact ak.1 _ hm
   clear hm;go_wp2;go_roundw
   ·exact⟨i+1,es,A,n,c,by omega,rfl,by go_num,by omega,a2.1,ay.1,b2.1⟩
   simp[intOf];omega
  rw[if_neg hm]at cX;clear hm;go_upto_region 13 with fail;clear cX fX lg cs ls;generalize wr.setCell ⟨gD,X,none⟩ (.int .i64 0)=W3 at *;go_wp2_with fail;refine(uk w _ 1 es 0 (X:Int) A n c _ HU.1 rfl (by omega)).mono ?_;rintro _ w5 ⟨a1,g5,c5,rfl,br,S5⟩;obtain⟨R,bb⟩:=hd2 S5 br
  have a2:Hv (∀s∈S.take (i+1),(⟨0,s⟩:aL)∈a1):=Hd<|fun s hs=>by
   rw[bb.1.mem_iff,List.mem_cons];rw[ag.1,List.mem_append,List.mem_singleton]at hs
   rcases hs with hs|rfl
   ·exact .inr (ak.1 s hs)
   exact .inl rfl
  have cD:Hv (∀e∈a1,e.block=0/\e.pin∈S):=Hd<|fun e he=>by
   rw[bb.1.mem_iff,List.mem_cons]at he
   rcases he with rfl|he
   ·exact⟨rfl,cy.1⟩
   exact ay.1 e he
  clear S5 br;go_wp2;go_roundw
  ·exact⟨i+1,a1,_,n+1,c5,by omega,rfl,by go_num,by omega,a2.1,cD.1,R.1⟩
  simp[intOf];omega
 have aS:i=sn:=by omega
 have aj:=dF (by omega:sn<=i);have hs:=u.1;have ah:=ak.1;rw[aS,←aX.1]at hs;rw[aS,←aX.1,List.take_length]at ah;have b8:=Hd hs;have bI:=Hd (QI.start (T:=es.map qe) Y.1 (fun s hs=>List.mem_map.2 ⟨⟨0,s⟩,ah s hs,rfl⟩) (fun e he=>by obtain⟨p,hp,rfl⟩:=List.mem_map.1 he;exact ay.1 p hp));generalize dSt N S S.length=D0 at *;clear hs u aS ah ak ay;go_wp2
 go_loopw[9] (fun q wr=>∃(D:List Int) (es:List aL) (A:Oh) (n c:Nat),q=.slice A n c/\2*qQ D+n<=200000000000/\QI N G C S D (es.map qe)/\aD w wr [.cel (aI D) (.slice (some ⟨gD,0,none⟩) N N),.cel (lM es) (.slice A n c)]) (fun q wr=>2*KG wr gD N+MI q)
 ·exact⟨D0,es,A,n,c,rfl,by have:=bI.1.di.pot_le Y.1;omega,bI.1,b8.1⟩
 obtain⟨D,es,A,n,c,rfl,be,bM,hs⟩:=hrel;obtain⟨u,HQ⟩:=hd2 hs bM;have cg:=(hs.rd 1 rfl).queN;have bo:=Hd (wJ (hs.ints 0 rfl));have ax:=Hd be;clear hs bM be;by_cases bU:n=0
 ·subst bU;have dn:decide (((0:Nat):Int)>0)=false:=by simp
  have he:es=[]:=List.eq_nil_of_length_eq_zero cg
  have HV:Hv (D=distF G C S):=Hd<|by
   have h:=HQ.1;rw[he]at h;exact h.done Y.1
  clear he;go_wp2;go_ret;exact⟨_,rfl,by rw[←HV.1];exact u.1.owned 0 rfl,u.1.bel,by rw[←HV.1];exact HQ.1.di⟩
 obtain⟨n,rfl⟩:∃x,n=x+1:=⟨n-1,by omega⟩;have dn:decide (((n+1:Nat):Int)>0)=true:=by simp
 have dx:decide ((n:Int)+1>0)=true:=decide_eq_true (by omega);obtain⟨g9,hA,_⟩:=u.1.setQ 1 rfl (i:=0) (by omega);have ca:=Hd hA;clear hA bU;obtain rfl:=ca.1;have aE:=u.1.consBlk #[.int .i64 0,.int .i64 0] 251;go_upto_region 17 with fail;obtain⟨gX,a4⟩:∃x,wr.heap.size=x:=⟨_,rfl⟩;rw[a4]at aE
 (try rw[a4])
 have aR:=Hd aE;clear a4 aE;obtain⟨wo,aF⟩:∃x,wr.alloc (.cells #[.int .i64 0,.int .i64 0] 251)=x:=⟨_,rfl⟩;rw[aF]at aR;rw[aF];clear aF;go_wp2_with fail;refine(Dr w _ 2 es g9 n c _ aR.1 rfl (by have h:=ax.1;omega)).mono ?_;rintro _ w5 ⟨au,tt,rfl,aQ,S5⟩;obtain⟨B,tp⟩:=tt;have R:=Hd S5;have hq2:=(HQ.1.perm (U:=(B,tp)::au.map qe) (by have h:=(aQ.map qe).symm;exact h));obtain⟨X,hX,ap,b6,bh,cu⟩:=hq2.ent (B,tp) (by simp);simp only at hX bh cu;subst hX;obtain⟨aZ,db⟩:=hd2 hq2 aQ;obtain⟨J,V⟩:=cs2 (R.1.blk 0 rfl).1;have cB:=aN (R.1.blk 0 rfl).1 0;have b7:=aN (R.1.blk 0 rfl).1 1;have lz:=aH (R.1.blk 0 rfl).1;have I:Hv (aD w ((w5.setCell ⟨gX,0,none⟩ (.int .i64 B)).setCell ⟨gX,1,none⟩ (.int .i64 (X:Int))) [.blk gX #[.int .i64 B,.int .i64 (X:Int)] 251,.cel (aI D) (.slice (some ⟨gD,0,none⟩) N N),.cel (lM au) (.slice (some ⟨g9,0,none⟩) n c)]):=Hd ((R.1.put 0 rfl 0 (.int .i64 B)).put 0 rfl 1 (.int .i64 (X:Int)));clear S5 hq2 aQ aR HQ;go_upto_region 18 with fail;clear J V cB b7 lz R;generalize (w5.setCell ⟨gX,0,none⟩ (.int .i64 B)).setCell ⟨gX,1,none⟩ (.int .i64 (X:Int))=W6 at *;obtain⟨J,V,lz⟩:=iC (I.1.blk 0 rfl).1;obtain⟨g1,H,_,lD,cX,_,_⟩:=I.1.setI 1 rfl ap;obtain rfl:gD=g1:=by injection H with h;injection h
 obtain⟨xd,aP⟩:∃x,D[X]?.getD 0=x:=⟨_,rfl⟩;have bx:=Hd aP;rw[aP]at cX b6 bh;obtain⟨X0,X1⟩:=ib (by omega:X<N);clear H aP;by_cases ad:xd<B
 ·have d1:decide (B>xd)=true:=decide_eq_true ad;have d2:decide (xd<B)=true:=decide_eq_true ad;have HN:=Hd (aZ.1.stale (by rw[bx.1];exact ad));clear ad
  go_quiet (fail)
  go_wp2;go_roundw
  ·exact⟨D,au,_,n,c,rfl,by have h:=ax.1;omega,HN.1,I.1.tail.drewN _⟩
  case measure =>
   have h:=(wJ ((I.1.tail.drewN nq).ints 0 rfl));rw[h,bo.1];simp[MI]
 have d1:decide (B>xd)=false:=decide_eq_false (by omega);have d2:decide (xd<B)=false:=decide_eq_false ad;have ck:=Hd (QJ.start aZ.1 (by rw[bx.1];exact ad));obtain⟨a7,GA,gc,KA,kc,cI,aU,rG,rK⟩:=HG.1;obtain⟨bK,oK,RA,m,mc,bO,bX,cK,rR⟩:=rK.rowsR (k:=X) (by rw[aO.1.len];exact ap);have aV:=Hd rR.ints;have bd:=aO.1.le X;rw[aV.1.1]at bd;have bY:=Hd (aO.1.mem X);have cm:=Hd bO;have bk:Hv ((K[X]?.getD []).length=m):=Hd<|aV.1.1
 clear bO rG rK rR ad aZ;obtain rfl:=cm.1;have aU:=(I.1.bel.cell (p:=⟨gG,1,none⟩) a7).trans aU;have cK:=(I.1.bel.cell (p:=⟨bK,oK+X,none⟩) bX).trans cK;have ce:=aJ I.1.bel a7;have co:=aJ I.1.bel bX;generalize K[X]?.getD []=KR at *;clear cI
 go_quiet (fail)
 go_upto_region 19 with fail
 go_quiet (fail)
 clear J V lz cX lD aU cK ce co;go_wp2_with fail;obtain⟨D9,bn⟩:∃x,D=x:=⟨_,rfl⟩;have al:Hv (qQ D=qQ D9):=Hd<|by show _=_;rw[bn]
 clear bn
 go_loopw[9,72] (fun q v wr=>∃(j:Nat) (D:List Int) (es:List aL) (A:Oh) (n' c':Nat),j<=m/\q=.slice A n' c'/\v=.int .i64 (j:Int)/\2*qQ D+n'<=2*qQ D9+n/\QJ N G C S D (es.map qe) X B (KR.take j)/\aD w wr [.blk gX #[.int .i64 B,.int .i64 (X:Int)] 251,.cel (aI D) (.slice (some ⟨gD,0,none⟩) N N),.cel (lM es) (.slice A n' c')]) (fun _ v _=>m-(intOf v).toNat)
 ·exact⟨0,D,au,_,n,c,by omega,rfl,rfl,by rw[al.1];exact Nat.le_refl _,ck.1,I.1.drewN _⟩
 obtain⟨j,D1,es,A,n',c',hj,rfl,rfl,bu,ae,hs⟩:=hrel;obtain⟨u,aw,ao⟩:=hd3 hs ae bu;clear hs ae bu;by_cases Q:j<m
 ·have aj:=dT (by omega:j<m);have aW:j<KR.length:=by rw[bk.1];exact Q
  have ag:=Hd (bF (z:=0) aW);obtain⟨Z,av,hZ,bw⟩:=(bY.1 (KR[j]?.getD 0)).1 (by rw[List.getElem?_eq_getElem aW];exact List.getElem_mem _);obtain⟨bR,oR,a8,bP,bW⟩:=aV.1.2 (by omega);have cR:=(u.1.bel.cell (p:=⟨bR,oR+j,none⟩) bP).trans (bW j Q);rw[hZ]at cR ag;have lR:=aJ u.1.bel bP;obtain⟨bC,oC,bN,bj,a9⟩:=HC.1.2 (by omega);have cC:=(u.1.bel.cell (p:=⟨bC,oC+Z,none⟩) bj).trans (a9 Z av);have lC:=aJ u.1.bel bj;obtain⟨cq,b5⟩:=hd2 a8 bN;obtain⟨g1,H,_,lD,cZ,fZ,g⟩:=u.1.setI 1 rfl av;obtain rfl:gD=g1:=by injection H with h;injection h
  have cr:=aw.1.di.le Y.1 av;have cH:=Y.1.cin Z av;have cx:=Hd (fun h=>aw.1.keep (n:=Z) h);have b9:=Hd (fun h=>aw.1.change Y.1 bw h);have cv:=Hd (g (B+C[Z]?.getD 0));obtain⟨J,V,lz⟩:=iC (u.1.blk 0 rfl).1;clear aW a8 bN bW a9 H g hZ bw;obtain rfl:=cq.1;obtain rfl:=b5.1;generalize D1[Z]?.getD 0=x at *;generalize C[Z]?.getD 0=z at *;obtain⟨c7,c4⟩:=cr;obtain⟨cO,cY⟩:=cH;obtain⟨j0,j1⟩:=ib (by omega:j<m);obtain⟨Z0,Z1⟩:=ib (by omega:Z<N);have ew:IntKind.i64.wrap (B+z)=B+z:=IntWalk.i64_in _ (by omega);go_upto_region 22 with fail
  go_quiet (fail)
  clear cR lR;by_cases az:x<0∨B+z<x
  ·have aC:=Hd (b9.1 az)
   have a3:(x==-1)=true∨((x==-1)=false/\decide (B+z<x)=true):=by
    by_cases h:x=-1
    ·exact .inl (by simp[h])
    exact .inr ⟨by simp[h],decide_eq_true (by omega)⟩
   have bA:Hv (2*qQ (D1.set Z (B+z))+(n'+1)<=2*qQ D9+n):=Hd<|by
    have h1:=ao.1;have h2:=aC.1.2;show _<=_;omega
   clear az
   rcases a3 with bL|⟨bL,b1⟩
   all_goals
    go_upto_region 25 with fail;clear J V lz cZ fZ lD cC lC;have cF:=Hd (cv.1.drewN nq);go_wp2_with fail;refine(uk w _ 2 es (B+z) (Z:Int) A n' c' _ cF.1 rfl (by have h1:=ao.1;have h2:=ax.1;have h3:=al.1;omega)).mono ?_;rintro _ w8 ⟨aT,g8,c8,rfl,bq,S8⟩;have cz:=Hd S8
    have cl:Hv (QJ N G C S (D1.set Z (B+z)) (aT.map qe) X B (KR.take (j+1))):=Hd<|by
     have h:=aC.1.1.perm (U:=aT.map qe) (by have h:=(bq.map qe).symm;exact h);rw[←ag.1]at h;exact h
    clear S8 bq;go_wp2;go_roundw
    ·exact⟨j+1,_,aT,_,n'+1,c8,by omega,rfl,by go_num,bA.1,cl.1,cz.1⟩
    simp[intOf];omega
  have bL:(x==-1)=false:=by simp;omega
  have b1:decide (B+z<x)=false:=decide_eq_false (by omega);have aY:=cx.1 az;rw[←ag.1]at aY;have cG:=Hd aY;clear az aY;go_wp2;go_roundw
  ·exact⟨j+1,D1,es,A,n',c',by omega,rfl,by go_num,ao.1,cG.1,u.1.drewN _⟩
  simp[intOf];omega
 have bl:j=m:=by omega
 have aj:=dF (by omega:m<=j);have ae:=aw.1;rw[bl,←bk.1,List.take_length]at ae;have cb:=Hd (ae.done (fun x hx=>(bY.1 (x:Int)).2 ⟨x,(Y.1.row hx).1,rfl,hx⟩));have bG:=Hd (wJ (u.1.ints 1 rfl));have bc:=Hd al.1;clear ae bl;go_wp2;go_roundw
 ·exact⟨D1,es,A,n',c',rfl,by have h1:=ao.1;have h2:=ax.1;rw[←bc.1]at h1;omega,cb.1,u.1.tail⟩
 case measure =>
  rw[bG.1,bo.1];have h:=ao.1;rw[←bc.1]at h;simp[MI];omega
def cellAt(w:World)(g o:Nat)(x:Int):Int:=match w.cell? ⟨g,o+x.toNat,none⟩with
 | some (.int _ v)=>v
 | _=>0
theorem uJ{w:World}{g o y:Nat}{v:Int}(h:w.cell? ⟨g,o+y,none⟩=some (.int .i64 v)):cellAt w g o (y:Int)=v:=by
 unfold cellAt;rw[Int.toNat_natCast,h]
def vK(p:Int→Bool)(xs:List Int)(i:Nat):Prop:=∀j,j<i→p (xs[j]?.getD 0)=false
theorem Jh{p:Int→Bool}{xs:List Int}{i:Nat}(hi:i<xs.length)(hn:vK p xs i)(h:p (xs[i]?.getD 0)=true):xs.find? p=some (xs[i]?.getD 0):=by
 induction xs generalizing i with
 | nil=>simp at hi
 | cons x xs ih =>
  cases i with
  | zero =>
   simp only[List.getElem?_cons_zero,Option.getD_some]at h ⊢
   rw[List.find?_cons_of_pos h]
  | succ i =>
   have h0:=hn 0 (by omega);simp only[List.getElem?_cons_zero,Option.getD_some]at h0;rw[List.find?_cons_of_neg (by simp[h0])];simp only[List.getElem?_cons_succ]at h ⊢;exact ih (by simpa using hi) (fun j hj=>by have:=hn (j+1) (by omega);simpa using this) h
theorem Bw{p:Int→Bool}{xs:List Int}(hn:vK p xs xs.length):xs.find? p=none:=by
 rw[List.find?_eq_none];intro x hx;obtain⟨i,hi,rfl⟩:=List.getElem_of_mem hx;have:=hn i hi;rw[List.getElem?_eq_getElem hi,Option.getD_some]at this;simp[this]
theorem yC{p:Int→Bool}{xs:List Int}{i:Nat}(h:vK p xs i)(h2:p (xs[i]?.getD 0)=false):vK p xs (i+1):=fun j hj=>by
 by_cases e:j=i
 ·subst e;exact h2
 exact h j (by omega)
theorem Ik{N:Nat}{G:List (List Int)}{C S D:List Int}(hg:jW N G C S)(h:jk G C S D){x:Nat}(hx:x<N)(h0:0<=D[x]?.getD 0):(x:Int)∈S↔¬0<D[x]?.getD 0:=by
 obtain⟨p,t,e1,e2,e3,j,q⟩:=Gp hg h (D[x]?.getD 0).toNat hx h0 (by omega)
 constructor
 ·intro hs
  rcases h.val x (by rw[hg.glen];exact hx)with h1|⟨_,_,h3⟩
  ·omega
  have:=h3 0 (.start hs);omega
 intro hn;have g:D[x]?.getD 0=0:=by omega
 rw[pX g]at e1;injection e1 with e1 _
 rw[e1];exact e2
theorem xK(N:Nat)(G K:List (List Int))(C S:List Int)(T:Nat)(gG:Nat)(CA SA:Oh)(cc sn sc:Nat)(w:World)(hG:wI w gG N G K)(hC:bT w CA N C)(hS:bT w SA sn S)(hg:jW N G C S)(hN:0<N)(hK:KOk N G K)(hr:∀x:Nat,(G[x]?.getD []).length<=26)(bh:sn<=1048576)(hT:T<N) :
  Calls Tryz.prog 253 #[.pointer (some ⟨gG,0,none⟩),.slice CA N cc,.slice SA sn sc,.int .i64 (T:Int)] w fun e w'=>((distF G C S)[T]?.getD 0=-1/\e=.returned (.slice none 0 0)∨(distF G C S)[T]?.getD 0≠-1/\∃g n c,e=.returned (.slice (some ⟨g,0,none⟩) n c)/\Own w.heap.size w' (some ⟨g,0,none⟩) n c (lF G C (distF G C S) T))/\Below w.heap.size w w':=by
 obtain⟨HG,HC,HS,B,cp,b7⟩:=hd6 hG hC hS hg hK hr;have bW:Hv (G.length=N):=Hd<|hg.glen
 have b8:=hg.nle;have bH:=Hd (fun(v:World) (hv:Below w.heap.size w v)=>BC N G K C S gG CA SA cc sn sc v (hG.below hv) (hC.below hv) (hS.below hv) hg hN hK bh);have av:=Hd (AL hg);clear hG hC hS hg hK hr;generalize distF G C S=D at *;go_enter Tryz.func253,Tryz.ntmps253;go_wp2_with fail;refine(bH.1 _ (Below.refl _ _)).mono ?_;rintro _ w1 ⟨A,rfl,o1,b1,ap⟩;obtain⟨bc,HO,Z⟩:=hd3 ap o1.ints b1;obtain⟨gD,oD,hA,ar,aU⟩:=HO.1.2 (by omega);obtain⟨a6,bu⟩:=hd2 aU hA;clear o1 b1 ap hA aU;obtain rfl:=bu.1;have cD:Hv (∀v,Below w1.heap.size w1 v→Below w.heap.size w v):=Hd<|fun v hv=>aA Z.1 hv
 go_wp2_with fail;refine(aM (T:Int) 0 ((N:Int)-1) _).mono ?_;rw[aR.2 ⟨by omega,by omega⟩];rintro _ _ ⟨rfl,rfl⟩;have ct:=a6.1 T hT;have b2:=bc.1.le B.1 hT;obtain⟨T0,T1⟩:=ib (by omega:T<N);obtain⟨dt,af⟩:∃x,D[T]?.getD 0=x:=⟨_,rfl⟩;rw[af]at ct b2
 (try rw[af])
 have ai:=Hd af;clear af;by_cases Q:dt=-1
 ·have e1:(dt==-1)=true:=by simp[Q]
  go_wp2;go_ret;exact⟨.inl ⟨by rw[ai.1];exact Q,rfl⟩,Z.1⟩
 have e1:(dt==-1)=false:=by simp[Q]
 have bq:Hv (D[T]?.getD 0≠-1):=Hd<|by show _≠_;rw[ai.1];exact Q
 have bf:=Hd ((aD.refl w1).consLit (T:Int));have bk:0<=dt:=by omega
 clear Q;go_upto_region 5 with fail;clear ct e1;obtain⟨g0,aC⟩:∃g,w1.heap.size=g:=⟨_,rfl⟩;rw[show(Value.slice (some (⟨w1.heap.size,0,none⟩:Addr)) 1 1)=.slice (some ⟨g0,0,none⟩) 1 1 by rw[aC]]at bf
 (try rw[aC])
 clear aC;generalize w1.alloc (.cells #[.int .i64 (T:Int)] 3)=W2 at *;go_wp2
 go_loopw[10,11] (fun ov xv wr=>∃(x:Nat) (tl:List Int) (g n c:Nat),ov=.slice (some ⟨g,0,none⟩) n c/\xv=.int .i64 (x:Int)/\x<N/\0<=D[x]?.getD 0/\D[x]?.getD 0+(n:Int)<=82800002/\lF G C D T=lF G C D x++tl/\aD w1 wr [.cel (aI ((x:Int)::tl)) (.slice (some ⟨g,0,none⟩) n c)]) (fun _ xv wr=>(cellAt wr gD oD (intOf xv)).toNat)
 ·exact⟨T,[],g0,1,1,rfl,rfl,hT,by rw[ai.1];exact bk,by rw[ai.1];omega,by simp,bf.1⟩
 obtain⟨x,tl,g,n,c,rfl,rfl,hx,aT,bI,a1,hs⟩:=hrel;obtain⟨R,bg⟩:=hd2 hs a1;have q:=Hd (aA Z.1 hs.bel);have J:Hv (∀y:Nat,y<N→∀v,Below w1.heap.size w1 v→v.cell? ⟨gD,oD+y,none⟩=some (.int .i64 (D[y]?.getD 0))):=Hd<|fun y hy v hv=>(hv.cell (p:=⟨gD,oD+y,none⟩) ar).trans (a6.1 y hy)
 have aY:Hv (cellAt wr gD oD (x:Int)=D[x]?.getD 0):=Hd<|uJ (J.1 x hx wr hs.bel)
 have aF:=Hd (Ik B.1 av.1 hx aT);have bP:=Hd (HS.1.below q.1);clear hs a1;obtain⟨xd,u⟩:∃z,D[x]?.getD 0=z:=⟨_,rfl⟩;have ah:=Hd u;rw[u]at aT bI aF aY;go_wp2_with fail;refine(mZ SA sn sc S (x:Int) _ bP.1 bh).mono ?_;rintro _ _ ⟨rfl,rfl⟩;by_cases hz:xd=0
 ·rw[decide_eq_true (aF.1.2 (by omega))];have HV:Hv ((x:Int)::tl=lF G C D T):=Hd<|by show _=_;rw[bg.1,pX (by rw[ah.1];exact hz)];rfl
  clear hz u;go_wp2;go_ret;exact⟨.inr ⟨bq.1,_,_,_,rfl,by rw[←HV.1];exact(R.1.owned 0 rfl).more Z.1.size⟩,q.1⟩
 rw[decide_eq_false (fun h=>by have:=aF.1.1 h;omega)];obtain⟨y,a5,a4,aj,bQ,ak,am⟩:=tq B.1 av.1 hx (by rw[u];omega);have bb:=Hd a5;have aK:=Hd (vT B.1 av.1 hx (by rw[u];omega) a4);rw[u]at am;have bM:=Hd (And.intro aj (And.intro ak am));clear a5 a4 bQ u hz aj ak am;obtain⟨aN,GA,gc,KA,kc,aL,bA,rG,rK⟩:=HG.1;obtain⟨bG,oG,RA,m,mc,a2,bm,cG,rR⟩:=rG.rowsR (k:=x) (by rw[bW.1];exact hx);have ay:=Hd rR.ints;have aS:=b7.1 x;rw[ay.1.1]at aS;have bU:=Hd a2;have aW:Hv ((G[x]?.getD []).length=m):=Hd<|ay.1.1
 have br:Hv (∀z∈G[x]?.getD [],0<=z/\z<(N:Int)):=Hd<|B.1.gin x hx
 clear a2 rG rK rR bA;obtain rfl:=bU.1;have aL:=(q.1.cell (p:=⟨gG,0,none⟩) aN).trans aL;have cG:=(q.1.cell (p:=⟨bG,oG+x,none⟩) bm).trans cG;have bw:=aJ q.1 aN;have bZ:=aJ q.1 bm;obtain⟨bC,oC,bd,ae,aB⟩:=HC.1.2 (by omega);have cC:=(q.1.cell (p:=⟨bC,oC+x,none⟩) ae).trans (aB x hx);have lC:=aJ q.1 ae;have b6:=B.1.cin x hx;have bD:=Hd (aB x hx);have bs:=Hd bd;have cX:=J.1 x hx _ R.1.bel;have lD:=aJ R.1.bel ar;rw[ah.1]at cX;have b3:Hv (∀z:Nat,jl C D x (z:Int)=(decide (0<=D[z]?.getD 0) && decide (D[z]?.getD 0+C[x]?.getD 0=xd))):=Hd<|fun z=>by unfold jl;rw[Int.toNat_natCast,ah.1]
 obtain⟨x0,x1⟩:=ib (by omega:x<N);clear bd aB;obtain rfl:=bs.1;clear cX lD cC lC;generalize G[x]?.getD []=row at *;generalize C[x]?.getD 0=z at *;obtain⟨cd,cg⟩:=b6;go_wp2_with fail;clear aL bw cG bZ
 go_loopw[11,46] (fun xv iv wr=>∃i:Nat,i<=m/\xv=.int .i64 (x:Int)/\iv=.int .i64 (i:Int)/\vK (jl C D x) row i/\aD w1 wr [.cel (aI ((x:Int)::tl)) (.slice (some ⟨g,0,none⟩) n c)]) (fun _ iv _=>m-(intOf iv).toNat)
 ·exact⟨0,by omega,rfl,rfl,fun j hj=>by omega,R.1⟩
 obtain⟨i,hi,rfl,rfl,W,hs⟩:=hrel;obtain⟨R,ax⟩:=hd2 hs W;have q:=Hd (aA Z.1 hs.bel);clear hs W;by_cases a3:i<m
 ·have ap:=dT (by omega:i<m);have ao:i<row.length:=by rw[aW.1];exact a3
  have au:=br.1 _ (List.getElem_mem ao);rw[show row[i]=row[i]?.getD 0 by rw[List.getElem?_eq_getElem ao];rfl]at au;have a0:=Hd (Jh (p:=jl C D x) ao ax.1);have a8:=Hd (yC ax.1);obtain⟨bR,oR,aO,be,bj⟩:=ay.1.2 (by omega);have cR:=(q.1.cell (p:=⟨bR,oR+i,none⟩) be).trans (bj i a3);have lR:=aJ q.1 be;have bK:=Hd aO;clear ao aO bj;obtain rfl:=bK.1;generalize row[i]?.getD 0=yv at *;obtain⟨Y,rfl⟩:∃Y:Nat,yv=(Y:Int):=⟨_,(Int.toNat_of_nonneg au.1).symm⟩;have aE:Y<N:=by omega
  have cY:=J.1 Y aE _ R.1.bel;have cX:=J.1 x hx _ R.1.bel;rw[ah.1]at cX;have lD:=aJ R.1.bel ar;have cC:=(q.1.cell (p:=⟨bC,oC+x,none⟩) ae).trans bD.1;have lC:=aJ q.1 ae;have b4:=bc.1.le B.1 aE;have U:=Hd (b3.1 Y)
  have b5:Hv (jl C D x (Y:Int)=true→Y=y):=Hd<|fun h=>by
   have h1:=a0.1 h;rw[bb.1]at h1;injection h1 with h1
   omega
  generalize D[Y]?.getD 0=yd at *;obtain⟨cl,cf⟩:=b4;obtain⟨i0,i1⟩:=ib (by omega:i<m);obtain⟨Y0,Y1⟩:=ib (by omega:Y<N);have ew:IntKind.i64.wrap (yd+z)=yd+z:=IntWalk.i64_in _ (by omega);clear au a0;go_upto_region 10 with fail;by_cases I:yd=-1
  ·have d1:(yd != -1)=false:=by simp[I]
   have aq:=Hd (a8.1 (by rw[U.1,I];rfl));clear I
   go_quiet (fail)
   clear cR lR cY cX lD cC lC;go_wp2;go_roundw
   ·exact⟨i+1,by omega,rfl,by go_num,aq.1,R.1.drewN _⟩
   simp[intOf];omega
  have d1:(yd != -1)=true:=by simp[I]
  by_cases H:yd+z=xd
  ·have d2:(yd+z==xd)=true:=by simp[H]
   have al:=b5.1 (by rw[U.1,decide_eq_true (by omega:0<=yd),decide_eq_true H];rfl);have bY:=Hd al;clear I H al
   go_quiet (fail)
   clear cR lR cY cX lD cC lC;obtain⟨aj,ak,am⟩:=bM.1;have a7:=Hd ((R.1.drewN nq).consLit (Y:Int));have e0:1+n=n+1:=by omega
   go_wp2_with (at_builtin;refine eX rfl _ _ rfl _ a7.1 0 _ 1 1 [(Y:Int)] (some ⟨g,0,none⟩) n c ((x:Int)::tl) rfl rfl rfl (a7.1.ints 1 rfl) (by omega) ?_;intro A9 c9 w9 S9 cw;have aQ:=Hd S9;clear S9)
   have V:=aQ.1.sub (List.Sublist.cons_cons _ (List.Sublist.cons _ (List.nil_sublist _)));rw[Nat.add_comm 1 n]at V;obtain⟨g9,aZ,_⟩:=V.setI 0 rfl (i:=0) (by omega);obtain⟨bJ,aV⟩:=hd2 aZ V;have bX:Hv (cellAt w9 gD oD (Y:Int)=D[Y]?.getD 0):=Hd<|uJ (J.1 Y aE w9 V.bel)
   clear V aZ aQ;obtain rfl:=bJ.1;have al:=bY.1;subst al;go_roundw
   ·exact⟨Y,(x:Int)::tl,g9,n+1,c9,rfl,rfl,aj,ak,by omega,by rw[bg.1,aK.1,List.append_assoc];rfl,aV.1⟩
   case measure =>
    show(cellAt w9 gD oD (Y:Int)).toNat<(cellAt _ gD oD (x:Int)).toNat;rw[bX.1,aY.1];omega
  have d2:(yd+z==xd)=false:=by simp[H]
  have aq:=Hd (a8.1 (by rw[U.1,decide_eq_false H,Bool.and_false]));clear I H
  go_quiet (fail)
  clear cR lR cY cX lD cC lC;go_wp2;go_roundw
  ·exact⟨i+1,by omega,rfl,by go_num,aq.1,R.1.drewN _⟩
  simp[intOf];omega
 have bE:i=m:=by omega
 exfalso;have W:=ax.1;rw[bE,←aW.1]at W;have h1:=Bw W;rw[bb.1]at h1
 cases h1
theorem GK(N:Nat)(G:List (List Int))(C S D:List Int)(T:Nat)(GA CA DA:Oh)(gc cc dc:Nat)(w:World)(hG:RdC w w.heap.size (mG G) (.slice GA N gc))(hC:bT w CA N C)(hD:bT w DA N D)(hg:jW N G C S)(hi:jk G C S D)(hd:DI N G C S D)(hr:∀x:Nat,(G[x]?.getD []).length<=26)(hT:T<N)(bj:0<=D[T]?.getD 0) :
  Calls Tryz.prog 246 #[.slice GA N gc,.slice CA N cc,.slice DA N dc,.int .i64 (T:Int)] w fun e w'=>∃A n c,e=.returned (.slice A n c)/\Own w.heap.size w' A n c (lF G C D T)/\Below w.heap.size w w':=by
 obtain⟨HG,HC,HO,Z,aQ,bY,b9⟩:=hd7 hG hC hD hg hi hd hr;have bZ:Hv (G.length=N):=Hd<|hg.glen
 have cb:=hg.nle;obtain⟨gD,oD,hA,au,aM⟩:=hD.2 (by omega);obtain⟨bM,bw⟩:=hd2 aM hA;have aR:=hd.le hg hT;obtain⟨bA,b2⟩:=hd2 bj aR;clear hG hC hD hg hi hd hr hA aM aR bj;obtain rfl:=bw.1;have bf:=Hd ((aD.refl w).consLit (T:Int));go_enter Tryz.func246,Tryz.ntmps246;go_upto_region 2 with fail;obtain⟨g0,az⟩:∃g,w.heap.size=g:=⟨_,rfl⟩;rw[show(Value.slice (some (⟨w.heap.size,0,none⟩:Addr)) 1 1)=.slice (some ⟨g0,0,none⟩) 1 1 by rw[az]]at bf
 (try rw[az])
 clear az;generalize w.alloc (.cells #[.int .i64 (T:Int)] 3)=W2 at *
 go_loopw[3,9] (fun xv bv wr=>∃(x:Nat) (tl:List Int) (A:Oh) (n c:Nat),bv=.slice A n c/\xv=.int .i64 (x:Int)/\x<N/\0<=D[x]?.getD 0/\D[x]?.getD 0+(n:Int)<=82800002/\lF G C D T=lF G C D x++tl/\aD w wr [.cel (aI ((x:Int)::tl).reverse) (.slice A n c)]) (fun xv _ wr=>(cellAt wr gD oD (intOf xv)).toNat)
 ·exact⟨T,[],_,1,1,rfl,rfl,hT,bA.1,by have:=b2.1;omega,by simp,bf.1⟩
 obtain⟨x,tl,A,n,c,rfl,rfl,hx,bt,bI,aX,hs⟩:=hrel;obtain⟨u,bg⟩:=hd2 hs aX;have aN:Hv (((x:Int)::tl).length=n):=Hd<|by have h:=(hs.ints 0 rfl).1;rw[List.length_reverse]at h;exact h
 have U:Hv (∀y:Nat,y<N→∀v,Below w.heap.size w v→v.cell? ⟨gD,oD+y,none⟩=some (.int .i64 (D[y]?.getD 0))):=Hd<|fun y hy v hv=>(hv.cell (p:=⟨gD,oD+y,none⟩) au).trans (bM.1 y hy)
 have af:Hv (cellAt wr gD oD (x:Int)=D[x]?.getD 0):=Hd<|uJ (U.1 x hx wr hs.bel)
 have cX:=U.1 x hx wr hs.bel;have lD:=aJ hs.bel au;clear hs aX;obtain⟨xd,I⟩:∃z,D[x]?.getD 0=z:=⟨_,rfl⟩;have ax:=Hd I;rw[I]at bt bI af cX;obtain⟨x0,x1⟩:=ib (by omega:x<N);by_cases hz:xd=0
 ·have d1:decide (xd>0)=false:=decide_eq_false (by omega);have d2:decide (0<xd)=false:=decide_eq_false (by omega);have HV:Hv ((x:Int)::tl=lF G C D T):=Hd<|by show _=_;rw[bg.1,pX (by rw[ax.1];exact hz)];rfl
  have hs:=u.1;rw[HV.1]at hs;have bh:=Hd hs;have aq:=aN.1;rw[HV.1]at aq;have J:=Hd aq;obtain⟨P,ay⟩:∃P,lF G C D T=P:=⟨_,rfl⟩;rw[ay]at bh J;have bK:=Hd ay;have HE:=Hd (bh.1.pushNew 3 1);clear hs aq hz I HV af aN u ay;go_wp2_with fail;clear cX lD
  go_loopw[13,14] (fun ov iv wr=>∃(j:Nat) (A':Oh) (c':Nat),j<=n/\ov=.slice A' j c'/\iv=.int .i64 ((n:Int)-1-(j:Int))/\aD w wr [.cel (aI P.reverse) (.slice A n c),.cel (aI (P.take j)) (.slice A' j c')]) (fun ov _ _=>n-MI ov)
  ·exact⟨0,_,0,by omega,rfl,by go_num,HE.1⟩
  obtain⟨j,A',c',hj,rfl,rfl,hs⟩:=hrel;have u:=Hd hs;clear hs;by_cases W:j<n
  ·have d3:decide ((n:Int)-1-(j:Int)≥0)=true:=decide_eq_true (by omega);have d4:decide (0<=(n:Int)-1-(j:Int))=true:=decide_eq_true (by omega);have aV:j<P.length:=by rw[J.1];exact W
   have bS:=Hd (bF (z:=0) aV);obtain⟨bB,oB,be,cv,aZ⟩:=(u.1.ints 0 rfl).2 (by omega);have cB:=aZ (n-1-j) (by omega)
   have a2:P.reverse[n-1-j]?.getD 0=P[j]?.getD 0:=by
    rw[List.getElem?_reverse (by rw[J.1];omega),J.1,show n-1-(n-1-j)=j by omega]
   rw[a2]at cB;have bp:=Hd be;obtain⟨q,hq⟩:∃q,n-1-j=q:=⟨_,rfl⟩;rw[hq]at cB;have ag:(n:Int)-1-(j:Int)=(q:Int):=by omega
   have q1:(q:Int)<(n:Int):=by omega
   have q0:(0:Int)<=(q:Int):=by omega
   have cz:((n:Int)-1-(j:Int)).toNat=q:=by omega
   clear aV aZ a2 be hq;obtain rfl:=bp.1;generalize P[j]?.getD 0=y at *;rw[ag];rw[ag]at d3 d4;have bu:=Hd ag;clear ag
   go_wp2_with (at_builtin;refine bP rfl _ _ rfl _ (u.1.alloc _) 1 A' j c' (P.take j) y _ (0,0) rfl rfl rfl (aG _ _) (by omega) ?_;intro g9 cap w9 S9 aW;have H:=Hd S9;clear S9)
   go_roundw
   ·exact⟨j+1,_,_,by omega,rfl,by have:=bu.1;go_num,by rw[bS.1];exact H.1⟩
   simp[MI];omega
  have aj:j=n:=by omega
  have d3:decide ((n:Int)-1-(j:Int)≥0)=false:=decide_eq_false (by omega);have d4:decide (0<=(n:Int)-1-(j:Int))=false:=decide_eq_false (by omega);have hs:=u.1;rw[aj,←J.1,List.take_length]at hs;have HV:=Hd (hs.owned 1 rfl);have cd:=Hd hs.bel;rw[aj,←J.1];rw[aj,←J.1]at d3 d4;clear hs aj;go_wp2;go_ret;exact⟨_,_,_,rfl,by rw[bK.1];exact HV.1,cd.1⟩
 have d1:decide (xd>0)=true:=decide_eq_true (by omega);have d2:decide (0<xd)=true:=decide_eq_true (by omega);obtain⟨y,a1,a0,R,bU,ad,al⟩:=tq Z.1 aQ.1 hx (by rw[I];omega);have a5:=Hd a1;have aA:=Hd (vT Z.1 aQ.1 hx (by rw[I];omega) a0);rw[I]at al;have bN:=Hd (And.intro R (And.intro ad al));clear a1 a0 bU I hz R ad al;obtain⟨bG,oG,RA,m,mc,aY,bl,cG,rR⟩:=HG.1.rowsR (k:=x) (by rw[bZ.1];exact hx);have aw:=Hd rR.ints;have aL:=b9.1 x;rw[aw.1.1]at aL;have bW:=Hd aY;have bD:Hv (∀v,Below w.heap.size w v→v.cell? ⟨bG,oG+x,none⟩=some (.slice RA m mc)):=Hd<|fun v hv=>(hv.cell (p:=⟨bG,oG+x,none⟩) bl).trans cG
 have aP:Hv ((G[x]?.getD []).length=m):=Hd<|aw.1.1
 have br:Hv (∀z∈G[x]?.getD [],0<=z/\z<(N:Int)):=Hd<|Z.1.gin x hx
 clear aY rR cG;obtain rfl:=bW.1;obtain⟨bC,oC,a8,aO,a7⟩:=HC.1.2 (by omega);have b8:=Z.1.cin x hx;have bE:=Hd (a7 x hx);have bs:=Hd a8;have b4:Hv (∀z:Nat,jl C D x (z:Int)=(decide (0<=D[z]?.getD 0) && decide (D[z]?.getD 0+C[x]?.getD 0=xd))):=Hd<|fun z=>by unfold jl;rw[Int.toNat_natCast,ax.1]
 clear a8 a7;obtain rfl:=bs.1;generalize G[x]?.getD []=row at *;generalize C[x]?.getD 0=z at *;obtain⟨ch,cp⟩:=b8;go_wp2_with fail;clear cX lD
 go_loopw[10,11] (fun nv iv wr=>∃(i:Nat) (nx:Int),i<=m/\nv=.int .i64 nx/\iv=.int .i64 (i:Int)/\(nx=-1/\vK (jl C D x) row i∨nx=(y:Int))/\aD w wr [.cel (aI ((x:Int)::tl).reverse) (.slice A n c)]) (fun _ iv _=>m-(intOf iv).toNat)
 ·exact⟨0,-1,by omega,rfl,rfl,.inl ⟨rfl,fun j hj=>by omega⟩,u.1⟩
 obtain⟨i,nx,hi,rfl,rfl,Q,hs⟩:=hrel;obtain⟨u,aS⟩:=hd2 hs Q;have cG:=bD.1 _ hs.bel;have lG:=aJ hs.bel bl;have lD:=aJ hs.bel au;clear hs Q;by_cases aK:i<m/\nx=-1
 ·obtain⟨W,rfl⟩:=aK
  have Q:vK (jl C D x) row i:=by
   rcases aS.1 with h|h
   ·exact h.2
   omega
  have aH:=dT (by omega:i<m);have am:i<row.length:=by rw[aP.1];exact W
  have av:=br.1 _ (List.getElem_mem am);rw[show row[i]=row[i]?.getD 0 by rw[List.getElem?_eq_getElem am];rfl]at av;have aU:=Hd (Jh (p:=jl C D x) am Q);have a4:=Hd (yC Q);obtain⟨bR,oR,aF,bd,bk⟩:=aw.1.2 (by omega);have cR:=(u.1.bel.cell (p:=⟨bR,oR+i,none⟩) bd).trans (bk i W);have lR:=aJ u.1.bel bd;have bJ:=Hd aF;clear am aF bk Q;obtain rfl:=bJ.1;generalize row[i]?.getD 0=yv at *;obtain⟨Y,rfl⟩:∃Y:Nat,yv=(Y:Int):=⟨_,(Int.toNat_of_nonneg av.1).symm⟩;have a9:Y<N:=by omega
  have cY:=U.1 Y a9 _ u.1.bel;have cX:=U.1 x hx _ u.1.bel;rw[ax.1]at cX;have cC:=(u.1.bel.cell (p:=⟨bC,oC+x,none⟩) aO).trans bE.1;have lC:=aJ u.1.bel aO;have b5:=bY.1.le Z.1 a9;have V:=Hd (b4.1 Y)
  have b6:Hv (jl C D x (Y:Int)=true→(Y:Int)=(y:Int)):=Hd<|fun h=>by
   have h1:=aU.1 h;rw[a5.1]at h1;injection h1 with h1
   omega
  generalize D[Y]?.getD 0=yd at *;obtain⟨cu,ck⟩:=b5;obtain⟨i0,i1⟩:=ib (by omega:i<m);obtain⟨Y0,Y1⟩:=ib (by omega:Y<N);have ew:IntKind.i64.wrap (yd+z)=yd+z:=IntWalk.i64_in _ (by omega);clear av aU;go_upto_region 8 with fail;by_cases B:0<=yd
  ·have e1:decide (yd≥0)=true:=decide_eq_true B;have e2:decide (0<=yd)=true:=decide_eq_true B;by_cases K:yd+z=xd
   ·have e3:(yd+z==xd)=true:=by simp[K]
    have b0:=Hd (b6.1 (by rw[V.1,decide_eq_true B,decide_eq_true K];rfl));clear B K
    go_quiet (fail)
    clear cR lR cY cX lD cC lC cG lG;go_wp2;go_roundw
    ·exact⟨i+1,(Y:Int),by omega,rfl,by go_num,.inr b0.1,u.1.drewN _⟩
    simp[intOf];omega
   have e3:(yd+z==xd)=false:=by simp[K]
   have ar:=Hd (a4.1 (by rw[V.1,decide_eq_false K,Bool.and_false]));clear B K
   go_quiet (fail)
   clear cR lR cY cX lD cC lC cG lG;go_wp2;go_roundw
   ·exact⟨i+1,-1,by omega,rfl,by go_num,.inl ⟨rfl,ar.1⟩,u.1.drewN _⟩
   simp[intOf];omega
  have e1:decide (yd≥0)=false:=decide_eq_false (by omega);have e2:decide (0<=yd)=false:=decide_eq_false B;have ar:=Hd (a4.1 (by rw[V.1,decide_eq_false B];rfl));clear B
  go_quiet (fail)
  clear cR lR cY cX lD cC lC cG lG;go_wp2;go_roundw
  ·exact⟨i+1,-1,by omega,rfl,by go_num,.inl ⟨rfl,ar.1⟩,u.1.drewN _⟩
  simp[intOf];omega
 obtain⟨R,ad,al⟩:=bN.1
 have bV:nx=(y:Int):=by
  rcases aS.1 with⟨h1,h2⟩|h
  ·have bH:i=m:=by omega
   rw[bH,←aP.1]at h2;have h3:=Bw h2;rw[a5.1]at h3
   cases h3
  exact h
 subst bV;have dn:decide ((y:Int)<0)=false:=decide_eq_false (by omega);clear aK;have bc:Hv (∀v,Below w.heap.size w v→cellAt v gD oD (y:Int)=D[y]?.getD 0):=Hd<|fun v hv=>uJ (U.1 y R v hv)
 have a3:Hv (((y:Int)::(x:Int)::tl).reverse=((x:Int)::tl).reverse++[(y:Int)]):=Hd<|by show _=_;rw[List.reverse_cons]
 have HQ:Hv (lF G C D T=lF G C D y++(x:Int)::tl):=Hd<|by show _=_;rw[bg.1,aA.1,List.append_assoc];rfl
 generalize ((x:Int)::tl).reverse=rv at *;by_cases W:i<m
 ·have aH:=dT (by omega:i<m)
  go_wp2_with (at_builtin;refine bP rfl _ _ rfl _ (u.1.alloc _) 0 A n c rv (y:Int) _ (0,0) rfl rfl rfl (aG _ _) (by omega) ?_;intro g9 cap w9 S9 aW;have H:=Hd S9;clear S9)
  go_roundw
  ·exact⟨y,(x:Int)::tl,_,n+1,cap,rfl,rfl,R,ad,by omega,HQ.1,by rw[a3.1];exact H.1⟩
  case measure =>
   show(cellAt w9 gD oD (y:Int)).toNat<(cellAt _ gD oD (x:Int)).toNat;rw[bc.1 _ H.1.bel,af.1];omega
 have aH:=dF (by omega:m<=i)
 go_wp2_with (at_builtin;refine bP rfl _ _ rfl _ (u.1.alloc _) 0 A n c rv (y:Int) _ (0,0) rfl rfl rfl (aG _ _) (by omega) ?_;intro g9 cap w9 S9 aW;have H:=Hd S9;clear S9)
 go_roundw
 ·exact⟨y,(x:Int)::tl,_,n+1,cap,rfl,rfl,R,ad,by omega,HQ.1,by rw[a3.1];exact H.1⟩
 case measure =>
  show(cellAt w9 gD oD (y:Int)).toNat<(cellAt _ gD oD (x:Int)).toNat;rw[bc.1 _ H.1.bel,af.1];omega
end Go.Proofs.YtofihjoanjkdmaaGreat
