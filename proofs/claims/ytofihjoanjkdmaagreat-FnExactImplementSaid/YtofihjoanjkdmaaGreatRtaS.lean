/- Regions that draw their order and end in one operation that waits for all others, step by step. -/
import Derived.Lib.SliceRun
import Derived.Test.YtofihjoanjkdmaaGreatLayDM
import Derived.Test.YtofihjoanjkdmaaGreatLayS13
import Derived.Test.YtofihjoanjkdmaaGreatPthS
import Derived.Test.YtofihjoanjkdmaaGreatShC
namespace Go.Proofs.YtofihjoanjkdmaaGreat
set_option maxHeartbeats 8000000
set_option maxRecDepth 100000
open Go.RowKit
section
variable {P:Program} {l:List Oper} {Q:Exit→Act→World→Prop} {S:World→Prop} {n:Nat}
def Ak(P:Program)(l:List Oper)(Q:Exit→Act→World→Prop)(S:World→Prop)(n:Nat):Nat→Array Bool→Act→World→Prop
 | 0,d,a,w=>Region.ready .any l.toArray d=[]/\Q .normal a w
 | f+1,d,a,w=>(Region.ready .any l.toArray d=[]→Q .normal a w)/\∀i∈Region.ready .any l.toArray d,wpOp P l.toArray Q i (fun g w'=>(i<n→S w')/\Ak P l Q S n f (d.setIfInBounds i true) g w') a w
theorem FK:∀(f:Nat) (d:Array Bool) (a:Act) (w:World),Ak P l Q S n f d a w→wpAny P .any l.toArray Q f d a w
 | 0,_,_,_,h=>h
 | f+1,_,_,_,h=>⟨h.1,fun i hi=>wpOp_mono (fun g w' k=>FK f _ g w' k.2) (h.2 i hi)⟩
theorem Ba{d:Array Bool}{i:Nat}(h:d.getD i true=false):d.getD i false=false:=by
 rcases Nat.lt_or_ge i d.size with h1|h1
 ·simp[h1]at h ⊢;exact h
 simp[Array.getElem?_eq_none h1]at h
def xq(l:List Oper)(n:Nat):Bool:=Region.noSelect l.toArray && (List.range l.length).all fun m=>decide (m<n) || match l[m]? with
 | some o=>(List.range n).all fun i=>o.after.toList.any fun e=>Region.binds .any e && e.on==i
 | none=>false
theorem IX(h:xq l n=true):Region.noSelect l.toArray=true/\∀m,n<=m→∀i,i<n→∀d:Array Bool,d.getD i true=false→m∉Region.ready .any l.toArray d:=by
 unfold xq at h;simp only[Bool.and_eq_true]at h;refine⟨h.1,fun m hm i hi d hd hr=>?_⟩;obtain⟨_,o,ho,g⟩:=mem_ready.1 hr;have hl:=(Array.getElem?_eq_some_iff.1 ho).1;rw[List.size_toArray]at hl;have h3:=List.all_eq_true.1 h.2 m (List.mem_range.2 hl);rw[List.getElem?_toArray]at ho;rw[ho,decide_eq_false (by omega:¬m<n),Bool.false_or]at h3;obtain⟨e,he,hb⟩:=List.any_eq_true.1 (List.all_eq_true.1 h3 i (List.mem_range.2 hi));simp only[Bool.and_eq_true,beq_iff_eq]at hb;have j:=g e (Array.mem_toList_iff.1 he) hb.1;rw[hb.2,Ba hd]at j
 cases j
theorem nG{id:Nat}{a:Act}{w:World}(n:Nat)(S:World→Prop)(g:S w.drew)(h:xq l n=true→S w.drew→Ak P l Q S n l.length (Array.replicate l.length false) a w.drew)
  (j:xq l n=true:=by kernel_rfl) (hm:P.follows .mixedOrders=true:=by kernel_rfl):(Code.region id l.toArray true).wp P Q a w :=
 wp_region_any hm (FK _ _ _ _ (h j g))
theorem IY{i:Nat}{D:Oper}{v:Value}(hB:xq l n=true)(hi:l.toArray[i]?=some D)(ah:i<n)
  (hQ:∀c a w,Q (.panic c) (a.put D.dst v) w→Q (.panic c) a w):∀(f:Nat) (d:Array Bool) (a:Act) (w:World),
   (∀j u,l.toArray[j]?=some u→j≠i→d.getD j true=false→(∀e∈u.after,Region.binds .any e=true→e.on≠i)→D.apart l.toArray u=true) →
   i∈Region.ready .any l.toArray d→YieldsIf P l.toArray S D v a→S w →
   Ak P l Q S n f (d.setIfInBounds i true) (a.put D.dst v) w→Ak P l Q S n (f+1) d a w:=by
 obtain⟨V,B⟩:=IX hB;have I:=Region.noSelect_spec V;intro f
 induction f with
 | zero =>
  intro d a w _ hr Z Y H;refine⟨fun h=>(by rw[h]at hr;cases hr),fun j hj=>?_⟩;by_cases g:j=i
  ·subst g;exact Z.wpOp hi Y ⟨fun _=>Y,H⟩
  ·have:=ready_mono hj g;rw[H.1]at this
   cases this
 | succ f ih =>
  intro d a w q hr Z Y H;refine⟨fun h=>(by rw[h]at hr;cases hr),fun j hj=>?_⟩;by_cases g:j=i
  ·subst g;exact Z.wpOp hi Y ⟨fun _=>Y,H⟩
  have W:=(mem_ready.1 hr).1;obtain⟨K,u,z,U⟩:=mem_ready.1 hj;have ag:j<n:=Nat.lt_of_not_le fun h2=>B j h2 i ah d W hj
  have R:∀e∈u.after,Region.binds .any e=true→e.on≠i:=fun e he hb ae=>by
   have h1:=U e he hb;rw[ae,Ba W]at h1
   cases h1
  have h2:=wpOp_putIf z (q j u z g K R) (fun cs b=>I i D cs b hi) (fun cs b=>I j u cs b z) hQ Z (H.2 j (ready_mono hj g));refine wpOp_mono (fun a' w' h3=>⟨h3.2.1,ih (d.setIfInBounds j true) a' w' (fun k ok hk ad G af=>?_) (ready_mono hr (Ne.symm g)) h3.1 (h3.2.1 ag) ?_⟩) h2
  ·refine q k ok hk ad ?_ af;by_cases J:j=k
   ·subst J;exact K
   rw[getD_set_ne true J]at G;exact G
  rw[Array.setIfInBounds_comm _ _ g];exact h3.2.2
theorem onT{g:Oper}{v:Value}{f:Nat}{d:Array Bool}{a q:Act}{w:World}(B:xq l n=true)(i:Nat)(hi:l.toArray[i]?=some g)(H:S w)(h:Ak P l Q S n f (d.setIfInBounds i true) q w)
  (G:∀w,S w→(execOp a.eval g).run P w=.ok (.value v) w:=by(intro w j;(try dsimp only at j);go_simp) <;> with_reducible rfl)
  (hc:(decide (i<n) && Region.free .any l.toArray d i && (Region.ready .any l.toArray d).contains i)=true:=by kernel_rfl) (u:Region.wanted g (yielded l.toArray a.tmps)=true:=by rfl)
  (z:a.put g.dst v=q:=by(try simp only[Act.put,List.setIfInBounds_toArray,List.set_cons_zero,List.set_cons_succ]);exact rfl)
  (D:∀c a w,Q (.panic c) (a.put g.dst v) w→Q (.panic c) a w:=by exact fun _ _ _ h=>h):Ak P l Q S n (f+1) d a w:=by
 subst z;simp only[Bool.and_eq_true,decide_eq_true_eq]at hc;have hr:i∈Region.ready .any l.toArray d:=by simpa using hc.2
 exact IY B hi hc.1.1 D f d a w (Region.free_spec hi hc.1.2) hr (.inl ⟨u,G⟩) H h
theorem sV{g:Oper}{f:Nat}{d:Array Bool}{a:Act}{w:World}(_hT:xq l n=true)(i:Nat)(hi:l.toArray[i]?=some g)
  (h:∀q:Act→World→Prop,Shut (∀a w,S w→(S w→Ak P l Q S n f (d.setIfInBounds i true) a w)→q a w)→if Region.wanted g (yielded l.toArray a.tmps)=true then Oper.wp P g a w q Q else q (a.put g.dst undef) w)
  (hc:(decide (i<n) && decide (Region.ready .any l.toArray d=[i]))=true:=by kernel_rfl):Ak P l Q S n (f+1) d a w:=by
 simp only[Bool.and_eq_true,decide_eq_true_eq]at hc;have hr:i∈Region.ready .any l.toArray d:=by rw[hc.2];exact List.mem_singleton.2 rfl
 refine⟨fun h0=>(by rw[h0]at hr;cases hr),fun j hj=>?_⟩;rw[hc.2,List.mem_singleton]at hj;subst hj;exact wpOp_step hi fun K z=>h K fun a w u B=>z a w ⟨fun _=>u,B u⟩
theorem FL{g:Oper}{f:Nat}{d:Array Bool}{a:Act}{w:World}(_hT:xq l n=true)(i:Nat)(hi:l.toArray[i]?=some g)(h:wpList P l.toArray Q [g] a w)
  (hc:(decide (f=0) && decide (n<=i) && decide (Region.ready .any l.toArray d=[i]) && decide (Region.ready .any l.toArray (d.setIfInBounds i true)=[]))=true:=by kernel_rfl):Ak P l Q S n (f+1) d a w:=by
 simp only[Bool.and_eq_true,decide_eq_true_eq]at hc;obtain⟨⟨⟨rfl,h1⟩,h2⟩,h3⟩:=hc;have hr:i∈Region.ready .any l.toArray d:=by rw[h2];exact List.mem_singleton.2 rfl
 refine⟨fun h0=>(by rw[h0]at hr;cases hr),fun j hj=>?_⟩;rw[h2,List.mem_singleton]at hj;subst hj;exact wpOp_mono (K:=fun a w=>Q .normal a w) (fun q w' hq=>⟨fun h=>absurd h (by omega),h3,hq⟩) (by unfold wpOp;rw[hi];exact h)
end
theorem xu{G:List (List Int)}{C:List Int}{source:Int}{sinks:List Int}{k:Nat}{r:Rou}(h:growTo G C source sinks k=some r):growTo G C source sinks (k+1)=growOne G C r (sinks[k]?.getD 0):=by
 rw[growTo,h];rfl
theorem zT{G:List (List Int)}{C:List Int}{r:Rou}{s:Int}(h:s∈r.nodes):growOne G C r s=some r:=by unfold growOne;rw[if_pos h]
theorem zU{G:List (List Int)}{C:List Int}{r:Rou}{s:Int}(h:s∉r.nodes)(hd:(distF G C r.nodes)[s.toNat]?.getD 0=-1):growOne G C r s=none:=by unfold growOne;rw[if_neg h,if_pos hd]
theorem xw{G:List (List Int)}{C:List Int}{r:Rou}{s:Int}(h:s∉r.nodes)(hd:(distF G C r.nodes)[s.toNat]?.getD 0≠-1):growOne G C r s=some (jy r (lF G C (distF G C r.nodes) s.toNat)):=by unfold growOne;rw[if_neg h,if_neg hd]
theorem Bc{xs:List Int}{x:Int}{i:Nat}:jU xs x (i+1)=if xs[i]?.getD 0=x then i else jU xs x i:=rfl
def frV(a n q:Nat):Int:=if q=0 then(a:Int)else((n+q-1:Nat):Int)
theorem Be(a n i:Nat):iR a n (i+1)=iR a n i++[frV a n i]:=rfl
theorem FM(a n i:Nat):frV a n (i+1)=((n+i:Nat):Int):=by unfold frV;rw[if_neg (by omega)];rfl
theorem aD.ord4{W w:World}{a b c d:Pc}(h:aD W w [a,b,c,d]):aD W w [d,a,c,b] :=
 h.perm ((List.perm_append_comm (l₁:=[a,b,c]) (l₂:=[d])).trans (((List.Perm.swap c b []).cons a).cons d))
theorem Al(N:Nat)(G K:List (List Int))(C ks:List Int)(u:Nat)(gG:Nat)(CA SA:Oh)(cc sn sc:Nat)(w:World)(hG:wI w gG N G K)(hC:bT w CA N C)(hS:bT w SA sn ks)(hg:jW N G C [])(hN:0<N)(hr:∀x:Nat,(G[x]?.getD []).length<=26)(cA:sn<=1048576)(cx:u<N)(a9:∀s∈ks,0<=s/\s<(N:Int))(hK:KOk N G K) :
  Calls Tryz.prog 191 #[.pointer (some ⟨gG,0,none⟩),.slice CA N cc,.int .i64 (u:Int),.slice SA sn sc] w fun e w'=>(growF G C (u:Int) ks=none/\e=.returned (.tuple #[.agg #[.slice none 0 0,.slice none 0 0],.bool false])/\aD w w' [])∨(∃r A n c B e',growF G C (u:Int) ks=some r/\pu N r/\e=.returned (.tuple #[.agg #[.slice A n c,.slice B n e'],.bool true])/\aD w w' [.cel (aI r.nodes) (.slice A n c),.cel (aI r.from_) (.slice B n e')]):=by
 have bQ:=Hd (fun(v:World) (hv:Below w.heap.size w v) (S:List Int) (RA:Oh) (rn rc T:Nat) (I:bT v RA rn S) (j:∀s∈S,0<=s/\s<(N:Int)) (Y:rn<=1048576) (hT:T<N)=>xK N G K C S T gG CA RA cc rn rc v (hG.below hv) (hC.below hv) I (hg.starts j) hN hK hr Y hT);have bG:=Hd hS;have au:Hv (ks.length=sn):=Hd<|hS.1
 obtain⟨b9,b4⟩:=hd2 hg a9;have ce:=hg.nle;have bj:Hv (growF G C (u:Int) ks=growTo G C (u:Int) ks ks.length):=Hd<|rfl
 clear hG hC hS hg hK hr a9;obtain⟨D,ad⟩:∃g,w.heap.size=g:=⟨_,rfl⟩;have h0:=(((((aD.refl w).pushBlk #[.slice none 0 0,.slice none 0 0] 114).consLit (u:Int)).consLit 0).consBlk #[.slice (some ⟨D+1,0,none⟩) 1 1,.slice (some ⟨D+1+1,0,none⟩) 1 1] 114);simp only[World.size_alloc,ad]at h0
 (try rw[ad])
 have a3:Hv (aD w ((((w.alloc (.cells #[.slice none 0 0,.slice none 0 0] 114)).alloc (.cells #[.int .i64 (u:Int)] 3)).alloc (.cells #[.int .i64 0] 3)).alloc (.cells #[.slice (some ⟨D+1,0,none⟩) 1 1,.slice (some ⟨D+1+1,0,none⟩) 1 1] 114)) [.blk D #[.slice none 0 0,.slice none 0 0] 114,.blk (D+1+1+1) #[.slice (some ⟨D+1,0,none⟩) 1 1,.slice (some ⟨D+1+1,0,none⟩) 1 1] 114,.cel (aI ((⟨[(u:Int)],[0]⟩:Rou).nodes)) (.slice (some ⟨D+1,0,none⟩) 1 1),.cel (aI ((⟨[(u:Int)],[0]⟩:Rou).from_)) (.slice (some ⟨D+1+1,0,none⟩) 1 1)]):=Hd h0.ord4;clear h0;go_enter Tryz.func191,Tryz.ntmps191;go_upto_region 2 with fail
 (try rw[ad])
 clear ad;obtain⟨gB,az⟩:∃g,D+1+1+1=g:=⟨_,rfl⟩;rw[az]at a3
 (try rw[az])
 clear az;generalize (((w.alloc (.cells #[.slice none 0 0,.slice none 0 0] 114)).alloc (.cells #[.int .i64 (u:Int)] 3)).alloc (.cells #[.int .i64 0] 3)).alloc (.cells #[.slice (some ⟨D+1,0,none⟩) 1 1,.slice (some ⟨D+1+1,0,none⟩) 1 1] 114)=W1 at *;go_wp2
 go_loopw[25] (fun kv wr=>∃(k:Nat) (r:Rou) (A:Oh) (n c:Nat) (B:Oh) (e':Nat),k<=sn/\kv=.int .i64 (k:Int)/\growTo G C (u:Int) ks k=some r/\pu N r/\aD w wr [.blk D #[.slice none 0 0,.slice none 0 0] 114,.blk gB #[.slice A n c,.slice B n e'] 114,.cel (aI (r.nodes)) (.slice A n c),.cel (aI (r.from_)) (.slice B n e')]) (fun kv _=>sn-(intOf kv).toNat)
 ·exact⟨0,_,_,1,1,_,1,by omega,rfl,rfl,pu.root (by omega),a3.1⟩
 obtain⟨k,r,A,n,c,B,e',hk,rfl,bo,aB,hs⟩:=hrel;obtain⟨HS,aT,R⟩:=hd3 hs bo aB;have ai:Hv (r.nodes.length=n):=Hd<|(hs.ints 2 rfl).1
 have bE:=aB.le;rw[ai.1]at bE;have al:=Hd hs.bel;clear hs bo aB;by_cases ay:k<sn
 ·have bO:=dT (by omega:k<sn);have aM:k<ks.length:=by rw[au.1];exact ay
  have br:=b4.1 _ (List.getElem_mem aM);rw[show ks[k]=ks[k]?.getD 0 by rw[List.getElem?_eq_getElem aM];rfl]at br;have aO:=Hd (xu aT.1);obtain⟨bs,os,bg,bk,bh⟩:=bG.1.2 (by omega);have bD:Hv (∀v,Below w.heap.size w v→v.cell? ⟨bs,os+k,none⟩=some (.int .i64 (ks[k]?.getD 0))/\bs<v.heap.size):=Hd<|fun v hv=>⟨(hv.cell (p:=⟨bs,os+k,none⟩) bk).trans (bh k ay),aJ hv bk⟩
  have bN:=Hd bg;clear aM bg bh;obtain rfl:=bN.1;generalize ks[k]?.getD 0=sv at *;obtain⟨s,rfl⟩:∃s:Nat,sv=(s:Int):=⟨_,(Int.toNat_of_nonneg br.1).symm⟩;have aY:s<N:=by omega
  obtain⟨k0,k1⟩:=ib (by omega:k<sn);obtain⟨cs,ls⟩:=bD.1 _ al.1;obtain⟨b0,lb⟩:=yU (HS.1.blk 1 rfl).1;go_wp2_with fail;refine(mZ A n c r.nodes (s:Int) _ (HS.1.ints 2 rfl) (by omega)).mono ?_;rintro _ _ ⟨rfl,rfl⟩;by_cases j:(s:Int)∈r.nodes
  ·rw[decide_eq_true j];have HN:Hv (growTo G C (u:Int) ks (k+1)=some r):=Hd<|by show _=_;rw[aO.1,zT j]
   clear j;go_wp2;go_roundw
   ·exact⟨k+1,r,A,n,c,B,e',by omega,by go_num,HN.1,R.1,HS.1⟩
   simp[intOf];omega
  rw[decide_eq_false j];have ar:=Hd j;clear j cs ls;go_wp2_with fail;refine(bQ.1 _ al.1 r.nodes A n c s (HS.1.ints 2 rfl) R.1.inn (by omega) aY).mono ?_;rintro e5 w5 ⟨aQ,b5⟩;have ah:=Hd (HS.1.below b5);have cB:=Hd (ah.1.bel);clear b0 lb
  rcases aQ with⟨hd,rfl⟩|⟨hd,gP,pn,pc,rfl,oP⟩
  ·have bJ:Hv (growF G C (u:Int) ks=none):=Hd<|by
    show _=_;rw[bj.1];refine uA (k:=k+1) ?_ (by rw[au.1];exact ay);rw[aO.1];exact zU ar.1 (by rw[Int.toNat_natCast];exact hd)
   have hq:∀W,(binOp .eql 26 (.slice none 0 0) (.slice none 0 0)).run Tryz.prog W=.ok (.bool true) W:=fun W=>Lib.run_eql_slice_nil W 26 3 _ _ _ _ _ Tryz.underlying26;clear hd;have I:=(ah.1.blk 0 rfl).1;obtain⟨r0,r1⟩:=cs2 I;have b2:=aN I 0;have bB:=aN I 1;have lr:=aH I;have aF:=Hd I;have al:=Hd ((ah.1.put 0 rfl 0 (.slice none 0 0)).put 0 rfl 1 (.slice none 0 0)).bel;clear I;go_wp2_with fail;refine bodyPost_ret (v := .tuple #[.agg #[.slice none 0 0,.slice none 0 0],.bool false]) (dE Tryz.results191 rfl (fC (fC aF.1 (.slice none 0 0) rfl) (.slice none 0 0) rfl) Tryz.underlying114 (by kernel_rfl)) rfl (.inl ⟨bJ.1,rfl,aD.nil al.1⟩)
  have hq:∀W,(binOp .eql 26 (.slice (some ⟨gP,0,none⟩) pn pc) (.slice none 0 0)).run Tryz.prog W=.ok (.bool false) W:=fun W=>Lib.run_eql_slice_nil W 26 3 _ _ _ _ _ Tryz.underlying26;obtain⟨p,t,av,a6,bC,Y⟩:=xW b9.1 R.1 aY hd;have Z:Hv (growTo G C (u:Int) ks (k+1)=some (jy r (p::t))):=Hd<|by show _=_;rw[aO.1,xw ar.1 (by rw[Int.toNat_natCast];exact hd),Int.toNat_natCast,av]
  have aj:=Hd Y;have ak:=Y.le;rw[av]at oP;have HO:=Hd oP.ints;have aZ:=oP.len;have H:=Hd (HS.1.pushOwn b5 oP);have bm:Hv (jy r (p::t)=⟨r.nodes++t,r.from_++iR (jU r.nodes p n) n t.length⟩):=Hd<|by show _=_;unfold jy;rw[ai.1];rfl
  rw[bm.1]at ak Z aj;have bt:t.length+1=pn:=by simpa using aZ
  have ag:=Hd bt;simp only[List.length_append,ai.1]at ak;clear hd av a6 bC Y oP aZ bt ah bm;obtain⟨rn,rf⟩:=r;simp only at ai Z aj ar R H ak;obtain⟨bp,op,aA,aV,be⟩:=HO.1.2 (by have:=ag.1;omega);injection aA with aA
  injection aA with hp1 hp2
  subst hp1 hp2;have bc:Hv (∀i:Nat,i<pn→∀v,Below w5.heap.size w5 v→v.cell? ⟨gP,0+i,none⟩=some (.int .i64 ((p::t)[i]?.getD 0))/\gP<v.heap.size):=Hd<|fun i hi v hv=>⟨(hv.cell (p:=⟨gP,0+i,none⟩) aV).trans (be i hi),aJ hv aV⟩
  have cb:=Hd (H.1.ints 2 rfl);clear be;obtain⟨b0,lb⟩:=yU (H.1.blk 1 rfl).1;go_wp2_with fail;clear hq b0 lb
  go_loopw[14,45] (fun fv iv wr=>∃i:Nat,i<=n/\fv=.int .i64 (jU rn p i:Int)/\iv=.int .i64 (i:Int)/\w5=wr) (fun _ iv _=>n-(intOf iv).toNat)
  ·exact⟨0,by omega,rfl,rfl,rfl⟩
  obtain⟨i,hi,rfl,rfl,rfl⟩:=hrel;by_cases bl:i<n
  ·have aU:=dT (by omega:i<n);obtain⟨bn,on,aW,ct,Q⟩:=cb.1.2 (by omega);have cn:=Q i bl;obtain⟨bL,cC⟩:=bc.1 0 (by have:=ag.1;omega) _ (Below.refl _ _);have bK:=Hd aW;have bd:=Hd (Bc (xs:=rn) (x:=p) (i:=i));simp only[List.getElem?_cons_zero,Option.getD_some,Nat.add_zero]at bL;obtain⟨i0,i1⟩:=ib (by omega:i<n);have ck:(0:Int)<(pn:Int):=by have:=ag.1;omega
   clear aW Q;obtain rfl:=bK.1;generalize rn[i]?.getD 0=y at *;by_cases J:y=p
   ·have dy:(y==p)=true:=by simp[J]
    have aP:Hv (jU rn p (i+1)=i):=Hd<|by show _=_;rw[bd.1,if_pos J]
    clear J;go_wp2;go_roundw
    ·exact⟨i+1,by omega,by rw[aP.1],by go_num,by first|rfl|trivial⟩
    simp[intOf];omega
   have dy:(y==p)=false:=by simp[J]
   have aP:Hv (jU rn p (i+1)=jU rn p i):=Hd<|by show _=_;rw[bd.1,if_neg J]
   clear J;go_wp2;go_roundw
   ·exact⟨i+1,by omega,by rw[aP.1],by go_num,by first|rfl|trivial⟩
   simp[intOf];omega
  have am:i=n:=by omega
  have aU:=dF (by omega:n<=i);have bV:=xV rn p n;obtain⟨at_,ax⟩:∃a,jU rn p n=a:=⟨_,rfl⟩;rw[ax]at Z aj bV;rw[am,ax];obtain⟨m,hm⟩:∃m,t.length=m:=⟨_,rfl⟩;rw[hm]at ak;have HM:=Hd hm;have b7:pn=m+1:=by have:=ag.1;omega
  subst b7;have cl:=(H.1.cap 4 (by rfl)).1;have s1:(1:Int)<=((m+1:Nat):Int):=by omega
  have s2:((m+1:Nat):Int)<=(pc:Int):=by omega
  have s3:(1:Int)<=(m:Int)+1:=by omega
  have s4:(m:Int)+1<=(pc:Int):=by omega
  have ao:Hv (aD w w5 [.blk D #[.slice none 0 0,.slice none 0 0] 114,.blk gB #[.slice A n c,.slice B n e'] 114,.cel (aI (rn++t.take 0)) (.slice A n c),.cel (aI (rf++iR at_ n 0)) (.slice B n e'),.cel (aI (p::t)) (.slice (some ⟨gP,0,none⟩) (m+1) pc)]):=Hd<|by
   show aD _ _ _;rw[List.take_zero,List.append_nil,show iR at_ n 0=[] from rfl,List.append_nil];exact H.1
  clear am ax hm hi aU;by_cases cp:pc=1
  ·have a2:m=0:=by omega
   have a8:Hv (growTo G C (u:Int) ks (k+1)=some ⟨rn,rf⟩):=Hd<|by
    show _=_;have ht:t=[]:=List.eq_nil_of_length_eq_zero (by rw[HM.1,a2]);have h:=Z.1;rw[ht]at h
    simpa [iR]using h
   have dm:decide ((0:Int)<(m:Int))=false:=decide_eq_false (by omega);have b6:=Hd (H.1.sub (List.sublist_append_left [_,_,_,_] [_]));clear a2 ao;go_wp2
   go_loopw[14,60] (fun fv qv wr=>fv=.int .i64 (at_:Int)/\qv=.int .i64 0/\w5=wr) (fun _ _ _=>0)
   ·exact⟨rfl,rfl,rfl⟩
   obtain⟨rfl,rfl,rfl⟩:=hrel;go_wp2;go_roundw
   ·exact⟨k+1,⟨rn,rf⟩,A,n,c,B,e',by omega,by go_num,a8.1,R.1,b6.1⟩
   simp[intOf];omega
  clear H;go_wp2
  go_loopw[14,60] (fun fv qv wr=>∃(q:Nat) (A:Oh) (c:Nat) (B:Oh) (e':Nat),q<=m/\fv=.int .i64 (frV at_ n q)/\qv=.int .i64 (q:Int)/\aD w wr [.blk D #[.slice none 0 0,.slice none 0 0] 114,.blk gB #[.slice A (n+q) c,.slice B (n+q) e'] 114,.cel (aI (rn++t.take q)) (.slice A (n+q) c),.cel (aI (rf++iR at_ n q)) (.slice B (n+q) e'),.cel (aI (p::t)) (.slice (some ⟨gP,0,none⟩) (m+1) pc)]) (fun _ qv _=>m-(intOf qv).toNat)
  ·exact⟨0,A,c,B,e',by omega,rfl,rfl,ao.1⟩
  obtain⟨q,A,c,B,e',hq,rfl,rfl,hs⟩:=hrel;have HX:=Hd hs;clear hs;by_cases a5:q<m
  ·have bM:=dT (by omega:q<m);have bu:q<t.length:=by rw[HM.1];exact a5
   have bY:=Hd (bF (z:=0) bu);have bA:=Hd (Be at_ n q);have bW:=Hd (FM at_ n q);obtain⟨bq,oq,aL,cd,a0⟩:=(HX.1.ints 4 rfl).2 (by omega);injection aL with aL
   injection aL with hq1 hq2
   subst hq1 hq2;have cq:=a0 (q+1) (by omega);rw[List.getElem?_cons_succ,Nat.zero_add,Nat.add_comm q 1]at cq;obtain⟨b0,b1,lb⟩:=iC (HX.1.blk 1 rfl).1;obtain⟨q0,q1⟩:=ib (by omega:q<m);clear bu a0;generalize t[q]?.getD 0=y at *;generalize frV at_ n q=fv at *
   go_upto_region 20 with(at_builtin;refine bP rfl _ _ rfl _ (HX.1.alloc _) 2 A (n+q) c (rn++t.take q) y _ (0,0) rfl rfl rfl (aG _ _) (by omega) ?_;intro g9 cap w9 V bR;have l9:=aC (k:=0) (V.blk 1 rfl).1 rfl;have f9:=aN (V.blk 1 rfl).1 0;have q9:=aH (V.blk 1 rfl).1;have U:=Hd (V.put 1 rfl 0 (.slice (some ⟨g9,0,none⟩) ((n+q)+1) cap));clear V)
   clear l9 f9 q9 b0 b1 lb cq cd;generalize w9.setCell ⟨gB,0,none⟩ (.slice (some ⟨g9,0,none⟩) (n+q+1) cap)=W8 at *;obtain⟨gn,aE⟩:∃x,x=g9:=⟨g9,rfl⟩;obtain⟨cn,Q⟩:∃x,x=cap:=⟨cap,rfl⟩;rw[←aE,←Q]at U;have HX:=Hd U.1;rw[←aE,←Q];clear U aE Q;obtain⟨-,b1,lb⟩:=iC (HX.1.blk 1 rfl).1
   go_upto_region 21 with(at_builtin;refine bP rfl _ _ rfl _ (HX.1.alloc _) 3 B (n+q) e' (rf++iR at_ n q) fv _ (0,0) rfl rfl rfl (aG _ _) (by omega) ?_;intro g9 cap w9 V bR;have l9:=aC (k:=1) (V.blk 1 rfl).1 rfl;have f9:=aN (V.blk 1 rfl).1 1;have q9:=aH (V.blk 1 rfl).1;have U:=Hd (V.put 1 rfl 1 (.slice (some ⟨g9,0,none⟩) ((n+q)+1) cap));clear V)
   clear l9 f9 q9 b1 lb;generalize w9.setCell ⟨gB,1,none⟩ (.slice (some ⟨g9,0,none⟩) (n+q+1) cap)=W9 at *;obtain⟨b0,lb⟩:=yU (U.1.blk 1 rfl).1;have en:((n+q+1:Nat):Int)-1=((n+q:Nat):Int):=by omega
   go_wp2;go_roundw
   ·exact⟨q+1,_,_,_,_,by omega,by rw[bW.1];go_num,by go_num,by rw[bY.1,←List.append_assoc,bA.1,←List.append_assoc];exact U.1⟩
   simp[intOf];omega
  have a4:q=m:=by omega
  have bM:=dF (by omega:m<=q);have hx:=HX.1.sub (List.sublist_append_left [_,_,_,_] [_]);rw[a4,←HM.1,List.take_length]at hx;have bz:=Hd hx;clear hx a4 HX;go_wp2;go_roundw
  ·exact⟨k+1,⟨rn++t,rf++iR at_ n t.length⟩,A,n+t.length,c,B,e',by omega,by go_num,Z.1,aj.1,bz.1⟩
  simp[intOf];omega
 have aX:k=sn:=by omega
 have bO:=dF (by omega:sn<=k);have bv:Hv (growF G C (u:Int) ks=some r):=Hd<|by show _=_;rw[bj.1,au.1,←aX];exact aT.1
 have I:=(HS.1.blk 0 rfl).1;obtain⟨r0,r1⟩:=cs2 I;have b2:=aN I 0;have bB:=aN I 1;have lr:=aH I;have aF:=Hd I;obtain⟨b0,b1,lb⟩:=iC (HS.1.blk 1 rfl).1;have bf:=Hd ((HS.1.put 0 rfl 0 (.slice A n c)).put 0 rfl 1 (.slice B n e')).tail.tail;clear I aX;go_wp2_with fail;refine bodyPost_ret (v := .tuple #[.agg #[.slice A n c,.slice B n e'],.bool true]) (dE Tryz.results191 rfl (fC (fC aF.1 (.slice A n c) rfl) (.slice B n e') rfl) Tryz.underlying114 (by kernel_rfl)) rfl (.inr ⟨r,A,n,c,B,e',bv.1,R.1,rfl,bf.1⟩)
theorem FN(N:Nat)(G:List (List Int))(C ks:List Int)(Q:Nat)(GA CA SA:Oh)(gc cc sn sc:Nat)(w:World)(hG:RdC w w.heap.size (mG G) (.slice GA N gc))(hC:bT w CA N C)(hS:bT w SA sn ks)(hg:jW N G C [])(hN:0<N)(hr:∀x:Nat,(G[x]?.getD []).length<=26)(dt:sn<=1048576)(dm:Q<N)(bu:∀s∈ks,0<=s/\s<(N:Int)) :
  Calls Tryz.prog 170 #[.slice GA N gc,.slice CA N cc,.int .i64 (Q:Int),.slice SA sn sc] w fun e w'=>(growF G C (Q:Int) ks=none/\e=.returned (.tuple #[.agg #[.slice none 0 0,.slice none 0 0],.bool false])/\aD w w' [])∨(∃r A n c B e',growF G C (Q:Int) ks=some r/\pu N r/\e=.returned (.tuple #[.agg #[.slice A n c,.slice B n e'],.bool true])/\aD w w' [.cel (aI r.nodes) (.slice A n c),.cel (aI r.from_) (.slice B n e')]):=by
 have b9:=Hd (fun(v:World) (hv:Below w.heap.size w v) (S:List Int) (RA:Oh) (rn rc:Nat) (U:bT v RA rn S) (j:∀s∈S,0<=s/\s<(N:Int)) (aq:rn<=1048576)=>xJ N G C S GA CA RA gc cc rn rc v (hG.below hv) (hC.below hv) U (hg.starts j) hN hr aq);have cg:=Hd (fun(v:World) (hv:Below w.heap.size w v) (S D:List Int) (T:Nat) (DA:Oh) (dc:Nat) (J:bT v DA N D) (j:∀s∈S,0<=s/\s<(N:Int)) (hi:jk G C S D) (hd:DI N G C S D) (hT:T<N) (h0:0<=D[T]?.getD 0)=>GK N G C S D T GA CA DA gc cc dc v (hG.below hv) (hC.below hv) J (hg.starts j) hi hd hr hT h0);have ck:=Hd hS;have aT:Hv (ks.length=sn):=Hd<|hS.1
 obtain⟨a6,cH⟩:=hd2 hg bu;have cQ:=hg.nle;have bC:Hv (growF G C (Q:Int) ks=growTo G C (Q:Int) ks ks.length):=Hd<|rfl
 clear hG hC hS hg hr bu;obtain⟨u,av⟩:∃g,w.heap.size=g:=⟨_,rfl⟩;have h0:=(((((aD.refl w).pushBlk #[.slice none 0 0,.slice none 0 0] 114).consLit (Q:Int)).consLit 0).consBlk #[.slice (some ⟨u+1,0,none⟩) 1 1,.slice (some ⟨u+1+1,0,none⟩) 1 1] 114);simp only[World.size_alloc,av]at h0
 (try rw[av])
 have bl:Hv (aD w ((((w.alloc (.cells #[.slice none 0 0,.slice none 0 0] 114)).alloc (.cells #[.int .i64 (Q:Int)] 3)).alloc (.cells #[.int .i64 0] 3)).alloc (.cells #[.slice (some ⟨u+1,0,none⟩) 1 1,.slice (some ⟨u+1+1,0,none⟩) 1 1] 114)) [.blk u #[.slice none 0 0,.slice none 0 0] 114,.blk (u+1+1+1) #[.slice (some ⟨u+1,0,none⟩) 1 1,.slice (some ⟨u+1+1,0,none⟩) 1 1] 114,.cel (aI ((⟨[(Q:Int)],[0]⟩:Rou).nodes)) (.slice (some ⟨u+1,0,none⟩) 1 1),.cel (aI ((⟨[(Q:Int)],[0]⟩:Rou).from_)) (.slice (some ⟨u+1+1,0,none⟩) 1 1)]):=Hd h0.ord4;clear h0;go_enter Tryz.func170,Tryz.ntmps170;go_upto_region 2 with fail
 (try rw[av])
 clear av;obtain⟨W,aX⟩:∃g,u+1+1+1=g:=⟨_,rfl⟩;rw[aX]at bl
 (try rw[aX])
 clear aX;generalize (((w.alloc (.cells #[.slice none 0 0,.slice none 0 0] 114)).alloc (.cells #[.int .i64 (Q:Int)] 3)).alloc (.cells #[.int .i64 0] 3)).alloc (.cells #[.slice (some ⟨u+1,0,none⟩) 1 1,.slice (some ⟨u+1+1,0,none⟩) 1 1] 114)=W1 at *;go_wp2
 go_loopw[11] (fun kv wr=>∃(k:Nat) (r:Rou) (A:Oh) (n c:Nat) (B:Oh) (e':Nat),k<=sn/\kv=.int .i64 (k:Int)/\growTo G C (Q:Int) ks k=some r/\pu N r/\aD w wr [.blk u #[.slice none 0 0,.slice none 0 0] 114,.blk W #[.slice A n c,.slice B n e'] 114,.cel (aI (r.nodes)) (.slice A n c),.cel (aI (r.from_)) (.slice B n e')]) (fun kv _=>sn-(intOf kv).toNat)
 ·exact⟨0,_,_,1,1,_,1,by omega,rfl,rfl,pu.root (by omega),bl.1⟩
 obtain⟨k,r,A,n,c,B,e',hk,rfl,bL,a0,hs⟩:=hrel;obtain⟨HS,a8,I⟩:=hd3 hs bL a0;have ay:Hv (r.nodes.length=n):=Hd<|(hs.ints 2 rfl).1
 have cj:=a0.le;rw[ay.1]at cj;have aF:=Hd hs.bel;clear hs bL a0;by_cases aW:k<sn
 ·have ct:=dT (by omega:k<sn);have a4:k<ks.length:=by rw[aT.1];exact aW
  have bN:=cH.1 _ (List.getElem_mem a4);rw[show ks[k]=ks[k]?.getD 0 by rw[List.getElem?_eq_getElem a4];rfl]at bN;have a5:=Hd (xu a8.1);obtain⟨bs,os,bA,bE,bB⟩:=ck.1.2 (by omega);have aP:Hv (∀v,Below w.heap.size w v→v.cell? ⟨bs,os+k,none⟩=some (.int .i64 (ks[k]?.getD 0))/\bs<v.heap.size):=Hd<|fun v hv=>⟨(hv.cell (p:=⟨bs,os+k,none⟩) bE).trans (bB k aW),aJ hv bE⟩
  have cr:=Hd bA;clear a4 bA bB;obtain rfl:=cr.1;generalize ks[k]?.getD 0=sv at *;obtain⟨s,rfl⟩:∃s:Nat,sv=(s:Int):=⟨_,(Int.toNat_of_nonneg bN.1).symm⟩;have au:s<N:=by omega
  obtain⟨k0,k1⟩:=ib (by omega:k<sn);obtain⟨cs,ls⟩:=aP.1 _ aF.1;have c5:decide ((s:Int)<0)=false:=decide_eq_false (by omega);have c0:decide ((s:Int)≥(N:Int))=false:=decide_eq_false (by omega);have dn:decide (N<=s)=false:=decide_eq_false (by omega);have aV:Hv (∀w',Below wr.heap.size wr w'→w'.cell? ⟨W,0,none⟩=some (.slice A n c)/\w'.cell? ⟨bs,os+k,none⟩=some (.int .i64 (s:Int))):=Hd<|fun v hv=>⟨aC (k:=0) ((HS.1.below hv).blk 1 rfl).1 rfl,(aP.1 v (aA aF.1 hv)).1⟩
  have aL:Hv (∀v,Below wr.heap.size wr v→Calls Tryz.prog 208 #[.slice A n c,.int .i64 (s:Int)] v fun e w'=>e=.returned (.bool (decide ((s:Int)∈r.nodes)))/\v=w'):=Hd<|fun v hv=>sD A n c r.nodes (s:Int) v ((HS.1.ints 2 rfl).below hv) (by omega)
  go_upto_region 7 with fail;clear cs;obtain⟨b0,cs⟩:=aV.1 _ (Below.refl _ _);have lb:=aH (HS.1.blk 1 rfl).1;have J:=(Below.refl wr.heap.size wr).drew
  go_cut[48] (fun v w'=>v=.bool (decide ((s:Int)∈r.nodes))/\Below wr.heap.size wr w')
  case first =>
   go_region_held3 (fun w'=>w'.cell? ⟨W,0,none⟩=some (.slice A n c)/\w'.cell? ⟨bs,os+k,none⟩=some (.int .i64 (s:Int)))
    (first|with_reducible exact aV.1 _ J)
    ((first
     | (go_at_call 208;(with_reducible refine(aL.1 _ J).mono ?_);rintro _ _ ⟨rfl,rfl⟩)))
   all_goals
    go_wp2;go_meet;exact⟨rfl,J⟩
  obtain⟨rfl,be⟩:=hcut;have am:=Hd (HS.1.below be);have cA:=Hd am.1.bel;obtain⟨w4,rfl⟩:∃y,y=wc:=⟨wc,rfl⟩;clear be b0 cs ls lb J aV aL;by_cases j:(s:Int)∈r.nodes
  ·rw[decide_eq_true j];have HN:Hv (growTo G C (Q:Int) ks (k+1)=some r):=Hd<|by show _=_;rw[a5.1,zT j]
   clear j;go_wp2;go_roundw
   ·exact⟨k+1,r,A,n,c,B,e',by omega,by go_num,HN.1,I.1,am.1⟩
   simp[intOf];omega
  rw[decide_eq_false j];have aO:=Hd j;have bJ:=Hd (AL (a6.1.starts I.1.inn));clear j;obtain⟨b0,lb⟩:=yU (am.1.blk 1 rfl).1;go_wp2_with fail;refine(b9.1 _ cA.1 r.nodes A n c (am.1.ints 2 rfl) I.1.inn (by omega)).mono ?_;rintro _ w5 ⟨DA,dc,rfl,oD,b5,ad⟩;obtain⟨D,aZ⟩:∃D,distF G C r.nodes=D:=⟨_,rfl⟩;rw[aZ]at oD ad bJ;obtain⟨ao,bt⟩:=hd2 aZ ad;have ae:=Hd (am.1.pushOwn b5 oD);have bV:=Hd ae.1.bel;obtain⟨bD,cC,bQ,ch,bg⟩:=(ae.1.ints 4 rfl).2 (by omega);have cD:=bg s au;have cN:=Hd bQ;obtain⟨cs,ls⟩:=aP.1 _ bV.1;clear b0 lb oD ad aZ b5 bQ bg;obtain rfl:=cN.1;have di:(0:Int)<=(s:Int):=by omega
  have dj:(s:Int)<(N:Int):=by omega
  have bK:=bt.1.le (a6.1.starts I.1.inn) au;by_cases ah:D[s]?.getD 0=-1
  ·have co:Hv (growF G C (Q:Int) ks=none):=Hd<|by
    show _=_;rw[bC.1];refine uA (k:=k+1) ?_ (by rw[aT.1];exact aW);rw[a5.1];exact zU aO.1 (by rw[Int.toNat_natCast,ao.1];exact ah)
   rw[ah]at cD;clear ah bK;have U:=(ae.1.blk 0 rfl).1;obtain⟨r0,r1⟩:=cs2 U;have cG:=aN U 0;have cb:=aN U 1;have lr:=aH U;have a1:=Hd U;have aF:=Hd ((ae.1.put 0 rfl 0 (.slice none 0 0)).put 0 rfl 1 (.slice none 0 0)).bel;clear U;go_wp2_with fail;refine bodyPost_ret (v := .tuple #[.agg #[.slice none 0 0,.slice none 0 0],.bool false]) (dE Tryz.results170 rfl (fC (fC a1.1 (.slice none 0 0) rfl) (.slice none 0 0) rfl) Tryz.underlying114 (by kernel_rfl)) rfl (.inl ⟨co.1,rfl,aD.nil aF.1⟩)
  have bM:0<=D[s]?.getD 0:=by omega
  have dd:decide (D[s]?.getD 0<0)=false:=decide_eq_false (by omega);go_upto_region 11 with fail;clear cD ch;obtain⟨p,t,ax,br,cd,aq⟩:=xW a6.1 I.1 au (by rw[ao.1];exact ah);rw[ao.1]at ax;go_wp2_with fail;refine(cg.1 _ bV.1 r.nodes D s (some ⟨bD,cC,none⟩) dc (ae.1.ints 4 rfl) I.1.inn bJ.1 bt.1 au bM).mono ?_;rintro _ w6 ⟨PA,pn,pc,rfl,oP,b6⟩;have aB:Hv (growTo G C (Q:Int) ks (k+1)=some (jy r (p::t))):=Hd<|by show _=_;rw[a5.1,xw aO.1 (by rw[Int.toNat_natCast,ao.1];exact ah),Int.toNat_natCast,ao.1,ax]
  have az:=Hd aq;have aE:=aq.le;rw[ax]at oP;have bd:=oP.len;have aY:=Hd ((ae.1.pushOwn b6 oP).sub (List.Sublist.cons_cons _ (List.Sublist.cons_cons _ (List.Sublist.cons_cons _ (List.Sublist.cons_cons _ (List.Sublist.cons _ (List.Sublist.cons_cons _ (List.nil_sublist _))))))));have bI:Hv (jy r (p::t)=⟨r.nodes++t,r.from_++iR (jU r.nodes p n) n t.length⟩):=Hd<|by show _=_;unfold jy;rw[ay.1];rfl
  rw[bI.1]at aE aB az;have bO:t.length+1=pn:=by simpa using bd
  have cu:=Hd bO;simp only[List.length_append,ay.1]at aE;clear ax br cd aq oP bd bO bI bM dd cs ls ah bK b6;obtain⟨rn,rf⟩:=r;simp only at ay aB az aO I aY aE;obtain⟨m,hm⟩:∃m,t.length=m:=⟨_,rfl⟩;rw[hm]at aE;have HM:=Hd hm;have cJ:pn=m+1:=by have:=cu.1;omega
  subst cJ;obtain⟨bp,op,bz,b7,cy⟩:=(aY.1.ints 4 rfl).2 (by omega);have cB:=Hd bz;clear hm bz cy b7;obtain rfl:=cB.1
  have bX:Hv (∀v X Y Z V,aD w v [X,Y,Z,V,.cel (aI (p::t)) (.slice (some ⟨bp,op,none⟩) (m+1) pc)]→∀i:Nat,i<m+1→v.cell? ⟨bp,op+i,none⟩=some (.int .i64 ((p::t)[i]?.getD 0))/\bp<v.heap.size):=Hd<|fun v X Y Z V h i hi=>by
   obtain⟨b',o',hA',b8,a2⟩:=(h.ints 4 rfl).2 (by omega);injection hA' with hA'
   injection hA' with h1 h2
   subst h1 h2;exact⟨a2 i hi,b8⟩
  go_wp2
  go_loopw[14,15] (fun fv iv wr=>∃i:Nat,i<=n/\fv=.int .i64 (jU rn p i:Int)/\iv=.int .i64 (i:Int)/\aD w wr [.blk u #[.slice none 0 0,.slice none 0 0] 114,.blk W #[.slice A n c,.slice B n e'] 114,.cel (aI (rn)) (.slice A n c),.cel (aI (rf)) (.slice B n e'),.cel (aI (p::t)) (.slice (some ⟨bp,op,none⟩) (m+1) pc)]) (fun _ iv _=>n-(intOf iv).toNat)
  ·exact⟨0,by omega,rfl,rfl,aY.1⟩
  obtain⟨i,hi,rfl,rfl,hs⟩:=hrel;have R:=Hd hs;clear hs;obtain⟨b0,lb⟩:=yU (R.1.blk 1 rfl).1;by_cases bG:i<n
  ·have ad:=dT (by omega:i<n);obtain⟨bn,on,a9,bk,bh⟩:=(R.1.ints 2 rfl).2 (by omega);have cn:=bh i bG;obtain⟨aS,bW⟩:=bX.1 _ _ _ _ _ R.1 0 (by omega);have cp:=Hd a9;have bv:=Hd (Bc (xs:=rn) (x:=p) (i:=i));simp only[List.getElem?_cons_zero,Option.getD_some,Nat.add_zero]at aS;obtain⟨i0,i1⟩:=ib (by omega:i<n);have cW:(0:Int)<((m+1:Nat):Int):=by omega
   have cS:(0:Int)<(m:Int)+1:=by omega
   clear a9 bh;obtain rfl:=cp.1;generalize rn[i]?.getD 0=y at *;by_cases ai:y=p
   ·have dy:(y==p)=true:=by simp[ai]
    have a7:Hv (jU rn p (i+1)=i):=Hd<|by show _=_;rw[bv.1,if_pos ai]
    clear ai;go_upto_region 16 with fail
    go_quiet (fail)
    clear b0 lb cn aS bW bk;go_wp2;go_roundw
    ·exact⟨i+1,by omega,by rw[a7.1],by go_num,R.1.drewN _⟩
    simp[intOf];omega
   have dy:(y==p)=false:=by simp[ai]
   have a7:Hv (jU rn p (i+1)=jU rn p i):=Hd<|by show _=_;rw[bv.1,if_neg ai]
   clear ai;go_upto_region 16 with fail
   go_quiet (fail)
   clear b0 lb cn aS bW bk;go_wp2;go_roundw
   ·exact⟨i+1,by omega,by rw[a7.1],by go_num,R.1.drewN _⟩
   simp[intOf];omega
  have ap:i=n:=by omega
  have ad:=dF (by omega:n<=i);have cx:=xV rn p n;obtain⟨at_,aU⟩:∃a,jU rn p n=a:=⟨_,rfl⟩;rw[aU]at aB az cx;rw[ap,aU];rw[ap]at ad
  have bx:Hv (aD w wr [.blk u #[.slice none 0 0,.slice none 0 0] 114,.blk W #[.slice A n c,.slice B n e'] 114,.cel (aI (rn++t.take 0)) (.slice A n c),.cel (aI (rf++iR at_ n 0)) (.slice B n e'),.cel (aI (p::t)) (.slice (some ⟨bp,op,none⟩) (m+1) pc)]):=Hd<|by
   show aD _ _ _;rw[List.take_zero,List.append_nil,show iR at_ n 0=[] from rfl,List.append_nil];exact R.1
  clear ap aU hi R;go_wp2_with fail;clear b0 lb
  go_loopw[14,16] (fun fv qv wr=>∃(q:Nat) (A:Oh) (c:Nat) (B:Oh) (e':Nat),q<=m/\fv=.int .i64 (frV at_ n q)/\qv=.int .i64 ((q:Int)+1)/\aD w wr [.blk u #[.slice none 0 0,.slice none 0 0] 114,.blk W #[.slice A (n+q) c,.slice B (n+q) e'] 114,.cel (aI (rn++t.take q)) (.slice A (n+q) c),.cel (aI (rf++iR at_ n q)) (.slice B (n+q) e'),.cel (aI (p::t)) (.slice (some ⟨bp,op,none⟩) (m+1) pc)]) (fun _ qv _=>m+1-(intOf qv).toNat)
  ·exact⟨0,A,c,B,e',by omega,rfl,rfl,bx.1⟩
  obtain⟨q,A,c,B,e',hq,rfl,rfl,hs⟩:=hrel;have R:=Hd hs;clear hs;by_cases bo:q<m
  ·have bq:decide ((q:Int)+1<((m+1:Nat):Int))=true:=decide_eq_true (by omega);have aM:decide ((q:Int)<(m:Int))=true:=decide_eq_true (by omega);have aK:decide ((q:Int)+1<(m:Int)+1)=true:=decide_eq_true (by omega);have bR:q<t.length:=by rw[HM.1];exact bo
   have bH:=Hd (bF (z:=0) bR);have bb:=Hd (Be at_ n q);have cE:=Hd (FM at_ n q);obtain⟨cq,lp⟩:=bX.1 _ _ _ _ _ R.1 (q+1) (by omega);rw[List.getElem?_cons_succ]at cq;obtain⟨b0,b1,lb⟩:=iC (R.1.blk 1 rfl).1;have q0:(0:Int)<=(q:Int)+1:=by omega
   have q1:(q:Int)+1<((m+1:Nat):Int):=by omega
   have q2:(q:Int)+1<(m:Int)+1:=by omega
   have q3:((q:Int)+1).toNat=q+1:=by omega
   obtain⟨y,hy⟩:∃y,t[q]?.getD 0=y:=⟨_,rfl⟩;rw[hy]at cq bH;have cK:=Hd hy;obtain⟨fv,aR⟩:∃fv,frV at_ n q=fv:=⟨_,rfl⟩;rw[aR]at bb;rw[aR];clear bR hy aR
   have H:Hv (∀(v:World) (X:Pc),aD w v [.blk u #[.slice none 0 0,.slice none 0 0] 114,.blk W #[.slice A (n+q) c,.slice B (n+q) e'] 114,X,.cel (aI (rf++iR at_ n q)) (.slice B (n+q) e'),.cel (aI (p::t)) (.slice (some ⟨bp,op,none⟩) (m+1) pc)]→(v.cell? ⟨W,0,none⟩=some (.slice A (n+q) c)/\v.cell? ⟨bp,op+(q+1),none⟩=some (.int .i64 y))):=Hd fun v X h=>⟨aC (k:=0) (h.blk 1 rfl).1 rfl,by
    obtain⟨b',o',hA',_,a2⟩:=(h.ints 4 rfl).2 (by omega);injection hA' with hA'
    injection hA' with h1 h2
    subst h1 h2;have h3:=a2 (q+1) (by omega);rw[List.getElem?_cons_succ]at h3;rw[cK.1]at h3
    exact h3⟩
   have HT:Hv (aD w wr.drew [.blk u #[.slice none 0 0,.slice none 0 0] 114,.blk W #[.slice A (n+q) c,.slice B (n+q) e'] 114,.cel (aI (rn++t.take q)) (.slice A (n+q) c),.cel (aI (rf++iR at_ n q)) (.slice B (n+q) e'),.cel (aI (p::t)) (.slice (some ⟨bp,op,none⟩) (m+1) pc)]):=Hd R.1.drew;go_upto_region 21 with fail;refine wp_region_noPanic ?_;refine nG 9 (fun w'=>w'.cell? ⟨W,0,none⟩=some (.slice A (n+q) c)/\w'.cell? ⟨bp,op+(q+1),none⟩=some (.int .i64 y)) (H.1 _ _ HT.1) (fun hT J=>?_);refine onT hT 0 opA J ?_;refine onT hT 1 (opB opA) J ?_;refine onT hT 2 (opB (opB opA)) J ?_;refine onT hT 3 (opB (opB (opB opA))) J ?_;refine onT hT 4 (opC opA) J ?_;refine onT hT 5 (opC (opB opA)) J ?_;have HA:Hv (aD w (wr.alloc (.cells #[.int .i64 y] 3)).drew [.blk u #[.slice none 0 0,.slice none 0 0] 114,.blk W #[.slice A (n+q) c,.slice B (n+q) e'] 114,.cel (aI (rn++t.take q)) (.slice A (n+q) c),.cel (aI (rf++iR at_ n q)) (.slice B (n+q) e'),.cel (aI (p::t)) (.slice (some ⟨bp,op,none⟩) (m+1) pc)]):=Hd (HT.1.alloc _);refine sV hT 6 (opC (opB (opB opA))) (fun K hK=>?_)
   go_simp
   refine hK.out _ _ (H.1 _ _ HA.1) (fun J=>?_);clear hK K
   try simp only[Act.put,List.setIfInBounds_toArray,List.set_cons_zero,List.set_cons_succ]
   refine sV hT 7 (opC (opB (opB (opB opA)))) (fun K hK=>?_);refine iH rfl _ _ (by rfl) _ HA.1 2 A (n+q) c (rn++t.take q) y _ (0,0) rfl (by rfl) (by rfl) (aG _ _) (by omega) ?_;intro g8 ar w8 S8 _;have af:Hv (aD w w8 [.blk u #[.slice none 0 0,.slice none 0 0] 114,.blk W #[.slice A (n+q) c,.slice B (n+q) e'] 114,.cel (aI (rn++t.take q++[y])) (.slice (some ⟨g8,0,none⟩) (n+q+1) ar),.cel (aI (rf++iR at_ n q)) (.slice B (n+q) e'),.cel (aI (p::t)) (.slice (some ⟨bp,op,none⟩) (m+1) pc)]):=Hd S8;clear S8;refine hK.out _ _ (H.1 _ _ af.1) (fun J=>?_);clear hK K
   try simp only[Act.put,List.setIfInBounds_toArray,List.set_cons_zero,List.set_cons_succ]
   have c8:=aC (k:=0) (af.1.blk 1 rfl).1 rfl;have f8:=aN (af.1.blk 1 rfl).1 0;have q8:=aH (af.1.blk 1 rfl).1;refine onT hT 8 (opC (opC opA)) J ?_;refine FL hT 9 (opC (opC (opB opA))) ?_;go_wp2_with fail;refine NoPanic.normal ?_;have R:=Hd (af.1.put 1 rfl 0 (.slice (some ⟨g8,0,none⟩) (n+q+1) ar));clear c8 f8 q8 af HA HT H b0 b1 lb cq lp bq aM aK q0 q1 q2 q3;generalize w8.setCell ⟨W,0,none⟩ (.slice (some ⟨g8,0,none⟩) (n+q+1) ar)=W8 at *;obtain⟨-,b1,lb⟩:=iC (R.1.blk 1 rfl).1
   go_upto_region 23 with(at_builtin;refine bP rfl _ _ rfl _ (R.1.alloc _) 3 B (n+q) e' (rf++iR at_ n q) fv _ (0,0) rfl rfl rfl (aG _ _) (by omega) ?_;intro g9 cap w9 S9 de;have l9:=aC (k:=1) (S9.blk 1 rfl).1 rfl;have f9:=aN (S9.blk 1 rfl).1 1;have q9:=aH (S9.blk 1 rfl).1;have bS:=Hd (S9.put 1 rfl 1 (.slice (some ⟨g9,0,none⟩) ((n+q)+1) cap));clear S9)
   clear l9 f9 q9 b1 lb;generalize w9.setCell ⟨W,1,none⟩ (.slice (some ⟨g9,0,none⟩) (n+q+1) cap)=W9 at *;obtain⟨b0,lb⟩:=yU (bS.1.blk 1 rfl).1;go_wp2;go_roundw
   ·exact⟨q+1,_,_,_,_,by omega,by rw[cE.1];go_num,by go_num,by rw[bH.1,←List.append_assoc,bb.1,←List.append_assoc];exact bS.1⟩
   simp[intOf];omega
  have bm:q=m:=by omega
  have bq:decide ((q:Int)+1<((m+1:Nat):Int))=false:=decide_eq_false (by omega);have aM:decide ((q:Int)<(m:Int))=false:=decide_eq_false (by omega);have aK:decide ((q:Int)+1<(m:Int)+1)=false:=decide_eq_false (by omega);have hx:=R.1.sub (List.sublist_append_left [_,_,_,_] [_]);rw[bm,←HM.1,List.take_length]at hx;have b4:=Hd hx;clear hx bm R;go_wp2;go_roundw
  ·exact⟨k+1,⟨rn++t,rf++iR at_ n t.length⟩,A,n+t.length,c,B,e',by omega,by go_num,aB.1,az.1,b4.1⟩
  simp[intOf];omega
 have bc:k=sn:=by omega
 have ct:=dF (by omega:sn<=k);have bU:Hv (growF G C (Q:Int) ks=some r):=Hd<|by show _=_;rw[bC.1,aT.1,←bc];exact a8.1
 have U:=(HS.1.blk 0 rfl).1;obtain⟨r0,r1⟩:=cs2 U;have cG:=aN U 0;have cb:=aN U 1;have lr:=aH U;have a1:=Hd U;obtain⟨b0,b1,lb⟩:=iC (HS.1.blk 1 rfl).1;have bw:=Hd ((HS.1.put 0 rfl 0 (.slice A n c)).put 0 rfl 1 (.slice B n e')).tail.tail;clear U bc;go_wp2_with fail;refine bodyPost_ret (v := .tuple #[.agg #[.slice A n c,.slice B n e'],.bool true]) (dE Tryz.results170 rfl (fC (fC a1.1 (.slice A n c) rfl) (.slice B n e') rfl) Tryz.underlying114 (by kernel_rfl)) rfl (.inr ⟨r,A,n,c,B,e',bU.1,I.1,rfl,bw.1⟩)
theorem FO{d:Dev}{n:Int}:gp d n=true↔bQ d=true/\0<=n/\n<fE d:=by simp[gp]
theorem J4{d:Dev}{n y:Int}(h:y∈nX d n):gp d y=true/\y≠n:=by
 unfold nX at h
 split at h
 ·rename_i hn;have g:=hn.1;unfold ed at g;rw[Bool.and_eq_true]at g;have ht:=ky g.1;obtain⟨hd,Z,n1,G,hq1,U,Q⟩:=kT g.1;have hT:=ak hd;have hp:=fT hd;rw[rM]at h;unfold jV at h
  have z:∀{q k:Int},y=q*ag d+k→0<=q→q<d.W*d.H→0<=k→k<ag d→gp d y=true:=by
   intro q k e R V k0 k1;refine FO.2 ⟨hd,?_,?_⟩
   ·have:=Int.mul_nonneg R (show 0<=ag d by omega);omega
   have h1:(q+1)*ag d<=d.W*d.H*ag d:=Int.mul_le_mul_of_nonneg_right (by omega) (by omega);rw[Int.add_mul,Int.one_mul]at h1;unfold fE;omega
  rcases List.mem_append.1 h with h|h
  ·split at h
   ·rename_i h7;obtain⟨p,hp2,rfl⟩:=vM.1 h;have hm:=pU ht hp2.1 hp2.2;have K:=iP d (n/ag d);refine⟨z (q:=n/ag d) (k:=5+p) (by rw[CB ht hp2.1 hp2.2];omega) G hq1 (by omega) (by omega),fun e=>?_⟩;rw[e]at hm;omega
   simp at h
  obtain⟨r,k,s,hr,hk,hs,Y,e,h0⟩:=(vL hd).1 h;have hc:=qE hd (t:=n/ag d) (r:=r) (k:=k) (s:=s) (by omega);have hm:=nK hd (t:=n/ag d) (r:=r) (k:=k) (s:=s) (by omega);have j:=aP.1 hc.1
  have D:7+r*d.T+k<ag d:=by
   have:=iB hr.1 hr.2 (show 0<=d.T by omega) (Int.le_refl d.T);unfold ag;omega
  refine⟨z (q:=ax d (n/ag d) ((r+2)%4) s) (k:=7+r*d.T+k) (by rw[e,hc.2.2.2.2]) j.2.1 j.2.2 (by omega) D,fun e2=>?_⟩;rw[←e,e2]at hm;have u:=oL hd j.2.1;rw[←hm.1]at u;obtain⟨_,_,I,J⟩:=u;unfold stX at I;unfold stY at J;have:(r+2)%4=0∨(r+2)%4=1∨(r+2)%4=2∨(r+2)%4=3:=by omega
  rcases this with B|B|B|B <;> rw[B]at I J <;> simp at I J <;> omega
 simp at h
theorem DV{d:Dev}(h:bQ d=true):Du (nN d) (grG d):=by
 obtain⟨h1,_,_⟩:=zk h;refine⟨wG _ _,fun x hx y g=>?_,fun x=>?_⟩
 ·unfold grG at g;rw[GI hx]at g;have:=(J4 g).1;simp only[gp,Bool.and_eq_true,decide_eq_true_eq]at this;omega
 rcases Nat.lt_or_ge x (nN d)with hx|hx
 ·unfold grG;rw[GI hx];exact Kb _ _
 rw[List.getElem?_eq_none (by unfold grG;rw[wG];exact hx)];simp
theorem zV(d:Dev)(w:World)(hd:bQ d=true) :
  Calls Tryz.prog 252 #[.agg (dv d)] w fun e w'=>∃g vs,e=.returned (.slice (some ⟨g,0,none⟩) (nN d) (nN d))/\aD w w' [.blk g vs 26,.cels ((grG d).map aI) vs.toList]:=by
 have Z:=Hd (aB (Below.refl w.heap.size w) (.cells (dv d) 36));have J:=Hd (aG w (.cells (dv d) 36));obtain⟨Q,aw,_⟩:=zk hd;have I:=Hd (fun(v:World)=>jb d v hd);rw[Q]at I;have al:Hv (grG d=uW d (nN d)):=Hd<|rfl
 generalize nN d=N at *;clear hd Q;go_enter Tryz.func252,Tryz.ntmps252;go_upto_region 1 with fail;generalize w.alloc (.cells (dv d) 36)=W9 at *;obtain⟨x0,x1,U,V,lx⟩:=bA (J.1);go_wp2_with fail;refine(I.1 _).mono ?_;rintro _ j ⟨rfl,b1⟩;have K:=Hd (aA Z.1 b1);have ad:=Hd (aF b1 J.1);clear b1 x0 x1 U V lx;have af:=fun W=>um N (by omega) W;have B:=(aD.nil (Below.refl j.heap.size j)).pushNils N;go_upto_region 2 with fail;obtain⟨gO,z⟩:∃g,j.heap.size=g:=⟨_,rfl⟩;rw[z]at B
 (try rw[z])
 have hA:(List.replicate N (Value.slice none 0 0)).toArray=Array.replicate N (Value.slice none 0 0):=by simp
 have Y:Hv (aD j (j.alloc (.cells (Array.replicate N (Value.slice none 0 0)) 26)) [.blk gO (Array.replicate N (Value.slice none 0 0)) 26,.cels ((grF d N 0).map aI) (Array.replicate N (Value.slice none 0 0)).toList]):=Hd<|by
  show aD _ _ _;rw[←hA,ME];exact B
 clear z B af hA;generalize j.alloc (.cells (Array.replicate N (Value.slice none 0 0)) 26)=w2 at *;go_wp2
 go_loopw[10] (fun i wr=>∃(k:Nat) (vs:Array Value),k<=N/\i=.int .i64 (k:Int)/\aD j wr [.blk gO vs 26,.cels ((grF d N k).map aI) vs.toList]) (fun i _=>N-(intOf i).toNat)
 ·exact⟨0,_,by omega,rfl,Y.1⟩
 obtain⟨k,vs,hk,rfl,hs⟩:=hrel;have G:=Hd hs;have aq:=Hd (aF hs.bel ad.1);clear hs;by_cases R:k<N
 ·have ai:=dT (by omega:k<N);have ah:=Hd (MG d R);have H:=Hd (NP d hk);have ag:=G.1.rowsN 1 rfl;rw[H.1]at ag;obtain⟨i0,i1⟩:=ib (by omega:k<N);obtain⟨x0,x1,U,V,lx⟩:=bA (aq.1);go_wp2_with fail;refine(DZ d (k:Int) _).mono ?_;rintro _ w5 ⟨A5,n5,c5,rfl,o5,b5⟩;have q:=Hd (G.1.pushOwn b5 o5);clear b5 o5 x0 x1 U V lx G;obtain⟨v,hv⟩:∃v,vs[k]?=some v:=⟨vs[k]'(by omega),Array.getElem?_eq_getElem (by omega)⟩;have ck:=aC (k:=k) (q.1.blk 0 rfl).1 hv;have fk:=aN (q.1.blk 0 rfl).1 k;have lk:=aH (q.1.blk 0 rfl).1;have h9:=((q.1.put 0 rfl k (.slice A5 n5 c5)).rowPut 1 2 k (by decide) rfl (by rw[H.1];exact R) rfl).sub (List.sublist_append_left [_,_] [_]);rw[ah.1]at h9;have u:=Hd h9;clear h9 hv;go_wp2;go_roundw
  ·exact⟨k+1,_,by omega,by go_num,u.1⟩
  simp[intOf];omega
 have D:k=N:=by omega
 have ai:=dF (by omega:N<=k);have hs:=G.1;rw[D,MF]at hs
 have u:Hv (aD j wr [.blk gO vs 26,.cels ((grG d).map aI) vs.toList]):=Hd<|by
  show aD _ _ _;rw[al.1];exact hs
 clear hs G D;go_wp2;go_ret;exact⟨_,_,rfl,u.1.lowerC K.1 (lo:=j.heap.size) (hi:=j.heap.size) K.1.size (Nat.le_refl _) (Chg.refl' _ _ _)⟩
theorem DW(d:Dev)(w:World)(hd:bQ d=true) :
  Calls Tryz.prog 167 #[.agg (dv d)] w fun e w'=>∃A c,e=.returned (.slice A (nN d) c)/\aD w w' [.cel (mG (grG d)) (.slice A (nN d) c)]:=by
 have D:=Hd (aB (Below.refl w.heap.size w) (.cells (dv d) 36));have ah:=Hd (aG w (.cells (dv d) 36));obtain⟨Q,av,_⟩:=zk hd;have J:=Hd (fun(v:World)=>nS d v);rw[show xB d=fE d from if_pos hd,Q]at J;have aj:Hv (grG d=uW d (nN d)):=Hd<|rfl
 generalize nN d=N at *;obtain⟨ak,K,I,H,B⟩:=info_parts qm;have g:=Hd (And.intro K (And.intro I (And.intro H B)));clear hd Q K I H B;go_enter Tryz.func167,Tryz.ntmps167;go_upto_region 1 with fail;generalize w.alloc (.cells (dv d) 36)=z at *;have R:=Hd ((aD.nil (Below.refl z.heap.size z)).pushNew 26 1);go_wp2
 go_loopw[3,4] (fun v i wr=>∃(k:Nat) (A:Oh) (c:Nat),k<=N/\v=.slice A k c/\i=.int .i64 (k:Int)/\aD z wr [.cel (mG (uW d k)) (.slice A k c)]) (fun _ i _=>N-(intOf i).toNat)
 ·exact⟨0,_,0,by omega,rfl,rfl,R.1⟩
 obtain⟨k,A,c,hk,rfl,rfl,hs⟩:=hrel;have HS:=Hd hs;have u:=Hd (aF hs.bel ah.1);clear hs;obtain⟨Z,x1,U,V,lx⟩:=bA (u.1);go_wp2_with fail;refine(J.1 _).mono ?_;rintro _ w1 ⟨rfl,b1⟩;have q:=Hd (HS.1.below b1);have Y:=Hd (aF b1 u.1);clear b1 Z x1 U V lx HS u;by_cases aw:k<N
 ·have ae:=dT (by omega:k<N);have ad:=Hd (Bt d k);have i0:(0:Int)<=(k:Int):=by omega
  go_upto_region 5 with fail;obtain⟨Z,x1,U,V,lx⟩:=bA (Y.1);go_wp2_with fail;refine(EE d (k:Int) _).mono ?_;rintro _ w5 ⟨A5,n5,c5,rfl,o5,b5⟩;have W:=Hd (ry q.1 b5 o5);clear b5 o5 Z x1 U V lx q
  go_wp2_with (at_builtin;refine af rfl _ _ 50 26 rfl ak _ 1 24 Tryz.underlying50 g.1.1 g.1.2.1 g.1.2.2.1 g.1.2.2.2 rfl (by decide) (by decide) _ (W.1.alloc (.cells #[.slice A5 n5 c5] 26)) 1 0 (by decide) k c _ A ((uW d k).map aI) _ #[.slice A5 n5 c5] _ rfl rfl rfl rfl (aG _ _) rfl (by omega) ?_;intro g9 cap w9 S9 ai;have j:=Hd S9.tail;clear S9 ai)
  go_roundw
  ·exact⟨k+1,_,_,by omega,rfl,by go_num,by rw[ad.1,uO];exact j.1⟩
  simp[intOf];omega
 have G:k=N:=by omega
 have ae:=dF (by omega:N<=k)
 have j:Hv (aD z w1 [.cel (mG (grG d)) (.slice A k c)]):=Hd<|by
  show aD _ _ _;rw[aj.1,←G];exact q.1
 subst G;go_wp2;go_ret;exact⟨_,_,rfl,j.1.lowerC D.1 (lo:=z.heap.size) (hi:=z.heap.size) D.1.size (Nat.le_refl _) (Chg.refl' _ _ _)⟩
theorem aD.join9{W w w':World}{j qs:List Pc}(h:aD W w j)(k:aD w w' qs):aD W w' (qs++j):=by
 obtain⟨h1,F,h2,h3,u⟩:=h;obtain⟨k1,H,k2,k3,g⟩:=k;have hl:=h2.lt;refine⟨aA h1 k1,H++F,k2.append (h2.keep k1.size fun x hx=>k1.block x (hl x hx)),?_,fun x hx=>?_⟩
 ·rw[List.nodup_append];exact⟨k3,h3,fun a q b hb e=>by have:=g a q;have:=hl b hb;omega⟩
 rcases List.mem_append.1 hx with hx|hx
 ·have:=g x hx;have:=h1.size;omega
 exact u x hx
theorem aD.rowRd{W w:World}{q:List Pc}(h:aD W w q)(i m:Nat){L:List (List Int)}{vs:Array Value}(hi:q[i]?=some (.cels (L.map aI) vs.toList))(hm:m<L.length) :
  ∃B g j,vs[m]?=some (.slice B g j)/\bT w B g (L[m]?.getD []):=by
 have u:=(List.getElem?_eq_some_iff.1 hi).1;obtain⟨B,g,j,h1,_,h2⟩:=h.rowAt i m hi hm;refine⟨B,g,j,h1,(h2.rd (c:=aI (L[m]?.getD [])) (v := .slice B g j) q.length ?_).ints⟩;rw[List.getElem?_append_right (by rw[List.length_set];exact Nat.le_refl _),List.length_set,Nat.sub_self];rfl
theorem FP(d:Dev)(w:World)(hd:bQ d=true) :
  Calls Tryz.prog 189 #[.agg (dv d)] w fun e w'=>∃R K,e=.returned (.pointer (some ⟨R,0,none⟩))/\KOk (nN d) (grG d) K/\wI w' R (nN d) (grG d) K/\Below w.heap.size w w':=by
 have bl:=Hd (aB (Below.refl w.heap.size w) (.cells (dv d) 36));have Z:=Hd (aG w (.cells (dv d) 36));obtain⟨aQ,bg,_⟩:=zk hd;have au:=Hd (fun(v:World)=>jb d v hd);rw[aQ]at au;have am:=Hd (fun(v:World)=>zV d v hd);have H:=Hd (DV hd);obtain⟨N,hN⟩:∃N,nN d=N:=⟨_,rfl⟩;obtain⟨G,hG⟩:∃G,grG d=G:=⟨_,rfl⟩;rw[hN]at bg au am H;rw[hG]at am H;rw[hN,hG];have a9:=fun W=>um N (by omega) W;clear hd aQ hN hG;go_enter Tryz.func189,Tryz.ntmps189;go_upto_region 1 with fail;generalize w.alloc (.cells (dv d) 36)=U at *;obtain⟨x0,x1,x2,x3,lx⟩:=bA (Z.1);have g:Hv (∀w',Below U.heap.size U w'→(KDe w' w.heap.size d)):=Hd<|fun v hv=>⟨aC (k:=0) (aF hv Z.1) rfl,aC (k:=1) (aF hv Z.1) rfl,aC (k:=2) (aF hv Z.1) rfl,aC (k:=3) (aF hv Z.1) rfl⟩
 have j:=(Below.refl U.heap.size U).drew
 go_cut[3] (fun v w'=>∃R J u Q,v=.pointer (some ⟨R,0,none⟩)/\aD U w' [.blk R #[.slice (some ⟨J,0,none⟩) N N,.slice (some ⟨u,0,none⟩) N N] 241,.blk J Q 26,.cels (G.map aI) Q.toList,.blk u ((List.replicate N (Value.slice none 0 0)).toArray) 26,.cels ((kRw G N 0).map aI) ((List.replicate N (Value.slice none 0 0)).toArray).toList])
 case first =>
  go_region_held3 (fun w'=>KDe w' w.heap.size d)
   (first|with_reducible exact g.1 _ j|with_reducible exact g.1 _ (aB j _)|with_reducible exact g.1 _ (aB (aB j _) _))
   ((first
    | (go_at_call 252;(with_reducible refine(am.1 _).mono ?_);rintro _ w5 ⟨g5,v5,rfl,S5⟩;first|(have ak:=Hd (S5.lowerC j (lo:=_) (hi:=_) j.size (Nat.le_refl _) (Chg.refl' _ _ _));replace j:=aA j S5.bel)|(have bo:=Hd (((aD.nil j).pushNils N).join9 S5);replace j:=bo.1.bel))
    | (go_at_call 190;(with_reducible refine(au.1 _).mono ?_);rintro _ w6 ⟨rfl,b6⟩;replace j:=aA j b6;(try replace ak:=Hd (ak.1.below b6));clear b6)))
  all_goals
   go_wp2;go_meet;have hH:=ak.1.pushNils N;have hI:=hH.consBlk (#[Value.slice (some ⟨g5,0,none⟩) N N,Value.slice (some ⟨w6.heap.size,0,none⟩) N N]) 241;refine⟨w6.heap.size+1,g5,w6.heap.size,v5,rfl,?_⟩;have e1:Array.replicate N (Value.slice none 0 0)=(List.replicate N (Value.slice none 0 0)).toArray:=by simp
   have e2:(w6.alloc (.cells (List.replicate N (Value.slice none 0 0)).toArray 26)).heap.size=w6.heap.size+1:=Array.size_push _;rw[e2]at hI;rw[e1];exact hI
 obtain⟨R,J,u,Q,rfl,a0⟩:=hcut;have aT:=Hd a0;obtain⟨W1,rfl⟩:∃y,y=wc:=⟨wc,rfl⟩;clear a0 x0 x1 x2 x3 lx j a9 g;obtain⟨b0,lb⟩:=yU (aT.1.blk 0 rfl).1;go_wp2_with fail;clear b0 lb
 go_loopw[20] (fun nv wr=>∃(n:Nat) (vs:Array Value),n<=N/\nv=.int .i64 (n:Int)/\aD U wr [.blk R #[.slice (some ⟨J,0,none⟩) N N,.slice (some ⟨u,0,none⟩) N N] 241,.blk J Q 26,.cels (G.map aI) Q.toList,.blk u (vs) 26,.cels ((kRw G N n).map aI) (vs).toList]) (fun nv _=>N-(intOf nv).toNat)
 ·exact⟨0,_,by omega,rfl,aT.1⟩
 obtain⟨n,vs,hn,rfl,hs⟩:=hrel;have HP:=Hd hs;clear hs;by_cases aq:n<N
 ·have bh:=dT (by omega:n<N);have a2:Hv (kRw G N (n+1)=tF (kRw G N n) (n:Int) (G[n]?.getD []) (G[n]?.getD []).length):=Hd<|rfl
  have ax:=Hd (wH G N n);have aS:Hv (∀z,((kRw G N n)[z]?.getD []).length<=26*n):=Hd<|fun z=>Ij H.1 (by omega)
  have aU:Hv (∀y∈G[n]?.getD [],0<=y/\y<(N:Int)):=Hd<|H.1.gin n aq
  have ah:=H.1.le n;obtain⟨RA,m,mc,az,aY⟩:=HP.1.rowRd 2 n rfl (by rw[H.1.len];exact aq);have cG:=aC (k:=n) (HP.1.blk 1 rfl).1 az;have lG:=aH (HP.1.blk 1 rfl).1;have ao:Hv ((G[n]?.getD []).length=m):=Hd<|aY.1
  have a7:Hv (∀(v:World) (p q r s:Pc),aD U v [p,q,.cels (G.map aI) Q.toList,r,s]→bT v RA m (G[n]?.getD [])):=Hd<|fun v p q r s h=>by
   obtain⟨bJ,m',bE,h1,h2⟩:=h.rowRd 2 n rfl (by rw[H.1.len];exact aq);rw[az]at h1;injection h1 with h1
   injection h1 with k1 k2 k3
   subst k1 k2 k3;exact h2
  obtain⟨n0,n1⟩:=ib (by omega:n<N);obtain⟨K0,a4⟩:∃K0,kRw G N n=K0:=⟨_,rfl⟩;rw[a4]at HP a2 ax aS;have bs:m<=26:=by rw[←ao.1];exact ah
  clear aY az a4 ah;generalize ad:G[n]?.getD []=row at *;clear ad;obtain⟨wo,rfl⟩:∃y,y=wr:=⟨wr,rfl⟩;go_wp2_with fail;clear cG lG
  go_loopw[27] (fun iv wr=>∃(i:Nat) (vs:Array Value),i<=m/\iv=.int .i64 (i:Int)/\aD U wr [.blk R #[.slice (some ⟨J,0,none⟩) N N,.slice (some ⟨u,0,none⟩) N N] 241,.blk J Q 26,.cels (G.map aI) Q.toList,.blk u (vs) 26,.cels ((tF K0 (n:Int) row i).map aI) (vs).toList]) (fun iv _=>m-(intOf iv).toNat)
  ·exact⟨0,vs,by omega,rfl,HP.1⟩
  obtain⟨i,vs,hi,rfl,hs⟩:=hrel;have ag:=Hd hs;have HI:=Hd (a7.1 _ _ _ _ _ hs);clear hs;by_cases aj:i<m
  ·have a6:=dT (by omega:i<m);have ay:i<row.length:=by rw[ao.1];exact aj
   have al:=aU.1 _ (List.getElem_mem ay);rw[show row[i]=row[i]?.getD 0 by rw[List.getElem?_eq_getElem ay];rfl]at al;have av:Hv (tF K0 (n:Int) row (i+1)=KF (tF K0 (n:Int) row i) (row[i]?.getD 0).toNat (n:Int)):=Hd<|rfl
   obtain⟨bR,oR,aJ,bO,a3⟩:=HI.1.2 (by omega);have cR:=a3 i aj;have bf:=Hd aJ
   have a1:Hv (∀z,((tF K0 (n:Int) row i)[z]?.getD []).length<=100000):=Hd<|fun z=>by
    have h1:=Dt (K:=K0) (n:=(n:Int)) (row:=row) (by rw[ax.1];exact aU.1) (z:=z) (i:=i) (by omega);have h2:=aS.1 z;have h3:26*n<=26*828:=Nat.mul_le_mul_left _ (by omega);omega
   have ai:Hv ((tF K0 (n:Int) row i).length=N):=Hd<|by show _=_;rw[tH,ax.1]
   clear ay aJ a3;obtain rfl:=bf.1;generalize row[i]?.getD 0=yv at *;obtain⟨X,rfl⟩:∃X:Nat,yv=(X:Int):=⟨_,(Int.toNat_of_nonneg al.1).symm⟩;rw[Int.toNat_natCast]at av;have bn:X<N:=by omega
   obtain⟨V,aZ⟩:∃V,tF K0 (n:Int) row i=V:=⟨_,rfl⟩;rw[aZ]at ag av a1 ai;have aK:X<V.length:=by rw[ai.1];exact bn
   have ad:=a1.1 X;obtain⟨i0,i1⟩:=ib (by omega:i<m);obtain⟨X0,X1⟩:=ib (by omega:X<N);obtain⟨-,b1,lb⟩:=iC (ag.1.blk 0 rfl).1;clear al aZ;obtain⟨B,nb,cb,aX,aw,D⟩:=ag.1.rowAt 4 X rfl aK;obtain⟨aM,bV⟩:=hd2 aX aw;have bU:nb<=100000:=by rw[←aw];exact ad
   have HT:Hv (aD U wr.drew [.blk R #[.slice (some ⟨J,0,none⟩) N N,.slice (some ⟨u,0,none⟩) N N] 241,.blk J Q 26,.cels (G.map aI) Q.toList,.blk u (vs) 26,.cels ((V.map aI).set X (.int 0)) (vs.toList.set X (.int .i64 0)),.cel (aI (V[X]?.getD [])) (.slice B nb cb)]):=Hd D.drew;clear D aX aw;have g:Hv (∀(v:World) (p1 p2 p3:Pc) (r:List Pc),aD U v (.blk R #[.slice (some ⟨J,0,none⟩) N N,.slice (some ⟨u,0,none⟩) N N] 241::p1::p2::.blk u vs 26::p3::r)→(v.cell? ⟨R,1,none⟩=some (.slice (some ⟨u,0,none⟩) N N)/\v.cell? ⟨u,X,none⟩=some (.slice B nb cb))):=Hd fun v p1 p2 p3 r h=>⟨aC (k:=1) (h.blk 0 rfl).1 rfl,aC (k:=X) (h.blk 3 rfl).1 aM.1⟩;go_upto_region 8 with fail;refine wp_region_noPanic ?_;refine nG 16 (fun w'=>w'.cell? ⟨R,1,none⟩=some (.slice (some ⟨u,0,none⟩) N N)/\w'.cell? ⟨u,X,none⟩=some (.slice B nb cb)) (g.1 _ _ _ _ _ HT.1) (fun D j=>?_);refine onT D 0 opA j ?_;refine onT D 1 (opB opA) j ?_;refine onT D 2 (opB (opB opA)) j ?_;refine onT D 3 (opB (opB (opB opA))) j ?_;refine onT D 4 (opC opA) j ?_;refine onT D 5 (opC (opB opA)) j ?_;refine onT D 6 (opC (opB (opB opA))) j ?_;refine onT D 7 (opC (opB (opB (opB opA)))) j ?_;refine onT D 8 (opC (opC opA)) j ?_;refine onT D 9 (opC (opC (opB opA))) j ?_;refine onT D 10 (opC (opC (opB (opB opA)))) j ?_;refine onT D 11 (opC (opC (opB (opB (opB opA))))) j ?_;refine onT D 12 (opC (opC (opC opA))) j ?_;have HA:Hv (aD U (wr.alloc (.cells #[.int .i64 (n:Int)] 3)).drew [.blk R #[.slice (some ⟨J,0,none⟩) N N,.slice (some ⟨u,0,none⟩) N N] 241,.blk J Q 26,.cels (G.map aI) Q.toList,.blk u (vs) 26,.cels ((V.map aI).set X (.int 0)) (vs.toList.set X (.int .i64 0)),.cel (aI (V[X]?.getD [])) (.slice B nb cb)]):=Hd (HT.1.alloc _);refine sV D 13 (opC (opC (opC (opB opA)))) (fun K hK=>?_)
   go_simp
   refine hK.out _ _ (g.1 _ _ _ _ _ HA.1) (fun j=>?_);clear hK K
   try simp only[Act.put,List.setIfInBounds_toArray,List.set_cons_zero,List.set_cons_succ]
   refine sV D 14 (opC (opC (opC (opB (opB opA))))) (fun K hK=>?_);refine iH rfl _ _ (by rfl) _ HA.1 5 B nb cb (V[X]?.getD []) (n:Int) _ (0,0) rfl (by rfl) (by rfl) (aG _ _) (by omega) ?_;intro g8 I w8 S8 _;have Y:Hv (aD U w8 [.blk R #[.slice (some ⟨J,0,none⟩) N N,.slice (some ⟨u,0,none⟩) N N] 241,.blk J Q 26,.cels (G.map aI) Q.toList,.blk u (vs) 26,.cels ((V.map aI).set X (.int 0)) (vs.toList.set X (.int .i64 0)),.cel (aI (V[X]?.getD []++[(n:Int)])) (.slice (some ⟨g8,0,none⟩) (nb+1) I)]):=Hd S8;clear S8;refine hK.out _ _ (g.1 _ _ _ _ _ Y.1) (fun j=>?_);clear hK K
   try simp only[Act.put,List.setIfInBounds_toArray,List.set_cons_zero,List.set_cons_succ]
   have c8:=aC (k:=X) (Y.1.blk 3 rfl).1 aM.1;have f8:=aN (Y.1.blk 3 rfl).1 X;have q8:=aH (Y.1.blk 3 rfl).1;refine onT D 15 (opC (opC (opC (opB (opB (opB opA)))))) j ?_;refine FL D 16 (opD opA) ?_;go_wp2_with fail;refine NoPanic.normal ?_;have a8:Hv (aD U (w8.setCell ⟨u,X,none⟩ (.slice (some ⟨g8,0,none⟩) (nb+1) I)) [.blk R #[.slice (some ⟨J,0,none⟩) N N,.slice (some ⟨u,0,none⟩) N N] 241,.blk J Q 26,.cels (G.map aI) Q.toList,.blk u (vs.setIfInBounds X (.slice (some ⟨g8,0,none⟩) (nb+1) I)) 26,.cels ((V.set X (V[X]?.getD []++[(n:Int)])).map aI) (vs.setIfInBounds X (.slice (some ⟨g8,0,none⟩) (nb+1) I)).toList]):=Hd (((Y.1.put 3 rfl X (.slice (some ⟨g8,0,none⟩) (nb+1) I)).rowBack 4 5 X (by decide) rfl aK rfl).sub (List.sublist_append_left [_,_,_,_,_] [_]));go_wp2;go_roundw
   ·exact⟨i+1,_,by omega,by go_num,by rw[av.1];exact a8.1⟩
   simp[intOf];omega
  have aV:i=m:=by omega
  have a6:=dF (by omega:m<=i);have hs:=ag.1;rw[aV,←ao.1,←a2.1]at hs;have bb:=Hd hs;clear hs aV;go_wp2;go_roundw
  ·exact⟨n+1,vs,by omega,by go_num,bb.1⟩
  simp[intOf];omega
 have aW:n=N:=by omega
 have bh:=dF (by omega:N<=n);have hs:=HP.1;rw[aW]at hs;have HK:=Hd (OD H.1);have ar:=hs.rowsN 4 rfl;rw[HK.1.len]at ar;have ap:=hs.rowsN 2 rfl;rw[H.1.len]at ap;have hf:=(hs.fuse 3 4 (by decide) rfl rfl ar (by unfold maxLen;omega)).fuse 1 2 (by decide) rfl rfl ap (by unfold maxLen;omega)
 have be:Hv (wI wr R N G (kRw G N N)):=Hd<|by
  have h0:=(hf.blk 0 rfl).1;exact⟨aH h0,_,_,_,_,aC (k:=0) h0 rfl,aC (k:=1) h0 rfl,hf.rd 1 rfl,hf.rd 3 rfl⟩
 have bm:=Hd (aA bl.1 hf.bel);clear hs hf ar ap aW;go_wp2;go_ret;exact⟨_,_,rfl,HK.1,be.1,bm.1⟩
/-! ### the answer -/
def qC(d:Dev)(place:List Int)(cs:List Cn):Prop:=∀c∈cs,0<=dN d place c/\eZ d place c
def sW(d:Dev)(place:List Int)(cs:List Cn)(k:Nat):Int:=dN d place (cs[k]?.getD Cn.zero)
def vD(d:Dev)(place:List Int)(cs:List Cn)(k:Nat):List Int:=eD d place (cs[k]?.getD Cn.zero)
open Classical in
noncomputable def routeF (d:Dev) (place:List Int) (cs:List Cn):List Rou×Bool :=
 if bQ d=true/\dW (place.length:Int) cs/\qC d place cs then rtGo (nN d) (grG d) (sW d place cs) (vD d place cs) cs.length 12 1 (List.replicate cs.length Rou.zero) (List.replicate (nN d) 0)else([],false)
theorem jr{d:Dev}{place:List Int}{cs:List Cn}(h:¬(bQ d=true/\dW (place.length:Int) cs/\qC d place cs)):routeF d place cs=([],false):=by unfold routeF;rw[if_neg h]
theorem vE{d:Dev}{place:List Int}{cs:List Cn}(h1:bQ d=true)(h2:dW (place.length:Int) cs)(h3:qC d place cs):routeF d place cs=rtGo (nN d) (grG d) (sW d place cs) (vD d place cs) cs.length 12 1 (List.replicate cs.length Rou.zero) (List.replicate (nN d) 0):=by unfold routeF;rw[if_pos ⟨h1,h2,h3⟩]
theorem Bf{d:Dev}{t q:Int}(ht:ai d t=true)(h0:0<=q)(h1:q<7):t*ag d+q<fE d:=by
 obtain⟨hd,j,g⟩:=aP.1 ht;have hp:=fT hd;have h2:(t+1)*ag d<=d.W*d.H*ag d:=Int.mul_le_mul_of_nonneg_right (by omega) (by omega);rw[Int.add_mul,Int.one_mul]at h2;unfold fE;omega
theorem vF{d:Dev}{place:List Int}{c:Cn}(h:0<=dN d place c):dN d place c<fE d:=by
 unfold dN at h ⊢
 split
 ·rename_i hc;rw[if_pos hc]at h;unfold fB at h ⊢
  split
  ·rename_i ho
   have hk:c.src.pin<2:=by
    have:=ho.2.2;unfold eU at this
    split at this
    ·omega
    split at this
    ·omega
    split at this <;> omega
   have:=Bf (q:=5+c.src.pin) ho.1 (by omega) (by omega);omega
  rename_i ho;rw[if_neg ho]at h;omega
 rename_i hc;rw[if_neg hc]at h;omega
theorem FQ{d:Dev}{place:List Int}{p:aL}(h:0<=df d place p):df d place p<fE d:=by
 unfold df at h ⊢
 split
 ·rename_i hc;rw[if_pos hc]at h;unfold qB at h ⊢
  split
  ·rename_i ho
   have hk:p.pin<7:=by
    have:=ho.2.2;unfold jK at this
    split at this
    ·omega
    split at this
    ·omega
    split at this <;> omega
   exact Bf ho.1 (by omega) (by omega)
  rename_i ho;rw[if_neg ho]at h;omega
 rename_i hc;rw[if_neg hc]at h;omega
theorem rH{d:Dev}{place:List Int}{c:Cn}(h:eZ d place c):∀s∈eD d place c,0<=s/\s<fE d:=by
 intro s hs;unfold eD at hs;obtain⟨p,hp,rfl⟩:=List.mem_map.1 hs;exact⟨h p hp,FQ (h p hp)⟩
theorem qC.at_{d:Dev}{place:List Int}{cs:List Cn}(h:qC d place cs){k:Nat}(hk:k<cs.length):0<=dN d place (cs[k]?.getD Cn.zero)/\eZ d place (cs[k]?.getD Cn.zero):=by
 rw[List.getElem?_eq_getElem hk];exact h _ (List.getElem_mem hk)
theorem qC.all{d:Dev}{place:List Int}{cs:List Cn}(h:∀k:Nat,k<cs.length→0<=dN d place (cs[k]?.getD Cn.zero)/\eZ d place (cs[k]?.getD Cn.zero)):qC d place cs:=by
 intro c hc;obtain⟨k,hk,rfl⟩:=List.getElem_of_mem hc;have:=h k hk;rw[List.getElem?_eq_getElem hk]at this;exact this
section
variable {N:Nat} {G:List (List Int)} {src:Nat→Int} {snk:Nat→List Int} {H:List Int} {t:Nat} {rs:List Rou}
theorem Bg{k:Nat}{g:List Rou}{r:Rou}(h:rtIn N G src snk H t rs k=some g)(hg:growF G (shc H (gq N (skp g k)) (5*(t:Int))) (src k) (snk k)=some r):rtIn N G src snk H t rs (k+1)=some (g.set k r):=by
 rw[rtIn,h,Option.bind_some,hg];rfl
theorem Bh{k:Nat}(h:rtIn N G src snk H t rs k=none):∀{m},k<=m→rtIn N G src snk H t rs m=none
 | 0,hm=>by rw[show k=0 by omega]at h;exact h
 | m+1,hm=>by
  by_cases e:k=m+1
  ·subst e;exact h
  rw[rtIn,Bh h (show k<=m by omega)];rfl
theorem Bi{k m:Nat}{g:List Rou}(h:rtIn N G src snk H t rs k=some g)(hg:growF G (shc H (gq N (skp g k)) (5*(t:Int))) (src k) (snk k)=none)(hm:k<m):rtIn N G src snk H t rs m=none:=by
 refine Bh (k:=k+1) ?_ hm;rw[rtIn,h,Option.bind_some,hg];rfl
theorem Bj{m f:Nat}(h:rtIn N G src snk H t rs m=none):rtGo N G src snk m (f+1) t rs H=([],false):=by rw[rtGo,h]
theorem Bl{m f:Nat}{g:List Rou}(h:rtIn N G src snk H t rs m=some g)(ho:¬ovr (gq N g) N):rtGo N G src snk m (f+1) t rs H=(g,true):=by rw[rtGo,h];simp only;rw[if_neg ho]
theorem Bn{m f:Nat}{g:List Rou}(h:rtIn N G src snk H t rs m=some g)(ho:ovr (gq N g) N):rtGo N G src snk m (f+1) t rs H=rtGo N G src snk m f (t+1) g (l8 H (gq N g) N):=by rw[rtGo,h];simp only;rw[if_pos ho]
end
theorem FT(U:List Int):¬ovr U 0:=fun⟨_,h,_⟩=>by omega
theorem Ja{U:List Int}{k:Nat}(h:1<U[k]?.getD 0):ovr U (k+1):=⟨k,by omega,h⟩
theorem LW{U:List Int}{k:Nat}(h:¬1<U[k]?.getD 0):ovr U (k+1)↔ovr U k:=by
 constructor
 ·rintro⟨x,hx,g⟩;by_cases e:x=k
  ·subst e;exact absurd g h
  exact⟨x,by omega,g⟩
 rintro⟨x,hx,g⟩;exact⟨x,by omega,g⟩
theorem vU.start(N:Nat):vU N (List.replicate N 0) 1:=⟨by simp,fun x hx=>by rw[List.getElem?_replicate];split <;> simp⟩
theorem vv{N m:Nat}{rs:List Rou}(h:rs.length<=m)(x:Nat):0<=(gq N rs)[x]?.getD 0/\(gq N rs)[x]?.getD 0<=(m:Int):=by
 by_cases hx:x<N
 ·rw[Gt _ hx];have:=EH rs x;omega
 rw[List.getElem?_eq_none (by rw[Mc];omega)];simp
theorem LX(rs:List Rou)(k:Nat):(skp rs k).length<=rs.length:=by
 unfold skp;rw[List.length_append,List.length_take,List.length_drop];omega
theorem Jb{rs:List Rou}{k:Nat}{r:Rou}(h:r∈skp rs k):r∈rs:=by
 unfold skp at h
 rcases List.mem_append.1 h with h|h
 ·exact List.mem_of_mem_take h
 exact List.mem_of_mem_drop h
/-! ### rows of routes among the pieces -/
theorem FU:(Tryz.prog.info? 114).map (fun i=>(i.zero,i.size,i.bytes))=some (some (.agg #[.slice none 0 0,.slice none 0 0]),2,48):=by kernel_rfl
theorem LY(rs:List Rou){k:Nat}(h:k<rs.length)(r:Rou):((rs.flatMap Rou.cells).set (k*2) (aI r.nodes)).set (k*2+1) (aI r.from_)=(rs.set k r).flatMap Rou.cells:=by
 have hx:rs[k]?=some (rs[k]?.getD Rou.zero):=getD_some _ h;have h1:=qo (f:=Rou.cells) (s:=2) Rou.cells_length (xs:=rs) (k:=k) (j:=0) (x:=rs[k]?.getD Rou.zero) (y:=⟨r.nodes,(rs[k]?.getD Rou.zero).from_⟩) (c:=aI r.nodes) hx (by omega) rfl;have g:(rs.set k ⟨r.nodes,(rs[k]?.getD Rou.zero).from_⟩)[k]?=some ⟨r.nodes,(rs[k]?.getD Rou.zero).from_⟩:=by rw[List.getElem?_set_self h]
 have h2:=qo (f:=Rou.cells) (s:=2) Rou.cells_length (xs:=rs.set k ⟨r.nodes,(rs[k]?.getD Rou.zero).from_⟩) (k:=k) (j:=1) (x:=⟨r.nodes,(rs[k]?.getD Rou.zero).from_⟩) (y:=r) (c:=aI r.from_) g (by omega) rfl;rw[Nat.add_zero]at h1;rw[h1,h2,List.set_set]
theorem kF(rs:List Rou):(rs.flatMap Rou.cells).length=rs.length*2:=jM Rou.cells_length rs
theorem zW:∀m:Nat,(List.replicate m Rou.zero).flatMap Rou.cells=List.replicate (m*2) (aI [])
 | 0=>rfl
 | m+1=>by
  rw[List.replicate_succ,List.flatMap_cons,zW m,Nat.succ_mul,List.replicate_succ,List.replicate_succ];rfl
theorem aD.rdRow{W w:World}{q:List Pc}(h:aD W w q)(i j s n c:Nat){e g:Nat}{cs:List Cel}{vs:Array Value}{t:TypeId}(hi:q[i]?=some (.blk g vs t))(hj:q[j]?=some (.cels cs vs.toList))(hn:cs.length=n*s) :
  RdC w w.heap.size (.row e s cs) (.slice (some ⟨g,0,none⟩) n c):=by
 obtain⟨G,k1,_⟩:=h.part i hi;obtain⟨D,k2,_⟩:=h.part j hj;obtain⟨rfl,hl,k3,_⟩:=k1;have z:dh w cs vs.toList D:=k2;rw[kQ];refine⟨_,n,c,rfl,hn,.inr ⟨g,0,vs.toList,rfl,hl,fun j u B=>?_,z.rd⟩⟩;rw[Nat.zero_add];exact aC k3 (by rw[←Array.getElem?_toList];exact B)
theorem aD.fuseN{W w:World}{q:List Pc}(h:aD W w q)(i j s:Nat)(z:i≠j){g n:Nat}{cs:List Cel}{vs:Array Value}{t:TypeId}(hi:q[i]?=some (.blk g vs t))(hj:q[j]?=some (.cels cs vs.toList))(hn:vs.size=n*s)(hm:n<=maxLen) :
  aD W w ((q.set j (.cels [] [])).set i (.cel (.row t s cs) (.slice (some ⟨g,0,none⟩) n n))):=by
 obtain⟨G,B,k1,k2,n1,n2,n3,_,_,D⟩:=h.two i j z hi hj;obtain⟨rfl,_,u,_⟩:=k1;refine D w _ ([g]++B) (dV.2 ⟨_,n,n,vs.toList,B,rfl,⟨by simp[hn],.inr ⟨g,n,vs,rfl,Nat.zero_le _,u,Nat.le_refl _,hm,by simp[hn],?_⟩⟩,rfl,k2⟩) ?_ (fun k hk=>?_) (iZ.refl _ _)
 ·rw[List.take_of_length_le (by simp[hn])]
 ·rw[List.singleton_append,List.nodup_cons];exact⟨fun hm=>n3 g hm (by simp),n2⟩
 rcases List.mem_append.1 hk with hk|hk
 ·exact .inl hk
 exact .inr (.inl hk)
theorem aD.celsLen{W w:World}{q:List Pc}(h:aD W w q)(j:Nat){cs:List Cel}{vs:Array Value}(hj:q[j]?=some (.cels cs vs.toList)):vs.size=cs.length:=by
 obtain⟨u,k1,_⟩:=h.part j hj;have g:dh w cs vs.toList u:=k1;have h2:=g.len;rw[Array.length_toList]at h2;exact h2
def sZ(m:Nat):Array Value:=(List.replicate (m*2) (Value.slice none 0 0)).toArray
theorem Am(m:Nat):madeCells (Value.agg #[.slice none 0 0,.slice none 0 0]).cells (m*2)=sZ m:=by
 have h:madeCells (Value.agg #[.slice none 0 0,.slice none 0 0]).cells (m*2)=(Array.range (m*2)).map fun _=>Value.slice none 0 0:=by
  unfold madeCells;refine congrArg (fun f=>(Array.range (m*2)).map f) (funext fun i=>?_);show(#[Value.slice none 0 0,Value.slice none 0 0]:Array Value)[i%2]! = _;have:i%2=0∨i%2=1:=by omega
  rcases this with h|h <;> rw[h] <;> rfl
 rw[h];refine Array.ext (by simp[sZ]) fun i h1 h2=>?_;rw[Array.getElem_map];simp[sZ]
theorem ui(m:Nat)(hm:m<=1048576)(w:World):(Instr.makeSlice 44 (.int .i64 (m:Int)) (.int .i64 (m:Int))).run Tryz.prog w=.ok (.slice (some ⟨w.heap.size,0,none⟩) m m) (w.alloc (.cells (sZ m) 114)):=by
 obtain⟨u,hi,q,g,j⟩:=info_parts FU;have h:=dQ (P:=Tryz.prog) 44 114 u _ Tryz.underlying44 hi q .i64 .i64 m m (Nat.le_refl _) (by rw[j];omega) (by omega) w;rw[g,Am]at h;exact h
theorem aD.pushRous{W w:World}{g:List Pc}(h:aD W w g)(m:Nat):aD W (w.alloc (.cells (sZ m) 114)) (g++[.blk w.heap.size (sZ m) 114]++[.cels ((List.replicate m Rou.zero).flatMap Rou.cells) (sZ m).toList]) :=
 (h.pushBlk _ _).push (Below.refl _ _) (G:=[]) (show dh _ _ _ [] from by rw[zW];exact xQ _ _) (by simp) (by simp)
theorem aD.putRou{W w:World}{u:List Pc}{q k:Nat}{vs:Array Value}{rs:List Rou}{r:Rou}{j g:Value}{t:TypeId}(h:aD W w (.blk q vs t::.cels (rs.flatMap Rou.cells) vs.toList::.cel (aI r.nodes) j::.cel (aI r.from_) g::u))(hk:k<rs.length) :
  aD W ((w.setCell ⟨q,k*2,none⟩ j).setCell ⟨q,k*2+1,none⟩ g) (.blk q ((vs.setIfInBounds (k*2) j).setIfInBounds (k*2+1) g) t::.cels ((rs.set k r).flatMap Rou.cells) ((vs.setIfInBounds (k*2) j).setIfInBounds (k*2+1) g).toList::.cels [] []::.cels [] []::u):=by
 have h1:=(((h.put 0 rfl (k*2) j).put 0 rfl (k*2+1) g).putIn 1 2 (k*2) (by decide) rfl (by rw[kF];omega) rfl).putIn 1 3 (k*2+1) (by decide) rfl (by rw[List.length_set,kF];omega) rfl;rw[LY rs hk r]at h1;have e:((vs.setIfInBounds (k*2) j).setIfInBounds (k*2+1) g).toList=(vs.toList.set (k*2) j).set (k*2+1) g:=by simp
 rw[e];exact h1
theorem Bo(rs:List Rou)(s:Int):∀k,(jR rs s k).length<=k
 | 0=>Nat.le_refl _
 | k+1=>by
  have:=Bo rs s k;rw[jR]
  split
  ·omega
  rw[List.length_append];simp;omega
theorem xz(N:Nat)(s:Int)(rs:List Rou)(RA:Oh)(rn rc:Nat)(w:World)(hR:RdC w w.heap.size (bM rs) (.slice RA rn rc))(hN:N<=828)(bp:rn<=100)(G:∀r∈rs,r.nodes.length<=828/\∀n∈r.nodes,0<=n/\n<(N:Int)) :
  Calls Tryz.prog 169 #[.int .i64 (N:Int),.slice RA rn rc,.int .i64 s] w fun e w'=>∃A,e=.returned (.slice A N N)/\Own w.heap.size w' A N N (gq N (jR rs s rn))/\Below w.heap.size w w':=by
 have bb:Hv (rs.length=rn):=Hd<|hR.rouN
 obtain⟨HR,aP⟩:=hd2 hR G;clear hR G;obtain⟨i0,hi,aw,aH,az⟩:=info_parts iE;have ax:=fun W=>dQ (P:=Tryz.prog) 26 3 i0 _ Tryz.underlying26 hi aw .i64 .i64 N N (Nat.le_refl _) (by rw[az];omega) (by omega) W;rw[aH,Nat.mul_one,show(Value.int .i64 0).cells=#[Value.int .i64 0] from rfl,kM]at ax;clear hi aw aH az
 have aV:=Hd (show aD w (w.alloc (.cells (arr (List.replicate N 0)) 3)) [.cel (aI (gq N (jR rs s 0))) (.slice (some ⟨w.heap.size,0,none⟩) N N)] from by
  rw[show jR rs s 0=[] from rfl,Gv]
  exact(aD.refl w).consOwn (aB (Below.refl _ _) (.cells (arr (List.replicate N 0)) 3)) (Own.arr (n:=N) (aG w _) (Nat.le_refl _) (by unfold maxLen;omega) (by simp)))
 go_enter Tryz.func169,Tryz.ntmps169;go_wp2_with fail;clear ax
 go_loopw[8] (fun i wr=>∃k:Nat,k<=rn/\i=.int .i64 (k:Int)/\aD w wr [.cel (aI (gq N (jR rs s k))) (.slice (some ⟨w.heap.size,0,none⟩) N N)]) (fun i _=>rn-(intOf i).toNat)
 ·exact⟨0,by omega,rfl,aV.1⟩
 obtain⟨k,hk,rfl,hs⟩:=hrel;have u:=Hd hs;clear hs;by_cases a1:k<rn
 ·have aX:=dT (by omega:k<rn);obtain⟨i0,i1⟩:=ib (by omega:k<rn);have am:Hv (jR rs s (k+1)=if(k:Int)=s then jR rs s k else jR rs s k++[rs[k]?.getD Rou.zero]):=Hd<|by show _=_;rw[jR]
  have a8:Hv ((jR rs s k).length<=100):=Hd<|by have h1:=Bo rs s k;show _<=_;omega
  generalize jR rs s k=B at *;by_cases D:(k:Int)=s
  ·have a4:((k:Int)==s)=true:=by simp[D]
   have H:Hv (jR rs s (k+1)=B):=Hd<|by show _=_;rw[am.1,if_pos D]
   clear D;go_wp2;go_roundw
   ·exact⟨k+1,by omega,by go_num,by rw[H.1];exact u.1⟩
   simp[intOf];omega
  have a4:((k:Int)==s)=false:=by simp[D]
  have H:Hv (jR rs s (k+1)=B++[rs[k]?.getD Rou.zero]):=Hd<|by show _=_;rw[am.1,if_neg D]
  clear D am;have R:k<rs.length:=by rw[bb.1];exact a1
  obtain⟨br,ob,NA,nn,nc,FA,fn,fc,ar,al,e0,e1,ao,aW⟩:=HR.1.rou (k:=k) R;have aZ:=Hd ar;have aj:=aJ u.1.bel al;have aS:Hv (∀v,Below w.heap.size w v→v.cell? ⟨br,ob+k*2,none⟩=some (.slice NA nn nc)):=Hd<|fun v hv=>(hv.cell (p:=⟨br,ob+k*2,none⟩) al).trans e0
  have ak:=aP.1 _ (List.getElem_mem R);rw[show rs[k]=rs[k]?.getD Rou.zero by rw[List.getElem?_eq_getElem R];rfl]at ak;have I:=Hd (Gw N B (rs[k]?.getD Rou.zero));rw[←H.1]at I;clear R ar e0 e1 aW;obtain rfl:=aZ.1;generalize rs[k]?.getD Rou.zero=rx at *;obtain⟨ns,fs⟩:=rx;simp only at I ao ak;have Y:=Hd ao.ints;obtain⟨bc,G⟩:=ak;rw[Y.1.1]at bc;have a3:=Hd G;have aY:=fun W=>jc N (by omega) W;have ah:=u.1.pushRowB N;clear G ao;go_upto_region 7 with fail;obtain⟨gM,ai⟩:∃g,wr.heap.size=g:=⟨_,rfl⟩;rw[ai]at ah
  (try rw[ai])
  have ae:Hv (aD w (wr.alloc (.cells (madeCells #[.bool false] N) 4)) [.cel (aI (l7 N B (ns.take 0))) (.slice (some ⟨w.heap.size,0,none⟩) N N),eO gM N []]):=Hd<|by
   show aD _ _ _;rw[List.take_zero,Gu];exact ah
  clear ai ah aY aj u;generalize wr.alloc (.cells (madeCells #[.bool false] N) 4)=W2 at *;go_wp2
  go_loopw[10] (fun i wr=>∃(j:Nat) (l:List Int),j<=nn/\i=.int .i64 (j:Int)/\l.length<=j/\(∀z,z∈l↔z∈ns.take j)/\aD w wr [.cel (aI (l7 N B (ns.take j))) (.slice (some ⟨w.heap.size,0,none⟩) N N),eO gM N l]) (fun i _=>nn-(intOf i).toNat)
  ·exact⟨0,[],by omega,rfl,by simp,by simp,ae.1⟩
  obtain⟨j,l,hj,rfl,bv,aA,hs⟩:=hrel;obtain⟨u,J⟩:=hd2 hs aA;clear hs aA;have c0:=aS.1 _ u.1.bel;have aj:=aJ u.1.bel al;by_cases Z:j<nn
  ·have a2:=dT (by omega:j<nn);have K:j<ns.length:=by rw[Y.1.1];exact Z
   obtain⟨bn,a0,av,aC,ay⟩:=Y.1.2 (by omega);have aU:=Hd av;have cq:=(u.1.bel.cell (p:=⟨bn,a0+j,none⟩) aC).trans (ay j Z);have a5:=aJ u.1.bel aC;have hx:=a3.1 _ (List.getElem_mem K);rw[show ns[j]=ns[j]?.getD 0 by rw[List.getElem?_eq_getElem K];rfl]at hx;have V:=Hd (bF (z:=0) K)
   have au:Hv (0<=(l7 N B (ns.take j))[(ns[j]?.getD 0).toNat]?.getD 0/\(l7 N B (ns.take j))[(ns[j]?.getD 0).toNat]?.getD 0<=101):=Hd<|by
    have h1:=EH B (ns[j]?.getD 0).toNat;have h2:=a8.1;show _/\_;rw[AQ _ _ (by omega)]
    split <;> omega
   clear ay K av;obtain rfl:=aU.1;generalize ns[j]?.getD 0=x at *;generalize ns.take j=tk at *;obtain⟨X,rfl⟩:∃X:Nat,x=(X:Int):=⟨_,(Int.toNat_of_nonneg hx.1).symm⟩;have U:X<N:=by omega
   have aK:=Hd (u.1.truth 1 rfl U);obtain⟨ag,tf,⟨_,tl⟩,_⟩:=u.1.truth 1 rfl U;obtain⟨X0,X1⟩:=ib (by omega:X<N);obtain⟨j0,j1⟩:=ib (by omega:j<nn);clear hx;rw[Int.toNat_natCast]at au;by_cases hm:(X:Int)∈tk
   ·have q:(X:Int)∈l:=(J.1 _).2 hm;rw[decide_eq_true q]at ag;have a9:=Hd (CQ N B hm);have ae:Hv (aD w wr [.cel (aI (l7 N B (tk++[(X:Int)]))) (.slice (some ⟨w.heap.size,0,none⟩) N N),eO gM N l]):=Hd<|by show aD _ _ _;rw[a9.1];exact u.1
    have ap:Hv (∀z,z∈l↔z∈tk++[(X:Int)]):=Hd<|fun z=>by
     have h1:=J.1 z;simp only[h1,List.mem_append,List.mem_singleton]
     constructor
     ·exact fun h => .inl h
     rintro(h|h)
     ·exact h
     rw[h];exact hm
    clear hm q;go_wp2;go_roundw
    ·exact⟨j+1,l,by omega,by go_num,by omega,by rw[V.1];exact ap.1,by rw[V.1];exact ae.1⟩
    simp[intOf];omega
   have q:(X:Int)∉l:=fun h=>hm ((J.1 _).1 h);rw[decide_eq_false q]at ag;have aL:=Hd (Gx B U hm);have ap:Hv (∀z,z∈l++[(X:Int)]↔z∈tk++[(X:Int)]):=Hd<|fun z=>by simp[J.1 z]
   clear hm q;have aQ:=Hd aK.1.2.2.2;clear aK;go_upto_region 13 with fail;clear c0 aj cq a5 ag tf tl;generalize wr.setCell ⟨gM,X,none⟩ (.bool true)=w9 at *;obtain⟨g9,aN,l9,bh,c9,f9,aE⟩:=aQ.1.setI 0 rfl U;obtain rfl:w.heap.size=g9:=by injection aN with h;injection h
   have af:=aE ((l7 N B tk)[X]?.getD 0+1);rw[aL.1]at af;have a7:=Hd af;have aT:=au.1;generalize (l7 N B tk)[X]?.getD 0=v at *;obtain⟨bl,bt⟩:=aT;clear af aE aN aL;go_wp2;go_roundw
   ·exact⟨j+1,l++[(X:Int)],by omega,by go_num,by simp;omega,by rw[V.1];exact ap.1,by rw[V.1];exact a7.1⟩
   simp[intOf];omega
  have aM:j=nn:=by omega
  have a2:=dF (by omega:nn<=j);have aF:Hv (ns.take j=ns):=Hd<|by show _=_;rw[aM];exact List.take_of_length_le (by rw[Y.1.1];exact Nat.le_refl _)
  have hs:=u.1;rw[aF.1,I.1]at hs;have Q:=Hd (hs.sub (List.Sublist.cons_cons _ (List.Sublist.cons _ (List.nil_sublist _))));clear aM hs u aF;go_wp2;go_roundw
  ·exact⟨k+1,by omega,by go_num,Q.1⟩
  simp[intOf];omega
 have aR:k=rn:=by omega
 have aX:=dF (by omega:rn<=k);have Q:=Hd u.1;subst aR;clear u;go_wp2;go_ret;exact⟨_,rfl,Q.1.owned 0 rfl,Q.1.bel⟩
theorem LZ(d:Dev)(place:List Int)(N a b:Int)(ss:List aL)(PA SA:Oh)(pn pc m j:Nat)(w:World)(hp:bT w PA pn place)(hs:RdC w w.heap.size (aZ ss) (.slice SA m j))(g:pn<=1048576)(hm:m<=1048576)(q:eZ d place ⟨N,⟨a,b⟩,ss⟩) :
  Calls Tryz.prog 117 #[.agg (dv d),.slice PA pn pc,.agg #[.int .i64 N,.int .i64 a,.int .i64 b,.slice SA m j]] w fun e w'=>∃A c,e=.returned (.slice A m c)/\bT w' A m (eD d place ⟨N,⟨a,b⟩,ss⟩)/\Below w.heap.size w w' :=
 (tX d place N a b ss PA SA pn pc m j w hp hs g hm).mono fun e w' ⟨h,hb⟩=>by
  rcases h with⟨h1,A,c,h2,h3⟩|⟨h1,_⟩
  ·exact⟨A,c,h2,h3.ints,hb⟩
  exact absurd q h1
theorem aD.swap2{W w:World}{a b c d:Pc}{g:List Pc}(h:aD W w (a::b::c::d::g)):aD W w (c::d::a::b::g) :=
 h.perm ((List.perm_append_comm (l₁:=[a,b]) (l₂:=[c,d])).append_right g)
theorem FV(N:Nat)(G:List (List Int))(C ks:List Int)(g:Nat)(j CA SA:Oh)(D cc sn sc:Nat)(w:World)(J:RdC w w.heap.size (mG G) (.slice j N D))(I:bT w CA N C)(Q:bT w SA sn ks)(hg:jW N G C [])(K:0<N)(hr:∀x:Nat,(G[x]?.getD []).length<=26)(q:sn<=1048576)(z:g<N)(u:∀s∈ks,0<=s/\s<(N:Int)) :
  Calls Tryz.prog 170 #[.slice j N D,.slice CA N cc,.int .i64 (g:Int),.slice SA sn sc] w fun e w'=>∃ok A n c B e',e=.returned (.tuple #[.agg #[.slice A n c,.slice B n e'],.bool ok])/\(ok=false/\growF G C (g:Int) ks=none∨ok=true/\∃r,growF G C (g:Int) ks=some r/\pu N r/\aD w w' [.cel (aI r.nodes) (.slice A n c),.cel (aI r.from_) (.slice B n e')])/\Below w.heap.size w w' :=
 (FN N G C ks g j CA SA D cc sn sc w J I Q hg K hr q z u).mono fun e w' h=>by
  rcases h with⟨h1,h2,h3⟩|⟨r,A,n,c,B,e',h1,h2,h3,H⟩
  ·exact⟨false,none,0,0,none,0,h2,.inl ⟨rfl,h1⟩,h3.bel⟩
  exact⟨true,A,n,c,B,e',h3,.inr ⟨rfl,r,h1,h2,H⟩,H.bel⟩
theorem Ao(d:Dev)(place:List Int)(cs:List Cn)(PA CA:Oh)(pn pc cn cc:Nat)(w:World)(hp:bT w PA pn place)(hC:RdC w w.heap.size (bL cs) (.slice CA cn cc))(bp:pn<=1048576)(cf:∀c∈cs,c.sinks.length<=1048576) :
  Calls Tryz.prog 87 #[.agg (dv d),.slice PA pn pc,.slice CA cn cc] w fun e w'=>(∃rs A c,routeF d place cs=(rs,true)/\e=.returned (.tuple #[.slice A cn c,.bool true])/\aD w w' [.cel (bM rs) (.slice A cn c)])∨(routeF d place cs=([],false)/\∃A c,e=.returned (.tuple #[.slice A 0 c,.bool false])/\aD w w' []):=by
 have dL:=Hd (aB (Below.refl w.heap.size w) (.cells (dv d) 36));have dE:=Hd (aG w (.cells (dv d) 36));have HP:=Hd hp;have cK:Hv (place.length=pn):=Hd<|hp.1
 have HC:=Hd hC;have aO:Hv (cs.length=cn):=Hd<|hC.cnN
 have dM:=Hd cf;clear hp hC cf;go_enter Tryz.func87,Tryz.ntmps87;go_upto_region 1 with fail;generalize w.alloc (.cells (dv d) 36)=W9 at *;have b0:=Hd (aB (Below.refl W9.heap.size W9) (.cells #[] 114));have b2:=Hd (aF b0.1 dE.1);have Y:=Hd (aA dL.1 b0.1);go_upto_region 2 with fail;obtain⟨gO,ce⟩:∃g,W9.heap.size=g:=⟨_,rfl⟩
 (try rw[ce])
 clear ce b0;generalize W9.alloc (.cells #[] 114)=W0 at *;obtain⟨x0,x1,x2,x3,lx⟩:=bA (b2.1);go_wp2_with fail;refine(dw d _).mono ?_
 cases hd:bQ d
 case false =>
  rintro _ wd ⟨rfl,bg⟩;have V:Hv (routeF d place cs=([],false)):=Hd<|jr (fun h=>by have:=h.1;rw[hd]at this;cases this)
  have J:=Hd (aA Y.1 bg);clear x0 x1 x2 x3 lx hd;go_wp2
  go_ret2
  first|exact .inr ⟨V.1,⟨_,_,rfl,aD.nil J.1⟩⟩|exact .inr ⟨V.1,⟨_,_,rfl⟩,aD.nil J.1⟩
 rintro _ wd ⟨rfl,bg⟩;have HD:=Hd hd;have bl:=Hd (aA Y.1 bg);have cN:=Hd (aF bg b2.1);clear bg x0 x1 x2 x3 lx hd Y b2;go_wp2_with fail;refine(nZ (pn:Int) cs CA cn cc _ (HC.1.below bl.1) dM.1).mono ?_;by_cases aL:dW (pn:Int) cs
 case neg =>
  rw[dU aL];rintro _ w1 ⟨rfl,b1⟩;have V:Hv (routeF d place cs=([],false)):=Hd<|jr (fun h=>aL (by have:=h.2.1;rw[cK.1]at this;exact this))
  have J:=Hd (aA bl.1 b1);go_wp2
  go_ret2
  first|exact .inr ⟨V.1,⟨_,_,rfl,aD.nil J.1⟩⟩|exact .inr ⟨V.1,⟨_,_,rfl⟩,aD.nil J.1⟩
 rw[bZ aL];rintro _ w1 ⟨rfl,b1⟩;have ar:=Hd (aF b1 cN.1);have Y:=Hd (aA bl.1 b1);have bC:Hv (dW (place.length:Int) cs):=Hd<|by show dW _ _;rw[cK.1];exact aL
 have ct:cn<=100:=by have:=aL.len;rw[aO.1]at this;exact this
 clear b1 aL bl cN;have bq:=fun W=>ui cn (by omega) W;obtain⟨W1,rfl⟩:∃x,x=w1:=⟨w1,rfl⟩;have cg:=Hd ((aD.refl W1).pushRous cn);go_wp2_with fail;clear bq;obtain⟨gR,bO⟩:∃g,W1.heap.size=g:=⟨_,rfl⟩;rw[bO]at cg
 (try rw[bO])
 have d6:W1.heap.size<=gR:=by omega
 clear bO;generalize sZ cn=nv at *;generalize W1.alloc (.cells nv 114)=W2 at *
 go_loopw[10] (fun iv wr=>∃k:Nat,k<=cn/\iv=.int .i64 (k:Int)/\Below W2.heap.size W2 wr/\(∀j,j<k→0<=dN d place (cs[j]?.getD Cn.zero)/\eZ d place (cs[j]?.getD Cn.zero))) (fun iv _=>cn-(intOf iv).toNat)
 ·exact⟨0,by omega,rfl,Below.refl _ _,fun j hj=>by omega⟩
 obtain⟨k,hk,rfl,hb,bz⟩:=hrel;have bt:=Hd bz;have HS:=Hd (cg.1.below hb);have I:=Hd (aA Y.1 HS.1.bel);have aE:=Hd (aF HS.1.bel ar.1);have cL:=Hd hb;clear bz hb;by_cases ad:k<cn
 ·have bP:=dT (by omega:k<cn);obtain⟨x0,x1,x2,x3,lx⟩:=bA (aE.1);have ai:k<cs.length:=by rw[aO.1];exact ad
  obtain⟨bc,oc,SA,m,mc,a6,af,c0,c1,c2,c3,az⟩:=HC.1.cn (k:=k) ai;have bX:=Hd a6;have aj:=aJ I.1 af;rw[←I.1.cell (p:=⟨bc,oc+k*4,none⟩) af]at c0;rw[←I.1.cell (p:=⟨bc,oc+k*4+1,none⟩) af]at c1;rw[←I.1.cell (p:=⟨bc,oc+k*4+2,none⟩) af]at c2;rw[←I.1.cell (p:=⟨bc,oc+k*4+3,none⟩) af]at c3;have aq:nD (place.length:Int) (cs[k]?.getD Cn.zero):=by rw[List.getElem?_eq_getElem ai];exact bC.1.fit _ (List.getElem_mem ai)
  have HG:Hv (0<=dN d place (cs[k]?.getD Cn.zero)/\eZ d place (cs[k]?.getD Cn.zero)→∀j,j<k+1→0<=dN d place (cs[j]?.getD Cn.zero)/\eZ d place (cs[j]?.getD Cn.zero)):=Hd<|fun h=>fQ bt.1 h
  have bm:Hv (qC d place cs→0<=dN d place (cs[k]?.getD Cn.zero)/\eZ d place (cs[k]?.getD Cn.zero)):=Hd<|fun h=>h.at_ ai
  clear ai a6;obtain rfl:=bX.1;generalize cs[k]?.getD Cn.zero=cx at *;obtain⟨N,⟨a,b⟩,ss⟩:=cx;simp only at c0 c1 c2 c3 az;have a2:=Hd (show RdC w w.heap.size (aZ ss) (.slice SA m mc) from az);have bE:Hv (ss.length=m):=Hd<|a2.1.pinN
  have c6:1<=m/\m<=120:=by have h1:=aq.len;rw[show(⟨N,⟨a,b⟩,ss⟩:Cn).sinks=ss from rfl,bE.1]at h1;exact h1
  have hm:m<=1048576:=by omega
  obtain⟨k0,k1⟩:=ib (by omega:k<cn);clear az aq;have R:Hv (∀w',Below wr.heap.size wr w'→(KD w' w.heap.size d (w'.cell? ⟨bc,oc+k*4,none⟩=some (.int .i64 N)/\w'.cell? ⟨bc,oc+k*4+1,none⟩=some (.int .i64 a)/\w'.cell? ⟨bc,oc+k*4+2,none⟩=some (.int .i64 b)/\w'.cell? ⟨bc,oc+k*4+3,none⟩=some (.slice SA m mc)))):=Hd<|fun v hv=>⟨(hv.cell (p:=⟨w.heap.size,0,none⟩) lx).trans x0,(hv.cell (p:=⟨w.heap.size,1,none⟩) lx).trans x1,(hv.cell (p:=⟨w.heap.size,2,none⟩) lx).trans x2,(hv.cell (p:=⟨w.heap.size,3,none⟩) lx).trans x3,(hv.cell (p:=⟨bc,oc+k*4,none⟩) aj).trans c0,(hv.cell (p:=⟨bc,oc+k*4+1,none⟩) aj).trans c1,(hv.cell (p:=⟨bc,oc+k*4+2,none⟩) aj).trans c2,(hv.cell (p:=⟨bc,oc+k*4+3,none⟩) aj).trans c3⟩
  have aK:=Hd (fun(v:World) (hv:Below wr.heap.size wr v)=>sJ d place N a b ss PA SA pn pc m mc v (HP.1.below (aA I.1 hv)) bp);have a7:=Hd (fun(v:World) (hv:Below wr.heap.size wr v)=>Ka d place N a b ss PA SA pn pc m mc v (HP.1.below (aA I.1 hv)) (a2.1.below (aA I.1 hv)) bp hm);generalize dN d place ⟨N,⟨a,b⟩,ss⟩=sv at *;have hD:=(Below.refl wr.heap.size wr).drew;go_upto_region 8 with fail;by_cases dZ:sv<0
  ·have cl:decide (sv<0)=true:=by simp;omega
   have V:Hv (routeF d place cs=([],false)):=Hd<|jr (fun h=>by have:=(bm.1 h.2.2).1;omega)
   have a9:=Hd (fun(x:Sub wr)=>aK.1 x.v x.h);clear hD;have cv:=dB wr;have dp:=au wr;refine wpB wr ?_
   repeat(go_big_quiet_step ((first
    | (go_at_call 119;with_reducible exact aV (a9.1 _)))))
   refine wpQuiet_nil ?_;rintro wq ⟨⟨w5,hD⟩,hw⟩;replace hw:wq=w5:=hw;subst hw;clear cv dp;have J:=Hd (aA I.1 hD);clear x0 x1 x2 x3 lx c0 c1 c2 c3 aj;go_wp2
   go_ret2
   first|exact .inr ⟨V.1,⟨_,_,rfl,aD.nil J.1⟩⟩|exact .inr ⟨V.1,⟨_,_,rfl⟩,aD.nil J.1⟩
  have cl:decide (sv<0)=false:=by simp;omega
  go_region_held3 (fun w'=>KD w' w.heap.size d (w'.cell? ⟨bc,oc+k*4,none⟩=some (.int .i64 N)/\w'.cell? ⟨bc,oc+k*4+1,none⟩=some (.int .i64 a)/\w'.cell? ⟨bc,oc+k*4+2,none⟩=some (.int .i64 b)/\w'.cell? ⟨bc,oc+k*4+3,none⟩=some (.slice SA m mc)))
   (first|with_reducible exact R.1 _ hD)
   ((first
    | (go_at_call 119;(with_reducible refine(aK.1 _ hD).mono ?_);rintro _ w5 ⟨rfl,K⟩;replace hD:=aA hD K;clear K)
    | (go_at_call 117;(with_reducible refine(a7.1 _ hD).mono ?_);rintro e5 w5 ⟨A,m',c,rfl,o5,K⟩;have O5:=Hd o5;replace hD:=aA hD K;clear K o5)))
  rcases O5.1 with⟨bf,rfl,o7⟩|⟨bf,rfl⟩
  ·have dm:((m:Int)==0)=false:=by simp;omega
   have dz:=Hd (HG.1 ⟨by omega,bf⟩);have J:=Hd (aA cL.1 hD);clear o7 bf x0 x1 x2 x3 lx c0 c1 c2 c3 aj;go_wp2;go_roundw
   ·exact⟨k+1,by omega,by go_num,J.1,dz.1⟩
   simp[intOf];omega
  have V:Hv (routeF d place cs=([],false)):=Hd<|jr (fun h=>bf (bm.1 h.2.2).2)
  have J:=Hd (aA I.1 hD);clear bf x0 x1 x2 x3 lx c0 c1 c2 c3 aj;go_wp2
  go_ret2
  first|exact .inr ⟨V.1,⟨_,_,rfl,aD.nil J.1⟩⟩|exact .inr ⟨V.1,⟨_,_,rfl⟩,aD.nil J.1⟩
 have bk:k=cn:=by omega
 have bP:=dF (by omega:cn<=k);have HW:Hv (qC d place cs):=Hd<|qC.all (fun j hj=>bt.1 j (by rw[aO.1]at hj;omega))
 have bS:Hv (routeF d place cs=_):=Hd<|vE HD.1 bC.1 HW.1
 clear bk;have be:=bS.1;rw[aO.1]at be;obtain⟨bD,cy,dJ⟩:=zk HD.1;have bJ:=Hd (fun(v:World)=>DW d v HD.1);have a1:=Hd (DV HD.1)
 have bK:Hv (∀k:Nat,k<cn→(0<=sW d place cs k/\sW d place cs k<(nN d:Int))/\∀s∈vD d place cs k,0<=s/\s<(nN d:Int)):=Hd<|fun k hk=>by
  have h:=HW.1.at_ (k:=k) (by rw[aO.1];exact hk);refine⟨⟨h.1,?_⟩,?_⟩
  ·rw[←bD];exact vF h.1
  rw[←bD];exact rH h.2
 obtain⟨D,cr⟩:∃x,nN d=x:=⟨_,rfl⟩;obtain⟨G,cC⟩:∃x,grG d=x:=⟨_,rfl⟩;rw[cr]at be cy dJ bJ a1 bK;rw[cC]at be bJ a1;have bS:=Hd be;clear be bD cr cC;obtain⟨dd,hi,cd,ck,cE⟩:=info_parts iE;have bq:=fun W=>dQ (P:=Tryz.prog) 26 3 dd _ Tryz.underlying26 hi cd .i64 .i64 D D (Nat.le_refl _) (by rw[cE];omega) (by omega) W;rw[ck,Nat.mul_one,show(Value.int .i64 0).cells=#[Value.int .i64 0] from rfl,kM]at bq;clear hi cd ck cE;obtain⟨x0,x1,x2,x3,lx⟩:=bA (aE.1);go_wp2_with fail;refine(bJ.1 _).mono ?_;rintro _ w2 ⟨GA,gc,rfl,S2⟩;have c9:=Hd (HS.1.pushT S2.bel (S2.tree 0 rfl));have ao:=Hd (c9.1.pushOwn (aB (Below.refl _ _) (.cells (arr (List.replicate D 0)) 3)) (Own.arr (n:=D) (aG w2 _) (Nat.le_refl _) (by unfold maxLen;omega) (by simp)));clear S2 HS I aE cL x0 x1 x2 x3 lx;go_wp2_with fail;clear bq;obtain⟨gH,bV⟩:∃g,w2.heap.size=g:=⟨_,rfl⟩;rw[bV]at ao
 (try rw[bV])
 clear bV
 go_loopw[13] (fun tv wr=>∃(t:Nat) (rs:List Rou) (vs:Array Value) (H:List Int),1<=t/\t<=13/\tv=.int .i64 (t:Int)/\aD W1 wr [.blk gR vs 114,.cels ((rs).flatMap Rou.cells) (vs).toList,.cel (mG G) (.slice GA D gc),.cel (aI H) (.slice (some ⟨gH,0,none⟩) D D)]/\sN D cn rs/\vU D H t/\routeF d place cs=rtGo D G (sW d place cs) (vD d place cs) cn (13-t) t rs H) (fun tv _=>13-(intOf tv).toNat)
 ·exact⟨1,_,_,_,by omega,by omega,rfl,ao.1,sN.start D cn,vU.start D,bS.1⟩
 obtain⟨t,rs,vs,H,ep,et,rfl,hs,al,bB,cF⟩:=hrel;obtain⟨HS,ap,bh,aP⟩:=hd4 hs al bB cF;have I:=Hd (aA Y.1 hs.bel);have aE:=Hd (aF hs.bel ar.1);clear hs al bB cF;by_cases ad:t<=12
 ·have db:decide ((t:Int)<=12)=true:=by simp;omega
  have aP:Hv (routeF d place cs=rtGo D G (sW d place cs) (vD d place cs) cn (12-t+1) t rs H):=Hd<|by have h:=aP.1;rw[show 13-t=12-t+1 by omega]at h;exact h
  go_wp2
  go_loopw[14] (fun kv wr=>∃(k:Nat) (Q:List Rou) (vs:Array Value),k<=cn/\kv=.int .i64 (k:Int)/\rtIn D G (sW d place cs) (vD d place cs) H t rs k=some Q/\sN D cn Q/\aD W1 wr [.blk gR vs 114,.cels ((Q).flatMap Rou.cells) (vs).toList,.cel (mG G) (.slice GA D gc),.cel (aI H) (.slice (some ⟨gH,0,none⟩) D D)]) (fun kv _=>cn-(intOf kv).toNat)
  ·exact⟨0,rs,vs,by omega,rfl,rfl,ap.1,HS.1⟩
  obtain⟨k,Q,vs,hk,rfl,aw,al,hs⟩:=hrel;obtain⟨HS,bo,ap⟩:=hd3 hs aw al;have I:=Hd (aA Y.1 hs.bel);have aE:=Hd (aF hs.bel ar.1);have ah:Hv (Q.length=cn):=Hd<|al.len
  clear hs aw al;by_cases ad:k<cn
  ·have bP:=dT (by omega:k<cn);obtain⟨x0,x1,x2,x3,lx⟩:=bA (aE.1);have ai:k<cs.length:=by rw[aO.1];exact ad
   obtain⟨bc,oc,SA,m,mc,a6,af,c0,c1,c2,c3,az⟩:=HC.1.cn (k:=k) ai;have bX:=Hd a6;have aj:=aJ I.1 af;rw[←I.1.cell (p:=⟨bc,oc+k*4,none⟩) af]at c0;rw[←I.1.cell (p:=⟨bc,oc+k*4+1,none⟩) af]at c1;rw[←I.1.cell (p:=⟨bc,oc+k*4+2,none⟩) af]at c2;rw[←I.1.cell (p:=⟨bc,oc+k*4+3,none⟩) af]at c3;have aq:nD (place.length:Int) (cs[k]?.getD Cn.zero):=by rw[List.getElem?_eq_getElem ai];exact bC.1.fit _ (List.getElem_mem ai)
   have dO:Hv (∀r,growF G (shc H (gq D (skp Q k)) (5*(t:Int))) (dN d place (cs[k]?.getD Cn.zero)) (eD d place (cs[k]?.getD Cn.zero))=some r→rtIn D G (sW d place cs) (vD d place cs) H t rs (k+1)=some (Q.set k r)):=Hd<|fun r h=>Bg bo.1 h
   have dC:Hv (growF G (shc H (gq D (skp Q k)) (5*(t:Int))) (dN d place (cs[k]?.getD Cn.zero)) (eD d place (cs[k]?.getD Cn.zero))=none→routeF d place cs=([],false)):=Hd<|fun h=>aP.1.trans (Bj (Bi bo.1 h ad))
   have dg:Hv (eZ d place (cs[k]?.getD Cn.zero)):=Hd<|(HW.1.at_ ai).2
   have cO:0<=dN d place (cs[k]?.getD Cn.zero)/\dN d place (cs[k]?.getD Cn.zero)<(D:Int):=(bK.1 k ad).1;have dA:Hv (∀s∈eD d place (cs[k]?.getD Cn.zero),0<=s/\s<(D:Int)):=Hd<|(bK.1 k ad).2
   clear ai a6;obtain rfl:=bX.1;generalize cs[k]?.getD Cn.zero=cx at *;obtain⟨N,⟨a,b⟩,ss⟩:=cx;simp only at c0 c1 c2 c3 az;have a2:=Hd (show RdC w w.heap.size (aZ ss) (.slice SA m mc) from az);have bE:Hv (ss.length=m):=Hd<|a2.1.pinN
   have c6:1<=m/\m<=120:=by have h1:=aq.len;rw[show(⟨N,⟨a,b⟩,ss⟩:Cn).sinks=ss from rfl,bE.1]at h1;exact h1
   have hm:m<=1048576:=by omega
   obtain⟨k0,k1⟩:=ib (by omega:k<cn);clear az aq;have bs:Hv (∀(v:World) (q:Nat),Below w.heap.size w v→∀{u:Value},wr.cell? ⟨bc,q,none⟩=some u→v.cell? ⟨bc,q,none⟩=some u):=Hd<|fun v q hv u h=>((hv.cell (p:=⟨bc,q,none⟩) af).trans (I.1.cell (p:=⟨bc,q,none⟩) af).symm).trans h
   have bW:Hv (jR Q (k:Int) cn=skp Q k):=Hd<|by show _=_;have h:=Kc Q (k:=k) (by rw[ah.1];exact ad);rw[ah.1]at h;exact h
   have bn:Hv (∀x:Nat,0<=(gq D (skp Q k))[x]?.getD 0/\(gq D (skp Q k))[x]?.getD 0<=100):=Hd<|fun x=>by
    have h:=vv (N:=D) (m:=100) (rs:=skp Q k) (by have h:=LX Q k;rw[ah.1]at h;omega) x;exact h
   have da:Hv (∀v,Below w.heap.size w v→v.cell? ⟨bc,oc+k*4,none⟩=some (.int .i64 N)/\v.cell? ⟨bc,oc+k*4+1,none⟩=some (.int .i64 a)/\v.cell? ⟨bc,oc+k*4+2,none⟩=some (.int .i64 b)/\v.cell? ⟨bc,oc+k*4+3,none⟩=some (.slice SA m mc)):=Hd<|fun v hv=>⟨bs.1 v _ hv c0,bs.1 v _ hv c1,bs.1 v _ hv c2,bs.1 v _ hv c3⟩
   clear x0 x1 x2 x3 lx c0 c1 c2 c3 aj;go_wp2_with fail;refine(xz D (k:Int) Q (some ⟨gR,0,none⟩) cn cn _ (HS.1.rdRow 0 1 2 cn cn rfl rfl (by rw[kF,ah.1])) (by omega) (by omega) (fun r hr=>⟨Nat.le_trans (ap.1.nodes hr).1 (by omega),(ap.1.nodes hr).2⟩)).mono ?_;rw[bW.1];rintro _ w3 ⟨UA,rfl,o3,b3⟩;have cQ:=Hd o3.ints;have ao:=Hd (HS.1.below b3);have ds:=Hd b3;clear o3 b3;generalize gq D (skp Q k)=U at *;go_wp2_with fail;refine(EY (some ⟨gH,0,none⟩) UA D D D H U (5*(t:Int)) _ (ao.1.ints 3 rfl) cQ.1 (by omega) (fun x hx=>⟨(bh.1.bd x hx).1,by have:=(bh.1.bd x hx).2;omega⟩) bn.1 (by omega) (by omega)).mono ?_;rintro _ w4 ⟨bU,de,rfl,o4,b4⟩;have Z:=Hd o4.ints;have am:=Hd (ao.1.below b4);have cA:=Hd (aA Y.1 am.1.bel);have cY:=Hd (JG (p:=5*(t:Int)) a1.1.len a1.1.gin cy bh.1 (fun x=>(bn.1 x).1) (by omega));clear o4 b4 ao ds cQ;generalize shc H U (5*(t:Int))=C at *;have R:Hv (∀w',Below W1.heap.size W1 w'→(KD w' w.heap.size d (w'.cell? ⟨bc,oc+k*4,none⟩=some (.int .i64 N)/\w'.cell? ⟨bc,oc+k*4+1,none⟩=some (.int .i64 a)/\w'.cell? ⟨bc,oc+k*4+2,none⟩=some (.int .i64 b)/\w'.cell? ⟨bc,oc+k*4+3,none⟩=some (.slice SA m mc)))):=Hd<|fun v hv=>⟨aC (k:=0) (aF hv ar.1) rfl,aC (k:=1) (aF hv ar.1) rfl,aC (k:=2) (aF hv ar.1) rfl,aC (k:=3) (aF hv ar.1) rfl,da.1 v (aA Y.1 hv)⟩
   obtain⟨x0,x1,x2,x3,c0,c1,c2,c3⟩:=R.1 _ am.1.bel;have lx:=aH (aF am.1.bel ar.1);have aj:=aJ cA.1 af;have aK:=Hd (fun(v:World) (hv:Below W1.heap.size W1 v)=>sJ d place N a b ss PA SA pn pc m mc v (HP.1.below (aA Y.1 hv)) bp);have a7:=Hd (fun(v:World) (hv:Below W1.heap.size W1 v)=>LZ d place N a b ss PA SA pn pc m mc v (HP.1.below (aA Y.1 hv)) (a2.1.below (aA Y.1 hv)) bp hm dg.1);generalize dN d place ⟨N,⟨a,b⟩,ss⟩=sv at *;generalize eD d place ⟨N,⟨a,b⟩,ss⟩=kv at *;obtain⟨s0,rfl⟩:∃s0:Nat,sv=(s0:Int):=⟨_,(Int.toNat_of_nonneg cO.1).symm⟩;have di:s0<D:=by omega
   have cD:=Hd (fun(v:World) (cP:Oh) (dt:Nat) (hG:RdC v v.heap.size (mG G) (.slice GA D gc)) (hC:bT v bU D C) (hS:bT v cP m kv)=>FV D G C kv s0 GA bU cP gc de m dt v hG hC hS cY.1 (by omega) a1.1.le hm di dA.1);have z:=Hd am.1.drew;have cJ:=Z;replace Z:Hv (bT w4.drew bU D C):=Hd Z.1;clear cO;go_upto_region 19 with fail
   go_cut[16,17] (fun gv ov w'=>∃g ok A n c B q,gv=.pointer (some ⟨g,0,none⟩)/\ov=.bool ok/\(ok=false/\growF G C (s0:Int) kv=none/\aD W1 w' []∨ok=true/\∃r,growF G C (s0:Int) kv=some r/\pu D r/\aD W1 w' [.blk gR vs 114,.cels (Q.flatMap Rou.cells) vs.toList,.cel (aI r.nodes) (.slice A n c),.cel (aI r.from_) (.slice B n q),.cel (mG G) (.slice GA D gc),.cel (aI H) (.slice (some ⟨gH,0,none⟩) D D),.blk g #[.slice A n c,.slice B n q] 114]))
   case first =>
    go_region_held3 (fun w'=>KD w' w.heap.size d (w'.cell? ⟨bc,oc+k*4,none⟩=some (.int .i64 N)/\w'.cell? ⟨bc,oc+k*4+1,none⟩=some (.int .i64 a)/\w'.cell? ⟨bc,oc+k*4+2,none⟩=some (.int .i64 b)/\w'.cell? ⟨bc,oc+k*4+3,none⟩=some (.slice SA m mc)))
     (first|with_reducible exact R.1 _ z.1.bel|with_reducible exact R.1 _ (am.1.pushBlk #[.slice none 0 0,.slice none 0 0] 114).drew.bel|with_reducible exact R.1 _ (z.1.pushBlk #[.slice none 0 0,.slice none 0 0] 114).bel|with_reducible exact R.1 _ (z.1.pushBlk #[.slice A7 n7 c7,.slice B7 n7 q7] 114).bel|exact R.1 _ ((z.1.put 4 rfl 0 _).put 4 rfl 1 _).bel)
     ((first
      | (go_at_call 119;first
       | ((with_reducible refine(aK.1 _ z.1.bel).mono ?_);rintro _ w5 ⟨rfl,K⟩;replace z:=Hd (z.1.below K);replace Z:=Hd (Z.1.below K);(try replace O5:=Hd (O5.1.below K));clear K)
       | ((with_reducible refine(aK.1 _ (z.1.pushBlk #[.slice none 0 0,.slice none 0 0] 114).bel).mono ?_);rintro _ w5 ⟨rfl,K⟩;replace z:=Hd ((z.1.pushBlk #[.slice none 0 0,.slice none 0 0] 114).below K);replace K:=aA (aB (Below.refl _ _) _) K;replace Z:=Hd (Z.1.below K);(try replace O5:=Hd (O5.1.below K));clear K)
       | ((with_reducible refine(aK.1 _ (am.1.pushBlk #[.slice none 0 0,.slice none 0 0] 114).drew.bel).mono ?_);rintro _ w5 ⟨rfl,K⟩;replace z:=Hd ((am.1.pushBlk #[.slice none 0 0,.slice none 0 0] 114).drew.below K);replace K:=aA (aB (Below.refl _ _) _).drew K;replace Z:=Hd (cJ.1.below K);clear K))
      | (go_at_call 117;first
       | ((with_reducible refine(a7.1 _ z.1.bel).mono ?_);rintro e5 w6 ⟨A,c,rfl,o5,K⟩;have O5:=Hd o5;replace z:=Hd (z.1.below K);replace Z:=Hd (Z.1.below K);clear K o5)
       | ((with_reducible refine(a7.1 _ (z.1.pushBlk #[.slice none 0 0,.slice none 0 0] 114).bel).mono ?_);rintro e5 w6 ⟨A,c,rfl,o5,K⟩;have O5:=Hd o5;replace z:=Hd ((z.1.pushBlk #[.slice none 0 0,.slice none 0 0] 114).below K);replace K:=aA (aB (Below.refl _ _) _) K;replace Z:=Hd (Z.1.below K);clear K o5)
       | ((with_reducible refine(a7.1 _ (am.1.pushBlk #[.slice none 0 0,.slice none 0 0] 114).drew.bel).mono ?_);rintro e5 w6 ⟨A,c,rfl,o5,K⟩;have O5:=Hd o5;replace z:=Hd ((am.1.pushBlk #[.slice none 0 0,.slice none 0 0] 114).drew.below K);replace K:=aA (aB (Below.refl _ _) _).drew K;replace Z:=Hd (cJ.1.below K);clear K o5))
      | (go_at_call 170;first
       | ((with_reducible refine(cD.1 _ _ _ (z.1.rd 2 rfl) Z.1 O5.1).mono ?_);rintro e7 w7 ⟨ok,A7,n7,c7,B7,q7,rfl,h7,b7⟩;have H7:=Hd h7;have a9:=z;replace z:=Hd (z.1.below b7);(try(have r0:=aC (k:=0) (z.1.blk 4 rfl).1 rfl;have Q:=aC (k:=1) (z.1.blk 4 rfl).1 rfl;have dh:=aN (z.1.blk 4 rfl).1 0;have dl:=aN (z.1.blk 4 rfl).1 1;have lr:=aH (z.1.blk 4 rfl).1));clear b7 h7)
       | ((with_reducible refine(cD.1 _ _ _ ((z.1.pushBlk #[.slice none 0 0,.slice none 0 0] 114).rd 2 rfl) (Z.1.below (aB (Below.refl _ _) _)) (O5.1.below (aB (Below.refl _ _) _))).mono ?_);rintro e7 w7 ⟨ok,A7,n7,c7,B7,q7,rfl,h7,b7⟩;have H7:=Hd h7;have a9:=Hd (z.1.pushBlk #[.slice none 0 0,.slice none 0 0] 114);replace z:=Hd ((z.1.pushBlk #[.slice none 0 0,.slice none 0 0] 114).below b7);(try(have r0:=aC (k:=0) (z.1.blk 4 rfl).1 rfl;have Q:=aC (k:=1) (z.1.blk 4 rfl).1 rfl;have dh:=aN (z.1.blk 4 rfl).1 0;have dl:=aN (z.1.blk 4 rfl).1 1;have lr:=aH (z.1.blk 4 rfl).1));clear b7 h7))))
    all_goals
     go_wp2;go_meet
     rcases H7.1 with⟨rfl,hg⟩|⟨rfl,r,hg,a5,S7⟩
     ·first
       | exact⟨_,false,A7,n7,c7,B7,q7,rfl,rfl,.inl ⟨rfl,hg,aD.nil ((z.1.put 4 rfl 0 _).put 4 rfl 1 _).bel⟩⟩
       | exact⟨_,false,A7,n7,c7,B7,q7,rfl,rfl,.inl ⟨rfl,hg,aD.nil (z.1.pushBlk _ _).bel⟩⟩
     first
      | exact⟨_,true,A7,n7,c7,B7,q7,rfl,rfl,.inr ⟨rfl,r,hg,a5,((a9.1.join9 S7).swap2.put 6 rfl 0 _).put 6 rfl 1 _⟩⟩
      | exact⟨_,true,A7,n7,c7,B7,q7,rfl,rfl,.inr ⟨rfl,r,hg,a5,(a9.1.join9 S7).swap2.pushBlk _ _⟩⟩
   obtain⟨gB,ok,A7,n7,c7,B7,q7,rfl,rfl,bY⟩:=hcut;clear x0 x1 x2 x3 lx c0 c1 c2 c3 aj z
   rcases bY with⟨rfl,hg,bb⟩|⟨rfl,r,hg,a5,bb⟩
   ·have V:=Hd (dC.1 hg);have J:=Hd (aA Y.1 bb.bel);clear hg bb;go_wp2
    go_ret2
    first|exact .inr ⟨V.1,⟨_,_,rfl,aD.nil J.1⟩⟩|exact .inr ⟨V.1,⟨_,_,rfl⟩,aD.nil J.1⟩
   have aS:=Hd bb;have bm:=Hd (dO.1 r hg);have aU:=Hd (ap.1.set (k:=k) a5);have aT:=aS.1.celsLen 1 rfl;rw[kF,ah.1]at aT;have hb:=(aS.1.blk 0 rfl).1;obtain⟨v0,ci⟩:∃v,vs[k*2]?=some v:=⟨_,Array.getElem?_eq_getElem (by omega)⟩;obtain⟨v1,cG⟩:∃v,vs[k*2+1]?=some v:=⟨_,Array.getElem?_eq_getElem (by omega)⟩;have d0:=aC (k:=k*2) hb ci;have d1:=aC (k:=k*2+1) hb cG;have e0:=aN hb (k*2);have e1:=aN hb (k*2+1);have lb:=aH hb;have r0:=aC (k:=0) (aS.1.blk 6 rfl).1 rfl;have ei:=aC (k:=1) (aS.1.blk 6 rfl).1 rfl;have lr:=aH (aS.1.blk 6 rfl).1;have dr:=Hd (aS.1.putRou (by rw[ah.1];exact ad));clear hg a5 bb aT hb ci cG;go_wp2;go_roundw
   ·exact⟨k+1,Q.set k r,_,by omega,by go_num,bm.1,aU.1,dr.1.sub (by exact List.Sublist.cons_cons _ (List.Sublist.cons_cons _ (List.Sublist.cons _ (List.Sublist.cons _ (List.sublist_append_left [_,_] [_])))))⟩
   simp[intOf];omega
  have bk:k=cn:=by omega
  have bP:=dF (by omega:cn<=k);have bW:Hv (jR Q (-1) cn=Q):=Hd<|by show _=_;rw[CR Q cn (by rw[ah.1];exact Nat.le_refl _)];exact List.take_of_length_le (by rw[ah.1];exact Nat.le_refl _)
  have aw:=bo.1;rw[bk]at aw;have c8:Hv (ovr (gq D Q) D→routeF d place cs=rtGo D G (sW d place cs) (vD d place cs) cn (12-t) (t+1) Q (l8 H (gq D Q) D)):=Hd<|fun h=>aP.1.trans (Bn aw h)
  have c4:Hv (¬ovr (gq D Q) D→routeF d place cs=(Q,true)):=Hd<|fun h=>aP.1.trans (Bl aw h)
  clear bk aw bo;go_wp2_with fail;refine(xz D (-1) Q (some ⟨gR,0,none⟩) cn cn _ (HS.1.rdRow 0 1 2 cn cn rfl rfl (by rw[kF,ah.1])) (by omega) (by omega) (fun r hr=>⟨Nat.le_trans (ap.1.nodes hr).1 (by omega),(ap.1.nodes hr).2⟩)).mono ?_;rw[bW.1];rintro _ w3 ⟨UA,rfl,o3,b3⟩;have ao:=Hd (HS.1.pushOwn b3 o3);have bn:Hv (∀x:Nat,0<=(gq D Q)[x]?.getD 0/\(gq D Q)[x]?.getD 0<=100):=Hd<|fun x=>vv (N:=D) (m:=100) (rs:=Q) (by rw[ah.1];exact ct) x
  have bH:Hv (∀q,vU D (l8 H (gq D Q) q) (t+1)):=Hd<|fun q=>bh.1.step ah.1 ct q
  have dc:Hv (H.length=D):=Hd<|bh.1.len
  clear o3 b3;generalize gq D Q=U at *;go_wp2
  go_loopw[19,20] (fun ov kv wr=>∃q:Nat,q<=D/\ov=.bool (tb (ovr U q))/\kv=.int .i64 (q:Int)/\aD W1 wr [.blk gR vs 114,.cels ((Q).flatMap Rou.cells) (vs).toList,.cel (mG G) (.slice GA D gc),.cel (aI (l8 H U q)) (.slice (some ⟨gH,0,none⟩) D D),.cel (aI U) (.slice UA D D)]) (fun _ kv _=>D-(intOf kv).toNat)
  ·exact⟨0,by omega,by rw[dU (FT U)],rfl,by rw[CS];exact ao.1⟩
  obtain⟨q,hq,rfl,rfl,hs⟩:=hrel;have HS:=Hd hs;clear hs;by_cases ad:q<D
  ·have cW:=dT (by omega:q<D);have ea:=bn.1 q;have ew:=((bH.1 q).bd q ad).1;have dP:=((bH.1 q).bd q ad).2;obtain⟨bu,ou,cM,eh,cI⟩:=(HS.1.ints 4 rfl).2 (by omega);have dG:=Hd cM;have cu:=cI q ad;have bG:=Hd (CU H U (k:=q));have bI:=Hd (CV (H:=H) (U:=U) (k:=q) (by rw[dc.1];exact ad));obtain⟨g1,cB,_,lg,cX,fX,bx⟩:=HS.1.setI 3 rfl ad;obtain rfl:gH=g1:=by injection cB with h;injection h
   have a0:=Hd bx;have c5:=Hd (Ja (U:=U) (k:=q));have dj:=Hd (LW (U:=U) (k:=q));clear cM cI cB bx;obtain rfl:=dG.1;generalize U[q]?.getD 0=u at *;obtain⟨q0,q1⟩:=ib (by omega:q<D);by_cases h1:1<u
   ·have cU:decide (u>1)=true:=by simp;omega
    have HO:Hv (tb (ovr U (q+1))=true):=Hd<|bZ (c5.1 h1)
    have ch:=Hd (bI.1 h1);have cp:=Hd (a0.1 ((l8 H U q)[q]?.getD 0+4*(u-1)));rw[ch.1]at cp;generalize (l8 H U q)[q]?.getD 0=h at *;have ex:IntKind.i64.wrap (u-1)=u-1:=IntWalk.i64_in _ (by omega);have d8:IntKind.i64.wrap (4*(u-1))=4*(u-1):=IntWalk.i64_in _ (by omega);have en:IntKind.i64.wrap (h+4*(u-1))=h+4*(u-1):=IntWalk.i64_in _ (by omega);clear h1 bG bI a0;go_upto_region 30 with fail;refine wp_region_noPanic ?_;refine nG 14 (fun w'=>w'.cell? ⟨gH,q,none⟩=some (.int .i64 h)/\w'.cell? ⟨bu,ou+q,none⟩=some (.int .i64 u)) (⟨cX,cu⟩) (fun hT hD=>?_);refine onT hT 0 opA hD ?_;refine onT hT 1 (opB opA) hD ?_;refine onT hT 2 (opB (opB opA)) hD ?_;refine onT hT 3 (opB (opB (opB opA))) hD ?_;refine onT hT 4 (opC opA) hD ?_;refine onT hT 5 (opC (opB opA)) hD ?_;refine onT hT 6 (opC (opB (opB opA))) hD ?_;refine onT hT 7 (opC (opB (opB (opB opA)))) hD ?_;refine onT hT 8 (opC (opC opA)) hD ?_;refine onT hT 9 (opC (opC (opB opA))) hD ?_;refine onT hT 10 (opC (opC (opB (opB opA)))) hD ?_;refine onT hT 11 (opC (opC (opB (opB (opB opA))))) hD ?_;refine onT hT 12 (opC (opC (opC opA))) hD ?_;refine onT hT 13 (opC (opC (opC (opB opA)))) hD ?_;refine FL hT 14 (opC (opC (opC (opB (opB opA))))) ?_;go_wp2_with fail;refine NoPanic.normal ?_;go_wp2;go_roundw
    ·exact⟨q+1,by omega,by rw[HO.1],by go_num,cp.1.drew⟩
    simp[intOf];omega
   have cU:decide (u>1)=false:=by simp;omega
   have HO:Hv (tb (ovr U (q+1))=tb (ovr U q)):=Hd<|by show _=_;rw[show ovr U (q+1)=ovr U q from propext (dj.1 h1)]
   have cz:=Hd (bG.1 h1);clear h1 bG bI a0;go_wp2;go_roundw
   ·exact⟨q+1,by omega,by rw[HO.1],by go_num,by rw[cz.1];exact HS.1⟩
   simp[intOf];omega
  have a8:q=D:=by omega
  have cW:=dF (by omega:D<=q);rw[a8]at HS;have J:=Hd (aA Y.1 HS.1.bel);by_cases ho:ovr U D
  ·have a3:tb (ovr U q)=true:=by rw[a8];exact bZ ho
   have aU:=Hd (c8.1 ho);have dk:=Hd (bH.1 D);have br:=Hd (HS.1.sub (List.sublist_append_left [_,_,_,_] [_]));rw[a3];clear a8 ho a3;go_wp2;go_roundw
   ·exact⟨t+1,Q,_,_,by omega,by omega,by go_num,br.1,ap.1,dk.1,by rw[show 13-(t+1)=12-t by omega];exact aU.1⟩
   simp[intOf];omega
  have a3:tb (ovr U q)=false:=by rw[a8];exact dU ho
  have aU:=Hd (c4.1 ho);have aT:=HS.1.celsLen 1 rfl;rw[kF,ah.1]at aT;have br:=Hd (((HS.1.fuseN 0 1 2 (by decide) rfl rfl aT (by unfold maxLen;omega)).sub (qs:=[.cel (bM Q) (.slice (some ⟨gR,0,none⟩) cn cn)]) (by exact List.Sublist.cons_cons _ (List.nil_sublist _))).lowerC Y.1 (lo:=_) (hi:=_) Y.1.size (Nat.le_refl _) (Chg.refl' _ _ _));rw[a3];clear a8 ho a3 aT;go_wp2
  go_ret2
  first|exact .inl ⟨_,_,_,aU.1,rfl,br.1⟩|exact .inl ⟨_,aU.1,_,_,rfl,br.1⟩
 have bw:t=13:=by omega
 have db:decide ((t:Int)<=12)=false:=by simp;omega
 have V:Hv (routeF d place cs=([],false)):=Hd<|by show _=_;rw[aP.1,bw];rfl
 have J:=I;clear bw;go_wp2
 go_ret2
 first|exact .inr ⟨V.1,⟨_,_,rfl,aD.nil J.1⟩⟩|exact .inr ⟨V.1,⟨_,_,rfl⟩,aD.nil J.1⟩
end Go.Proofs.YtofihjoanjkdmaaGreat
