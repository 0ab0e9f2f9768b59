/- Valid blocks in the program (printed by mkblk.py). -/
import Derived.Deep.CutBlock
import Derived.Deep.CutRange
import Derived.Deep.DeepCutAuto
import Derived.Test.YtofihjoanjkdmaaGreatLayF3
namespace Go.Proofs.YtofihjoanjkdmaaGreat
set_option maxHeartbeats 8000000
set_option maxRecDepth 100000
open Go.RowKit
theorem Nr{b:Bool}{P:Prop}(h:b=true↔P):b=tb P:=by
 cases b with
 | true=>rw[bZ (h.1 rfl)]
 | false=>rw[dU fun hp=>by cases h.2 hp]
theorem aD.join{W w w':World}{j qs:List Pc}(S:aD W w j)(T:aD w w' qs):aD W w' (j++qs):=by
 obtain⟨h1,F,h2,h3,u⟩:=S;obtain⟨k1,G,k2,k3,g⟩:=T;have hl:=h2.lt;refine⟨aA h1 k1,F++G,(h2.keep k1.size fun k hk=>k1.block k (hl k hk)).append k2,?_,fun k hk=>?_⟩
 ·rw[List.nodup_append];exact⟨h3,k3,fun a q b hb e=>by have:=hl a q;have:=g b hb;omega⟩
 rcases List.mem_append.1 hk with hk|hk
 ·exact u k hk
 have:=g k hk;have:=h1.size;omega
theorem mR{W wr:World}{j:List Pc}(S:aD W wr j)(i:Nat){C g:Nat}{xs:List Int}{X:Nat}(hi:j[i]?=some (.cel (aI (aK C xs)) (.slice (some ⟨g,0,none⟩) C C)))(q:X<C) :
  wr.cell? ⟨g,X,none⟩=some (.int .i64 ((cnt xs (X:Int):Nat):Int))/\wr.frozen? ⟨g,X,none⟩=false/\g<wr.heap.size/\aD W (wr.setCell ⟨g,X,none⟩ (.int .i64 (((cnt xs (X:Int):Nat):Int)+1))) (j.set i (.cel (aI (aK C (xs++[(X:Int)]))) (.slice (some ⟨g,0,none⟩) C C))):=by
 obtain⟨G,hg,_,h2,h3,B,D⟩:=S.setI i hi q;injection hg with hg
 injection hg with hg
 subst hg;rw[jZ xs q]at h3;refine⟨h3,B,h2,?_⟩;have z:=D (((cnt xs (X:Int):Nat):Int)+1);have u:=xk (m:=C) xs (x:=(X:Int)) (by omega);rw[Int.toNat_natCast]at u;rw[u]at z;exact z
def JD(W:World)(n m:Nat)(p u:Value)(w':World):Prop:=∃A B,p=.slice (some ⟨A,0,none⟩) n n/\u=.slice (some ⟨B,0,none⟩) m m/\aD W w' [.cel (aI (aK n [])) p,.cel (aI (aK m [])) u]
theorem JD.drew{W w':World}{n m:Nat}{p u:Value}(h:JD W n m p u w'):JD W n m p u w'.drew:=by
 obtain⟨A,B,h1,h2,h3⟩:=h;exact⟨A,B,h1,h2,h3.drew⟩
theorem JE{W w:World}{g:List Pc}(S:aD W w g)(n:Nat)(hn:n<=1048576):aD W (w.alloc (.cells (arr (List.replicate n 0)) 3)) (g++[.cel (aI (aK n [])) (.slice (some ⟨w.heap.size,0,none⟩) n n)]):=by
 rw[rE];exact S.pushOwn (aB (Below.refl _ _) _) (Own.arr (aG _ _) (Nat.le_refl _) (by unfold maxLen;omega) (by simp))
theorem Oa{W w:World}{g:List Pc}(S:aD W w g)(n:Nat)(hn:n<=1048576):aD W (w.alloc (.cells (arr (List.replicate n 0)) 3)) (.cel (aI (aK n [])) (.slice (some ⟨w.heap.size,0,none⟩) n n)::g):=by
 rw[rE];exact S.consOwn (aB (Below.refl _ _) _) (Own.arr (aG _ _) (Nat.le_refl _) (by unfold maxLen;omega) (by simp))
theorem Jm(W:World)(n m:Nat)(hn:n<=1048576)(hm:m<=1048576):JD W n m (.slice (some ⟨W.heap.size,0,none⟩) n n) (.slice (some ⟨W.heap.size+1,0,none⟩) m m) ((W.alloc (.cells (arr (List.replicate n 0)) 3)).alloc (.cells (arr (List.replicate m 0)) 3)):=by
 have h:=JE (JE (aD.refl W) n hn) m hm;rw[World.size_alloc]at h;exact⟨_,_,rfl,rfl,h⟩
theorem Jn(W:World)(n m:Nat)(hn:n<=1048576)(hm:m<=1048576):JD W n m (.slice (some ⟨W.heap.size+1,0,none⟩) n n) (.slice (some ⟨W.heap.size,0,none⟩) m m) ((W.alloc (.cells (arr (List.replicate m 0)) 3)).alloc (.cells (arr (List.replicate n 0)) 3)):=by
 have h:=Oa (JE (aD.refl W) m hm) n hn;rw[World.size_alloc]at h;exact⟨_,_,rfl,rfl,h⟩
theorem yH(w:World)(o:Obj):w.drew.alloc o=(w.alloc o).drew:=rfl
theorem oN{bs:List Blk}{k:Nat}(h:k<bs.length):bs.take (k+1)=bs.take k++[bs[k]?.getD Blk.zero]:=bF h
theorem ru(g:Int)(bs:List Blk):(bH g bs).length<=bs.length:=by
 have h:=mi (f:=fun b:Blk=>if b.kind=g then[b.item]else[]) (m:=1) (xs:=bs) fun b _=>by split <;> simp
 unfold bH;omega
theorem z8(es:List LeT):(jo es).length<=es.length:=by
 have h:=mi (f:=fun e:LeT=>if 0<=e.ff then[e.ff]else[]) (m:=1) (xs:=es) fun b _=>by split <;> simp
 unfold jo;omega
theorem xS(es:List LeT):(iI es).length<=es.length:=by
 have h:=mi (f:=fun e:LeT=>if 0<=e.lut then[e.lut]else[]) (m:=1) (xs:=es) fun b _=>by split <;> simp
 unfold iI;omega
theorem tY{l:aU}{b:Blk}(h:ja l b):b.les.length<=2:=by
 rcases h.2 with h|h
 ·exact h.2.2.1.2
 rw[h.2.1];simp
theorem CK{l:aU}{bs:List Blk}(h:∀b∈bs,ja l b):(gm bs).length<=bs.length*3:=by
 refine mi (m:=3) fun b hb=>?_;have h1:=z8 b.les;have h2:=tY (h b hb);unfold jo at h1;rw[List.length_append];have h3:(if b.kind=2 then[b.item]else[]).length<=1:=by split <;> simp
 omega
theorem CL{l:aU}{bs:List Blk}(h:∀b∈bs,ja l b):(jF bs).length<=bs.length*2:=by
 refine mi (m:=2) fun b hb=>?_;have h1:=xS b.les;have h2:=tY (h b hb);unfold iI at h1;omega
theorem AA{l:aU}{b:Blk}(h:ja l b):∀e∈b.les,eB l e:=by
 rcases h.2 with h2|h2
 ·obtain⟨g,j,es⟩:=b;have h3:g=3:=h2.1;subst h3;exact qK.1 h.1
 rw[h2.2.1];simp
theorem MV{W wr:World}{j:List Pc}(S:aD W wr j)(i:Nat){xs:List Int}{g n c:Nat}(hi:j[i]?=some (.cel (aI xs) (.slice (some ⟨g,0,none⟩) n c))):g<wr.heap.size/\W.heap.size<=g:=by
 obtain⟨F,k1,_,k3,_⟩:=S.part i hi;have h:=(gy.1 k1).2;have hg:g∈F:=by rw[h];simp[blk]
 exact⟨(k3 g hg).2,(k3 g hg).1⟩
theorem OG{W wr:World}{q:List Pc}(S:aD W wr q)(i j:Nat)(u:i≠j){xs ys:List Int}{g z n c G D:Nat}(hi:q[i]?=some (.cel (aI xs) (.slice (some ⟨g,0,none⟩) n c)))(hj:q[j]?=some (.cel (aI ys) (.slice (some ⟨z,0,none⟩) G D))):g≠z:=by
 obtain⟨H,I,k1,k2,_,_,B,_⟩:=S.two i j u hi hj;have h1:=(gy.1 k1).2;have h2:=(gy.1 k2).2;rintro rfl;exact B g (by rw[h2];simp[blk]) (by rw[h1];simp[blk])
theorem MW(l:aU)(SA LA OA:Oh)(sn sc ln lc on oc:Nat)(a b:Int)(w:World)(h:fA w l SA LA OA sn sc ln lc on oc)(hf:bJ l)(I:eB l ⟨a,b⟩) :
  Calls Tryz.prog 257 #[ig l SA LA OA sn sc ln lc on oc,.agg #[.int .i64 a,.int .i64 b]] w fun e w'=>e=.returned (.bool true)/\Below w.heap.size w w':=by
 have g:=Hd I;clear I;have z:=oh (l:=l) (a:=a) (b:=b);have J:=h.lens.1;have R:=h.lens.2.1;rw[J,R]at z;clear J R;have j:=Hd (aB (aB (Below.refl w.heap.size w) (.cells (bX l SA LA OA sn sc ln lc on oc) 41)) (.cells #[.int .i64 a,.int .i64 b] 94));have hx:=dP (.cells #[.int .i64 a,.int .i64 b] 94) (aG w (.cells (bX l SA LA OA sn sc ln lc on oc) 41));have hy:=aG (w.alloc (.cells (bX l SA LA OA sn sc ln lc on oc) 41)) (.cells #[.int .i64 a,.int .i64 b] 94);simp only[World.size_alloc]at hy;obtain⟨q,u⟩:=hd2 hx hy;clear hx hy;obtain⟨Z,ah,ad⟩:=h.lens;have a6:=hf.nseq;have aZ:=hf.nlut;have a0:=hf.nout;have aP:=hf.inp;rw[Z]at a6;rw[ah]at aZ;rw[ad]at a0;obtain⟨HN,HF,ax,bv,bn⟩:=hd5 h hf Z ah ad;have aq:Hv ((l.first:Int)=1+l.inputs+(sn:Int)):=Hd<|by show _=_;unfold aU.first;omega
 have ar:Hv ((l.count:Int)=1+l.inputs+(sn:Int)+(ln:Int)):=Hd<|by show _=_;unfold aU.count aU.first;omega
 clear h hf Z ah ad
 cases D:inR a (-1) ((ln:Int)-1)with
 | false =>
  have B:Hv (¬eB l ⟨a,b⟩):=Hd<|fun h=>by
   have h2:=(z.1 h).1;rw[aR.2 ⟨h2.1,by omega⟩]at D
   cases D
  exact absurd g.1 B.1
 | true =>
  have ha:=aR.1 D;have H1:=Hd D;clear D
  cases G:inR b (-1) ((sn:Int)-1)with
  | false =>
   have B:Hv (¬eB l ⟨a,b⟩):=Hd<|fun h=>by
    have h2:=(z.1 h).2.1;rw[aR.2 ⟨h2.1,by omega⟩]at G
    cases G
   exact absurd g.1 B.1
  | true =>
   have hb:=aR.1 G;have H2:=Hd G;clear G;by_cases hn:a=-1/\b=-1
   ·have B:Hv (¬eB l ⟨a,b⟩):=Hd<|fun h=>(z.1 h).2.2.1 hn
    exact absurd g.1 B.1
   have ai:((a==-1) && (b==-1))=false:=by simp;omega
   have ae:(a==-1)=false∨(a==-1)=true/\(b==-1)=false:=by simp;omega
   by_cases W:0<=b
   ·have d1:decide (b≥0)=true:=decide_eq_true W;have db:(b==-1)=false:=by simp;omega
    obtain⟨F,rfl⟩:∃F:Nat,b=(F:Int):=⟨b.toNat,by omega⟩;rw[Int.toNat_natCast]at z;have hF:F<sn:=by omega
    obtain⟨bs,os,IA,im,ic,rfl,Y,c0,c1,c2,r2⟩:=HN.1.sq.sq' (k:=F) (by rw[ax.1];exact hF);have br:(l.seqs[F]?.getD Sq.zero).ins.length=im:=r2.ints.1;have ap:=(HF.1.seqs F (by rw[ax.1];exact hF)).1;have U:=aJ j.1 Y;rw[←j.1.cell (p:=⟨bs,os+F*3,none⟩) Y]at c0;rw[←j.1.cell (p:=⟨bs,os+F*3+2,none⟩) Y]at c2;have a3:=Hd r2;clear c1 r2;generalize l.seqs[F]?.getD Sq.zero=s at *;by_cases hk:s.kind=0
    ·have dk:(s.kind==0)=true:=by simp[hk]
     have aY:(s.kind != 0)=false:=by simp[hk]
     by_cases ag:0<=a
     ·have d2:decide (a≥0)=true:=decide_eq_true ag;have da:(a==-1)=false:=by simp;omega
      obtain⟨A,rfl⟩:∃A:Nat,a=(A:Int):=⟨a.toNat,by omega⟩;have hA:A<ln:=by omega
      have Q:0<im:=by rcases ap with h|h <;> omega
      obtain⟨K,hK⟩:∃K:Nat,1+l.inputs+(sn:Int)+(A:Int)=(K:Int):=⟨(1+l.inputs+(sn:Int)+(A:Int)).toNat,by omega⟩;have V:K<l.count:=by have:=ar.1;omega
      have aN:DT l ((l.first:Int)+(A:Int))=cnt (fw l) (K:Int):=by rw[Ah,aq.1,hK]
      have aE:(l.first:Int)+(A:Int)=(K:Int):=by rw[aq.1,hK]
      rw[aN,aE]at z;have a1:l.count<=1048576:=by have:=ar.1;omega
      have HK:=Hd hK;obtain⟨bi,oi,rfl,aD,al⟩:=a3.1.ints.2 Q;have ci:=al 0 Q;have af:=aJ j.1 aD;rw[←j.1.cell (p:=⟨bi,oi+0,none⟩) aD,Nat.add_zero]at ci;clear al ap ai ae aN aE hK;generalize s.ins[0]?.getD 0=y at *;have HU:=Hd (fun(v:World) (hv:Below w.heap.size w v)=>ut l (some ⟨bs,os,none⟩) LA OA sn sc ln lc on oc v (HN.1.below hv) HF.1);obtain⟨C,hC⟩:∃C,l.count=C:=⟨_,rfl⟩;rw[hC]at V a1 HU;have HC:=Hd hC;clear hC;by_cases hy:y=(K:Int)
      ·by_cases hq:cnt (fw l) (K:Int)=1
       ·have HQ:=Hd hq;subst hy;clear z hq hk;go_enter Tryz.func257,Tryz.ntmps257;go_upto_region 1 with fail;generalize (w.alloc (.cells (bX l (some ⟨bs,os,none⟩) LA OA sn sc ln lc on oc) 41)).alloc (.cells #[.int .i64 (A:Int),.int .i64 (F:Int)] 94)=W9 at *;obtain⟨x0,x1,x2,x3⟩:=cs4 q.1;obtain⟨y0,y1⟩:=cs2 u.1;have lx:=aH q.1;have ly:=aH u.1;go_wp2_with fail;refine(aM (A:Int) (-1) ((ln:Int)-1) _).mono ?_;rw[H1.1];rintro _ w' ⟨rfl,rfl⟩;go_wp2_with fail;refine(aM (F:Int) (-1) ((sn:Int)-1) _).mono ?_;rw[H2.1];rintro _ w' ⟨rfl,rfl⟩;go_upto_region 6 with fail;have aW:=Hd (fun(x:Sub W9)=>ny l.inputs (some ⟨bs,os,none⟩) LA OA sn sc ln lc on oc x.v aP.1 (by omega) (by omega));have av:=dB W9;have aS:=au W9;refine wpB W9 ?_
        repeat(go_big_quiet_step ((first
         | (go_at_call 177;with_reducible exact aV (aW.1 _)))))
        refine wpQuiet_nil ?_;rintro _ ⟨⟨w5,H⟩,rfl⟩;clear av aS;rw[HK.1];have HD:=Hd (aA j.1 H);have aI:=Hd (aF H q.1);have az:=Hd (aF H u.1);have be:=aJ H U;have bg:=aJ H af;rw[←H.cell (p:=⟨bs,os+F*3+2,none⟩) U]at c2;rw[←H.cell (p:=⟨bi,oi,none⟩) af]at ci;clear x0 x1 x2 x3 y0 y1 lx ly H c0 U af;obtain⟨x0,x1,x2,x3⟩:=cs4 aI.1;have y1:=aC (k:=1) az.1 rfl;have lx:=aH aI.1;have ly:=aH az.1;go_wp2_with fail;refine(HU.1 _ HD.1).mono ?_;rintro _ w6 ⟨UA,rfl,o6,b6⟩;have a8:=Hd (aA HD.1 b6);obtain⟨bu,ou,rfl,bm,am⟩:=o6.ints.2 (by omega);have cu:=am K V;rw[jZ _ V,HQ.1]at cu;clear o6 b6 am x0 x1 x2 x3 y1 lx ly c2 ci;go_wp2;go_ret;exact⟨rfl,a8.1⟩
       have B:Hv (¬eB l ⟨(A:Int),(F:Int)⟩):=Hd<|fun h=>hq ((z.1 h).2.2.2.2 (by omega) (by omega)).2
       exact absurd g.1 B.1
      have B:Hv (¬eB l ⟨(A:Int),(F:Int)⟩):=Hd<|fun h=>hy ((z.1 h).2.2.2.2 (by omega) (by omega)).1
      exact absurd g.1 B.1
     have d2:decide (a≥0)=false:=decide_eq_false ag;obtain rfl:a=-1:=by omega
     clear z hk ae ai hn ag;go_enter Tryz.func257,Tryz.ntmps257;go_upto_region 1 with fail;generalize (w.alloc (.cells (bX l (some ⟨bs,os,none⟩) LA OA sn sc ln lc on oc) 41)).alloc (.cells #[.int .i64 (-1),.int .i64 (F:Int)] 94)=W9 at *;obtain⟨-,x1,x2⟩:=cs3 q.1;obtain⟨y0,y1⟩:=cs2 u.1;have lx:=aH q.1;have ly:=aH u.1;go_wp2_with fail;refine(aM (-1) (-1) ((ln:Int)-1) _).mono ?_;rw[H1.1];rintro _ w' ⟨rfl,rfl⟩;go_wp2_with fail;refine(aM (F:Int) (-1) ((sn:Int)-1) _).mono ?_;rw[H2.1];rintro _ w' ⟨rfl,rfl⟩;go_wp2;go_ret;exact⟨rfl,j.1⟩
    have aY:(s.kind != 0)=true:=by simp;exact hk
    have B:Hv (¬eB l ⟨a,(F:Int)⟩):=Hd<|fun h=>hk ((z.1 h).2.2.2.1 (by omega))
    exact absurd g.1 B.1
   have d1:decide (b≥0)=false:=decide_eq_false W;obtain rfl:b=-1:=by omega
   have da:(a==-1)=false:=by simp;omega
   have d2:decide (a≥0)=true:=decide_eq_true (by omega);clear z hn W ae ai;go_enter Tryz.func257,Tryz.ntmps257;go_upto_region 1 with fail;generalize (w.alloc (.cells (bX l SA LA OA sn sc ln lc on oc) 41)).alloc (.cells #[.int .i64 a,.int .i64 (-1)] 94)=W9 at *;obtain⟨-,x1,x2⟩:=cs3 q.1;obtain⟨y0,y1⟩:=cs2 u.1;have lx:=aH q.1;have ly:=aH u.1;go_wp2_with fail;refine(aM a (-1) ((ln:Int)-1) _).mono ?_;rw[H1.1];rintro _ w' ⟨rfl,rfl⟩;go_wp2_with fail;refine(aM (-1) (-1) ((sn:Int)-1) _).mono ?_;rw[H2.1];rintro _ w' ⟨rfl,rfl⟩;go_wp2;go_ret;exact⟨rfl,j.1⟩
theorem AB(l:aU)(SA LA OA:Oh)(sn sc ln lc on oc:Nat)(U j:Int)(es:List LeT)(R:Oh)(q Q:Nat)(w:World)(h:fA w l SA LA OA sn sc ln lc on oc)(hf:bJ l)(hE:RdC w w.heap.size (ay es) (.slice R q Q))(a1:q<=1048576)(D:nA l ⟨U,j,es⟩) :
  Calls Tryz.prog 213 #[ig l SA LA OA sn sc ln lc on oc,.agg #[.int .i64 U,.int .i64 j,.slice R q Q]] w fun e w'=>e=.returned (.bool true)/\Below w.heap.size w w':=by
 have g:=Hd D;clear D;have W:=hE.esN;obtain⟨HE,af⟩:=hd2 hE W;clear hE W;have u:=Hd (aB (aB (Below.refl w.heap.size w) (.cells (bX l SA LA OA sn sc ln lc on oc) 41)) (.cells #[.int .i64 U,.int .i64 j,.slice R q Q] 89));have hx:=dP (.cells #[.int .i64 U,.int .i64 j,.slice R q Q] 89) (aG w (.cells (bX l SA LA OA sn sc ln lc on oc) 41));have hy:=aG (w.alloc (.cells (bX l SA LA OA sn sc ln lc on oc) 41)) (.cells #[.int .i64 U,.int .i64 j,.slice R q Q] 89);simp only[World.size_alloc]at hy;obtain⟨H,Z⟩:=hd2 hx hy;clear hx hy;obtain⟨I,K,J⟩:=h.lens;have aw:=hf.nseq;have ak:=hf.nlut;have al:=hf.nout;have aQ:=hf.inp;rw[I]at aw;rw[K]at ak;rw[J]at al;obtain⟨HN,HF,aj,aW,ae⟩:=hd5 h hf I K J;have aP:Hv ((l.first:Int)=1+l.inputs+(sn:Int)):=Hd<|by show _=_;unfold aU.first;omega
 have aS:Hv ((l.count:Int)=1+l.inputs+(sn:Int)+(ln:Int)):=Hd<|by show _=_;unfold aU.count aU.first;omega
 clear h hf I K J;go_enter Tryz.func213,Tryz.ntmps213;go_upto_region 1 with fail;generalize (w.alloc (.cells (bX l SA LA OA sn sc ln lc on oc) 41)).alloc (.cells #[.int .i64 U,.int .i64 j,.slice R q Q] 89)=W9 at *;obtain⟨x0,x1,x2,x3⟩:=cs4 H.1;obtain⟨y0,y1,y2⟩:=cs3 Z.1;have lx:=aH H.1;have ly:=aH Z.1
 rcases jm g.1 with rfl|rfl|rfl|rfl
 ·have Y:=Hd (aR.2 (show 0<=j/\j<=l.inputs-1 from by have:=uU.1 g.1;omega));go_wp2_with fail;refine(aM j 0 (l.inputs-1) _).mono ?_;rw[Y.1];rintro _ w1 ⟨rfl,rfl⟩;go_wp2;go_ret;exact⟨rfl,u.1⟩
 ·have Y:=Hd (aR.2 (show 0<=j/\j<=(on:Int)-1 from by have:=uV.1 g.1;have:=ae.1;omega));go_wp2_with fail;refine(aM j 0 ((on:Int)-1) _).mono ?_;rw[Y.1];rintro _ w1 ⟨rfl,rfl⟩;go_wp2;go_ret;exact⟨rfl,u.1⟩
 ·have Y:=Hd (aR.2 (show 0<=j/\j<=(sn:Int)-1 from by have:=mq.1 g.1;have:=aj.1;omega));go_wp2_with fail;refine(aM j 0 ((sn:Int)-1) _).mono ?_;rw[Y.1];rintro _ w1 ⟨rfl,rfl⟩;go_wp2;go_ret;exact⟨rfl,u.1⟩
 have aq:=Hd (qK.1 g.1);go_wp2_with fail;clear x0 x1 x2 x3 lx y0 y1 y2 ly
 go_loopw[40] (fun i wr=>∃k:Nat,k<=q/\i=.int .i64 k/\Below W9.heap.size W9 wr) (fun i _=>q-(intOf i).toNat)
 ·exact⟨0,Nat.zero_le _,rfl,Below.refl _ _⟩
 obtain⟨k,hk,rfl,hb⟩:=hrel;have ad:=Hd hb;have z:=Hd (aA u.1 hb);clear hb;by_cases am:k<q
 ·have ah:=dT (by omega:k<q);have B:k<es.length:=by rw[af.1];exact am
  obtain⟨be,oe,rfl,G,c0,c1⟩:=HE.1.es (k:=k) B;have aV:=aJ z.1 G;rw[←z.1.cell (p:=⟨be,oe+k*2,none⟩) G]at c0;rw[←z.1.cell (p:=⟨be,oe+k*2+1,none⟩) G]at c1;have ao:Hv (eB l (es[k]?.getD LeT.zero)):=Hd<|aq.1 _ (by rw[List.getElem?_eq_getElem B];exact List.getElem_mem B)
  clear B;generalize es[k]?.getD LeT.zero=e at *;have hx:=aF (aB (Below.refl wr.heap.size wr) (.cells #[.int .i64 e.lut,.int .i64 e.ff] 94)) (aF ad.1 H.1);have hq:=aG wr (.cells #[.int .i64 e.lut,.int .i64 e.ff] 94);obtain⟨x0,x1,x2,x3,lx⟩:=bA hx;obtain⟨q0,q1,lq⟩:=iC hq;obtain⟨i0,i1⟩:=ib (by omega:k<q);have V:=Hd (aB ad.1 (.cells #[.int .i64 e.lut,.int .i64 e.ff] 94));clear hx hq;go_wp2_with fail;refine(MW l SA LA OA sn sc ln lc on oc e.lut e.ff _ (HN.1.below (aA u.1 V.1)) HF.1 ao.1).mono ?_;rintro _ w1 ⟨rfl,b1⟩;have aC:=Hd (aA V.1 b1);clear b1 x0 x1 x2 x3 lx q0 q1 lq c0 c1;go_wp2;go_roundw
  ·exact⟨k+1,by omega,by go_num,aC.1⟩
  simp[intOf];omega
 have aD:k=q:=by omega
 have ah:=dF (by omega:q<=k);clear aD;go_wp2;go_ret;exact⟨rfl,z.1⟩
theorem Gg(l:aU)(SA LA OA:Oh)(sn sc ln lc on oc:Nat)(u z:Int)(es:List LeT)(G:Oh)(q D:Nat)(w:World)(h:fA w l SA LA OA sn sc ln lc on oc)(hf:bJ l)(hE:RdC w w.heap.size (ay es) (.slice G q D))(aN:q<=1048576)(B:ja l ⟨u,z,es⟩) :
  Calls Tryz.prog 123 #[ig l SA LA OA sn sc ln lc on oc,.agg #[.int .i64 u,.int .i64 z,.slice G q D]] w fun e w'=>e=.returned (.bool true)/\Below w.heap.size w w':=by
 have j:=Hd B;clear B;have Y:=hE.esN;obtain⟨HE,W⟩:=hd2 hE Y;clear hE Y;have Q:=Hd (aB (aB (Below.refl w.heap.size w) (.cells (bX l SA LA OA sn sc ln lc on oc) 41)) (.cells #[.int .i64 u,.int .i64 z,.slice G q D] 89));have hx:=dP (.cells #[.int .i64 u,.int .i64 z,.slice G q D] 89) (aG w (.cells (bX l SA LA OA sn sc ln lc on oc) 41));have hy:=aG (w.alloc (.cells (bX l SA LA OA sn sc ln lc on oc) 41)) (.cells #[.int .i64 u,.int .i64 z,.slice G q D] 89);simp only[World.size_alloc]at hy;obtain⟨H,I⟩:=hd2 hx hy;clear hx hy;obtain⟨J,R,K⟩:=h.lens;have aE:=hf.nseq;have ap:=hf.nlut;have ar:=hf.nout;have aX:=hf.inp;rw[J]at aE;rw[R]at ap;rw[K]at ar;obtain⟨HN,HF,Z,a1,aV⟩:=hd5 h hf J R K;have aW:Hv ((l.first:Int)=1+l.inputs+(sn:Int)):=Hd<|by show _=_;unfold aU.first;omega
 have aZ:Hv ((l.count:Int)=1+l.inputs+(sn:Int)+(ln:Int)):=Hd<|by show _=_;unfold aU.count aU.first;omega
 clear h hf J R K;go_enter Tryz.func123,Tryz.ntmps123;go_upto_region 1 with fail;generalize (w.alloc (.cells (bX l SA LA OA sn sc ln lc on oc) 41)).alloc (.cells #[.int .i64 u,.int .i64 z,.slice G q D] 89)=W9 at *;obtain⟨x0,x1,x2,x3⟩:=cs4 H.1;obtain⟨y0,y1,y2⟩:=cs3 I.1;have lx:=aH H.1;have ly:=aH I.1;go_wp2_with fail;refine(AB l SA LA OA sn sc ln lc on oc u z es G q D _ (HN.1.below Q.1) HF.1 (HE.1.below Q.1) aN j.1.1).mono ?_;rintro _ w1 ⟨rfl,b1⟩;have g:=Hd (aA Q.1 b1);have U:=Hd (aF b1 H.1);have ag:=Hd (aF b1 I.1);clear b1 x0 x1 x2 x3 lx y0 y1 y2 ly;obtain⟨x0,x1,x2,x3⟩:=cs4 U.1;obtain⟨y0,y1,y2⟩:=cs3 ag.1;have lx:=aH U.1;have ly:=aH ag.1;have af:=Hd j.1.1;have av:=j.1.2;clear j
 rcases av with⟨h3,h0,h2,h5⟩|⟨h3,h0,h2⟩
 ·simp only at h3 h0 h2 h5;subst h3 h0;rw[W.1]at h2;have aw:=Hd (aR.2 (show(1:Int)<=(q:Int)/\(q:Int)<=2 from by omega));have H5:=Hd h5;clear h5;go_wp2_with fail;refine(aM (q:Int) 1 2 _).mono ?_;rw[aw.1];rintro _ w2 ⟨rfl,rfl⟩;go_wp2_with fail;refine(sG l SA LA OA sn sc ln lc on oc 3 0 es G q D _ (HN.1.below g.1) HF.1 (HE.1.below g.1) af.1 (by omega)).mono ?_;rintro _ w3 ⟨PA,pn,pc,rfl,op,b3⟩;have am:=Hd (aA g.1 b3);have V:=op.len;change (qA l es).length=pn at V;have dp:decide ((pn:Int)<=5)=true:=decide_eq_true (by have:=H5.1;omega);clear b3 op V x0 x1 x2 x3 lx y0 y1 y2 ly;go_wp2;go_ret;exact⟨rfl,am.1⟩
 simp only at h3 h0 h2;subst h0;have aq:q=0:=by rw[←W.1];rfl
 subst aq;have d3:(u != 3)=true:=by simp;omega
 have a3:(u==3)=false:=by simp;omega
 by_cases k2:u=2
 ·subst k2;have au:=mq.1 af.1;rw[Z.1]at au;have hk:=h2 rfl;obtain⟨X,rfl⟩:∃X:Nat,z=(X:Int):=⟨z.toNat,by omega⟩;have hX:X<sn:=by omega
  unfold aU.sq at hk;rw[Int.toNat_natCast]at hk;obtain⟨bs,os,IA,im,ic,ad,ae,c0,c1,c2,r2⟩:=HN.1.sq.sq' (k:=X) (by rw[Z.1];exact hX);rw[hk]at c0;have aT:=aJ g.1 ae;rw[←g.1.cell (p:=⟨bs,os+X*3,none⟩) ae]at c0;have ak:=Hd ad;obtain⟨i0,i1⟩:=ib (by omega:X<sn);clear c1 c2 r2 hk h2 ad;obtain rfl:=ak.1;go_wp2;go_ret;exact⟨rfl,g.1⟩
 have d2:(u != 2)=true:=by simp[k2]
 clear h2 k2 h3;go_wp2;go_ret;exact⟨rfl,g.1⟩
theorem JF(l:aU)(SA LA OA:Oh)(sn sc ln lc on oc:Nat)(bs:List Blk)(BA:Oh)(bn bc:Nat)(w:World)(h:fA w l SA LA OA sn sc ln lc on oc)(hB:RdC w w.heap.size (aa bs) (.slice BA bn bc))(ai:uE l bs) :
  Calls Tryz.prog 45 #[ig l SA LA OA sn sc ln lc on oc,.slice BA bn bc] w fun e w'=>e=.returned (.bool true)/\Below w.heap.size w w':=by
 have J:=Hd ai;have b5:=Hd (aB (Below.refl w.heap.size w) (.cells (bX l SA LA OA sn sc ln lc on oc) 41));have bS:=Hd (aG w (.cells (bX l SA LA OA sn sc ln lc on oc) 41));have a7:=hB.blkN;obtain⟨bY,HB,HN⟩:=hd3 a7 hB h;obtain⟨bm,bw,bo⟩:=h.lens;obtain⟨bh,bV,bM⟩:=hd3 bm bw bo;have hf:=ai.net;have c5:bn<=64:=by rw[←a7];exact ai.len
 have c4:decide ((64:Int)<(bn:Int))=false:=decide_eq_false (by omega);have cM:decide ((bn:Int)>64)=false:=decide_eq_false (by omega);have cJ:=hf.nseq;have co:=hf.nlut;have cp:=hf.nout;have c6:=hf.inp;rw[bm]at cJ;rw[bw]at co;rw[bo]at cp;have HF:=Hd hf;obtain⟨I,hI⟩:∃I:Nat,l.inputs=(I:Int):=⟨l.inputs.toNat,by omega⟩;have cc:Hv (l.inputs.toNat=I):=Hd<|by show _=_;omega
 have bk:=Hd hI;have cW:I<=20:=by omega
 obtain⟨i0,hi,bJ,bW,bN⟩:=info_parts iE;have mk:=fun(n:Nat) (hn:n<=1048576) W=>dQ (P:=Tryz.prog) 26 3 i0 _ Tryz.underlying26 hi bJ .i64 .i64 n n (Nat.le_refl _) (by rw[bN];omega) (by omega) W;rw[bW]at mk;simp only[Nat.mul_one,show(Value.int .i64 0).cells=#[Value.int .i64 0] from rfl,kM]at mk;have bR:=mk I (by omega);have cu:=mk on (by omega);have ct:=mk sn (by omega);have mkL:=mk ln (by omega);rw[←hI]at bR;clear mk hi bJ bW bN bm bw bo hI a7 h hB ai;go_enter Tryz.func45,Tryz.ntmps45;go_upto_region 1 with fail;generalize w.alloc (.cells (bX l SA LA OA sn sc ln lc on oc) 41)=W0 at *;obtain⟨x0,x1,x2,x3,lx⟩:=bA bS.1;go_wp2_with fail;refine(nz l SA LA OA sn sc ln lc on oc _ (HN.1.below b5.1)).mono ?_;rw[bZ hf];rintro _ w1 ⟨rfl,b1⟩;have au:=Hd (aA b5.1 b1);have br:=Hd (aF b1 bS.1);clear b1 x0 x1 x2 x3 lx hf;obtain⟨x0,x1,x2,x3,lx⟩:=bA br.1;obtain⟨D,rfl⟩:∃x,x=w1:=⟨w1,rfl⟩;go_upto_region 3 with fail
 go_cut[5,6] (fun p u w'=>JD D I on p u w')
 case first =>
  go_region
  all_goals
   go_wp2;go_meet
   (try simp only[yH])
   first|exact(Jm D I on (by omega) (by omega))|exact(Jn D I on (by omega) (by omega))|exact(Jm D I on (by omega) (by omega)).drew|exact(Jn D I on (by omega) (by omega)).drew
 obtain⟨g1,g2,rfl,rfl,b6⟩:=hcut;obtain⟨w2,rfl⟩:∃x,x=wc:=⟨wc,rfl⟩;have aZ:=Hd b6;clear x0 x1 x2 x3 lx b6 bR cu;obtain⟨x0,x1,x2,x3,lx⟩:=bA (aF aZ.1.bel br.1);go_upto_region 4 with fail
 go_cut[7,8] (fun p u w'=>JD w2 sn ln p u w')
 case first =>
  go_region
  all_goals
   go_wp2;go_meet
   (try simp only[yH])
   first|exact(Jm w2 sn ln (by omega) (by omega))|exact(Jn w2 sn ln (by omega) (by omega))|exact(Jm w2 sn ln (by omega) (by omega)).drew|exact(Jn w2 sn ln (by omega) (by omega)).drew
 obtain⟨K,U,rfl,rfl,bG⟩:=hcut;have ch:Hv (aD D wc [.cel (aI (aK I (bH 0 []))) (.slice (some ⟨g1,0,none⟩) I I),.cel (aI (aK on (bH 1 []))) (.slice (some ⟨g2,0,none⟩) on on),.cel (aI (aK sn (gm []))) (.slice (some ⟨K,0,none⟩) sn sn),.cel (aI (aK ln (jF []))) (.slice (some ⟨U,0,none⟩) ln ln)]):=Hd<|aZ.1.join bG
 clear x0 x1 x2 x3 lx bG ct mkL;go_wp2
 go_loopw[38] (fun i wr=>∃k:Nat,k<=bn/\i=.int .i64 (k:Int)/\aD D wr [.cel (aI (aK I (bH 0 (bs.take k)))) (.slice (some ⟨g1,0,none⟩) I I),.cel (aI (aK on (bH 1 (bs.take k)))) (.slice (some ⟨g2,0,none⟩) on on),.cel (aI (aK sn (gm (bs.take k)))) (.slice (some ⟨K,0,none⟩) sn sn),.cel (aI (aK ln (jF (bs.take k)))) (.slice (some ⟨U,0,none⟩) ln ln)]) (fun i _=>bn-(intOf i).toNat)
 ·exact⟨0,by omega,rfl,by rw[List.take_zero];exact ch.1⟩
 obtain⟨k,hk,rfl,hs⟩:=hrel;have HS:=Hd hs;clear hs;by_cases cq:k<bn
 ·have cn:=dT (by omega:k<bn);have aL:k<bs.length:=by rw[bY.1];exact cq
  obtain⟨bb,ob,EA,R,ec,cD,aN,c0,c1,c2,r2⟩:=HB.1.blk (k:=k) aL;have H:=aA au.1 HS.1.bel;have dd:=aJ H aN;rw[←H.cell (p:=⟨bb,ob+k*3,none⟩) aN]at c0;rw[←H.cell (p:=⟨bb,ob+k*3+1,none⟩) aN]at c1;rw[←H.cell (p:=⟨bb,ob+k*3+2,none⟩) aN]at c2;have ag:ja l (bs[k]?.getD Blk.zero):=J.1.fit _ (by rw[List.getElem?_eq_getElem aL];exact List.getElem_mem aL);have bx:∀b∈bs.take k,ja l b:=fun b hb=>J.1.fit b (List.mem_of_mem_take hb);have h1:=CK bx;have h2:=CL bx;have h3:=ru 0 (bs.take k);have h4:=ru 1 (bs.take k);rw[List.length_take]at h1 h2 h3 h4;have Q:Hv ((gm (bs.take k)).length<=192/\(jF (bs.take k)).length<=128/\(bH 0 (bs.take k)).length<=64/\(bH 1 (bs.take k)).length<=64):=Hd<|by show _/\_;omega
  have aP:=p8 0 (bs.take k) (bs[k]?.getD Blk.zero);have aY:=p8 1 (bs.take k) (bs[k]?.getD Blk.zero);have aR:=zB (bs.take k) (bs[k]?.getD Blk.zero);have aW:=zA (bs.take k) (bs[k]?.getD Blk.zero);rw[←oN aL]at aP aY aR aW;clear aL h1 h2 h3 h4 bx;generalize bs[k]?.getD Blk.zero=b at *;obtain⟨kd,it,es⟩:=b;simp only at c0 c1 aP aY aR aW;obtain⟨ad,Z,bP,bQ⟩:=hd4 aP aY aR aW;have HE:=Hd (show RdC w w.heap.size (ay es) (.slice EA R ec) from r2);have a4:Hv (es.length=R):=Hd<|HE.1.esN
  have aH:=Hd ag;have cf:=Hd (AA ag);have b0:Hv (R<=2):=Hd<|by show _<=_;rw[←a4.1];exact tY ag
  have dl:=b0.1;clear r2 ag aP aY aR aW;subst cD;obtain⟨i0,i1⟩:=ib (by omega:k<bn);obtain⟨wo,rfl⟩:∃x,x=wr:=⟨wr,rfl⟩;have HA:=Hd (HS.1.pushBlk #[.int .i64 kd,.int .i64 it,.slice EA R ec] 89);have hx:=aF HA.1.bel br.1;obtain⟨x0,x1,x2,x3,lx⟩:=bA hx;obtain⟨y0,y1,y2,ly⟩:=j6 (HA.1.blk 4 rfl).1;clear hx H;go_wp2_with fail;refine(Gg l SA LA OA sn sc ln lc on oc kd it es EA R ec _ (HN.1.below (aA au.1 HA.1.bel)) HF.1 (HE.1.below (aA au.1 HA.1.bel)) (by omega) aH.1).mono ?_;rintro _ w4 ⟨rfl,b4⟩;have ak:=Hd (HA.1.below b4);clear x0 x1 x2 x3 lx y0 y1 y2 ly c0 c1 c2 b4;obtain⟨y0,y1,y2,ly⟩:=j6 (ak.1.blk 4 rfl).1
  go_upto_block 2 with fail
  go_cut[] from 39 to 74 (fun w'=>aD D w' [.cel (aI (aK I (bH 0 (bs.take (k+1))))) (.slice (some ⟨g1,0,none⟩) I I),.cel (aI (aK on (bH 1 (bs.take (k+1))))) (.slice (some ⟨g2,0,none⟩) on on),.cel (aI (aK sn (gm (bs.take k)++(if kd=2 then[it]else[])))) (.slice (some ⟨K,0,none⟩) sn sn),.cel (aI (aK ln (jF (bs.take k)))) (.slice (some ⟨U,0,none⟩) ln ln),.blk wo.heap.size #[.int .i64 kd,.int .i64 it,.slice EA R ec] 89])
  case first =>
   rcases jm aH.1.1 with rfl|rfl|rfl|rfl
   ·have aS:=uU.1 aH.1.1;obtain⟨X,rfl⟩:∃X:Nat,it=(X:Int):=⟨it.toNat,by omega⟩;have hX:X<I:=by have:=bk.1;omega
    obtain⟨cX,fX,lX,z⟩:=mR ak.1 0 rfl hX;have aq:=j5 (bH 0 (bs.take k)) (X:Int)
    have B:Hv (aD D (w4.setCell ⟨g1,X,none⟩ (.int .i64 (((cnt (bH 0 (bs.take k)) (X:Int):Nat):Int)+1))) [.cel (aI (aK I (bH 0 (bs.take (k+1))))) (.slice (some ⟨g1,0,none⟩) I I),.cel (aI (aK on (bH 1 (bs.take (k+1))))) (.slice (some ⟨g2,0,none⟩) on on),.cel (aI (aK sn (gm (bs.take k)++(if(0:Int)=2 then[(X:Int)]else[])))) (.slice (some ⟨K,0,none⟩) sn sn),.cel (aI (aK ln (jF (bs.take k)))) (.slice (some ⟨U,0,none⟩) ln ln),.blk wo.heap.size #[.int .i64 0,.int .i64 (X:Int),.slice EA R ec] 89]):=Hd<|by
     show aD D _ _;simp only[ad.1,Z.1,Int.reduceEq,reduceIte,List.append_nil];exact z
    clear z;generalize cnt (bH 0 (bs.take k)) (X:Int)=q at *;have iq:q<=10000:=by have:=Q.1;omega
    have iX:(X:Int)<(I:Int):=by omega
    clear aq;go_wp2;go_meet;exact B.1
   ·have aS:=uV.1 aH.1.1;rw[bM.1]at aS;obtain⟨X,rfl⟩:∃X:Nat,it=(X:Int):=⟨it.toNat,by omega⟩;have hX:X<on:=by have:=bk.1;omega
    obtain⟨cX,fX,lX,z⟩:=mR ak.1 1 rfl hX;have aq:=j5 (bH 1 (bs.take k)) (X:Int)
    have B:Hv (aD D (w4.setCell ⟨g2,X,none⟩ (.int .i64 (((cnt (bH 1 (bs.take k)) (X:Int):Nat):Int)+1))) [.cel (aI (aK I (bH 0 (bs.take (k+1))))) (.slice (some ⟨g1,0,none⟩) I I),.cel (aI (aK on (bH 1 (bs.take (k+1))))) (.slice (some ⟨g2,0,none⟩) on on),.cel (aI (aK sn (gm (bs.take k)++(if(1:Int)=2 then[(X:Int)]else[])))) (.slice (some ⟨K,0,none⟩) sn sn),.cel (aI (aK ln (jF (bs.take k)))) (.slice (some ⟨U,0,none⟩) ln ln),.blk wo.heap.size #[.int .i64 1,.int .i64 (X:Int),.slice EA R ec] 89]):=Hd<|by
     show aD D _ _;simp only[ad.1,Z.1,Int.reduceEq,reduceIte,List.append_nil];exact z
    clear z;generalize cnt (bH 1 (bs.take k)) (X:Int)=q at *;have iq:q<=10000:=by have:=Q.1;omega
    have iX:(X:Int)<(on:Int):=by omega
    clear aq;go_wp2;go_meet;exact B.1
   ·have aS:=mq.1 aH.1.1;rw[bh.1]at aS;obtain⟨X,rfl⟩:∃X:Nat,it=(X:Int):=⟨it.toNat,by omega⟩;have hX:X<sn:=by have:=bk.1;omega
    obtain⟨cX,fX,lX,z⟩:=mR ak.1 2 rfl hX;have aq:=j5 (gm (bs.take k)) (X:Int)
    have B:Hv (aD D (w4.setCell ⟨K,X,none⟩ (.int .i64 (((cnt (gm (bs.take k)) (X:Int):Nat):Int)+1))) [.cel (aI (aK I (bH 0 (bs.take (k+1))))) (.slice (some ⟨g1,0,none⟩) I I),.cel (aI (aK on (bH 1 (bs.take (k+1))))) (.slice (some ⟨g2,0,none⟩) on on),.cel (aI (aK sn (gm (bs.take k)++(if(2:Int)=2 then[(X:Int)]else[])))) (.slice (some ⟨K,0,none⟩) sn sn),.cel (aI (aK ln (jF (bs.take k)))) (.slice (some ⟨U,0,none⟩) ln ln),.blk wo.heap.size #[.int .i64 2,.int .i64 (X:Int),.slice EA R ec] 89]):=Hd<|by
     show aD D _ _;simp only[ad.1,Z.1,Int.reduceEq,reduceIte,List.append_nil];exact z
    clear z;generalize cnt (gm (bs.take k)) (X:Int)=q at *;have iq:q<=10000:=by have:=Q.1;omega
    have iX:(X:Int)<(sn:Int):=by omega
    clear aq;go_wp2;go_meet;exact B.1
   have B:Hv (aD D w4 [.cel (aI (aK I (bH 0 (bs.take (k+1))))) (.slice (some ⟨g1,0,none⟩) I I),.cel (aI (aK on (bH 1 (bs.take (k+1))))) (.slice (some ⟨g2,0,none⟩) on on),.cel (aI (aK sn (gm (bs.take k)++(if(3:Int)=2 then[it]else[])))) (.slice (some ⟨K,0,none⟩) sn sn),.cel (aI (aK ln (jF (bs.take k)))) (.slice (some ⟨U,0,none⟩) ln ln),.blk wo.heap.size #[.int .i64 3,.int .i64 it,.slice EA R ec] 89]):=Hd<|by
    show aD D _ _;simp only[ad.1,Z.1,Int.reduceEq,reduceIte,List.append_nil];exact ak.1
   go_wp2;go_meet;exact B.1
  have B:=Hd hcut;clear hcut y0 y1 y2 ly ak HA HS;have bE:Hv ((gm (bs.take k)++(if kd=2 then[it]else[])).length<=1000):=Hd<|by show _<=_;have:=Q.1;rw[List.length_append];split <;> simp <;> omega
  have bD:Hv ((jF (bs.take k)).length<=1000):=Hd<|by show _<=_;have:=Q.1;omega
  obtain⟨XB,bl⟩:∃XB,bH 0 (bs.take (k+1))=XB:=⟨_,rfl⟩;obtain⟨YB,bu⟩:∃YB,bH 1 (bs.take (k+1))=YB:=⟨_,rfl⟩;obtain⟨SB,bg⟩:∃SB,gm (bs.take k)++(if kd=2 then[it]else[])=SB:=⟨_,rfl⟩;obtain⟨LB,a9⟩:∃LB,jF (bs.take k)=LB:=⟨_,rfl⟩;rw[bl,bu,bg,a9]at B;rw[bg]at bP bE;rw[a9]at bQ bD;clear ad Z;obtain⟨ad,Z⟩:=hd2 bl bu;clear bl bu bg a9;obtain⟨-,-,y2,ly⟩:=j6 (B.1.blk 4 rfl).1;go_wp2_with fail;clear y2 ly;replace B:=Hd (B.1.sub (List.sublist_append_left [_,_,_,_] [_]))
  go_loopw[78] (fun i wr=>∃j:Nat,j<=R/\i=.int .i64 (j:Int)/\aD D wr [.cel (aI (aK I (XB))) (.slice (some ⟨g1,0,none⟩) I I),.cel (aI (aK on (YB))) (.slice (some ⟨g2,0,none⟩) on on),.cel (aI (aK sn (SB++jo (es.take j)))) (.slice (some ⟨K,0,none⟩) sn sn),.cel (aI (aK ln (LB++iI (es.take j)))) (.slice (some ⟨U,0,none⟩) ln ln)]) (fun i _=>R-(intOf i).toNat)
  ·exact⟨0,by omega,rfl,by rw[List.take_zero];simpa [jo,iI]using B.1⟩
  obtain⟨j,hj,rfl,hs⟩:=hrel;have V:=Hd hs;clear hs;by_cases bI:j<R
  ·have cv:=dT (by omega:j<R);have az:j<es.length:=by rw[a4.1];exact bI
   obtain⟨be,oe,b7,a5,c0,c1⟩:=HE.1.es (k:=j) az;have dc:=Hd b7;have H:=aA au.1 V.1.bel;have de:=aJ H a5;rw[←H.cell (p:=⟨be,oe+j*2,none⟩) a5]at c0;rw[←H.cell (p:=⟨be,oe+j*2+1,none⟩) a5]at c1;have aO:=cf.1 _ (List.getElem_mem az);have g:=BO (es.take j) (es[j]?.getD LeT.zero);have G:=y9 (es.take j) (es[j]?.getD LeT.zero);rw[←bF az]at g G;have ar:=z8 (es.take j);have av:=xS (es.take j);rw[List.length_take]at ar av;rw[show es[j]=es[j]?.getD LeT.zero by rw[List.getElem?_eq_getElem az];rfl]at aO;have al:=aO.lut.2;have am:=aO.ff.2;rw[bV.1]at al;rw[bh.1]at am;have af:=b0.1;have aV:=bE.1;have aX:=bD.1;clear aO az H;generalize es[j]?.getD LeT.zero=e at *;obtain⟨a,b⟩:=e;simp only at al am g G c0 c1;obtain⟨i0,i1⟩:=ib (by omega:j<R);have aT:=Hd (V.1.alloc (.cells #[.int .i64 a,.int .i64 b] 94));have hq:=aG wr (.cells #[.int .i64 a,.int .i64 b] 94);have HQ:=Hd hq;obtain⟨q0,q1,lq⟩:=iC hq;have aC:=j5 (SB++jo (es.take j)) b;have aw:=j5 (LB++iI (es.take j)) a;rw[List.length_append]at aC aw;clear hq;subst b7;have cU:wr.heap.size≠K:=by have:=(MV V.1 2 rfl).1;omega
   have cS:wr.heap.size≠U:=by have:=(MV V.1 3 rfl).1;omega
   have dk:K≠U:=OG V.1 2 3 (by decide) rfl rfl;by_cases ha:0<=a
   ·have da:decide (a≥0)=true:=decide_eq_true ha;rw[if_pos ha]at G;obtain⟨X,rfl⟩:=Int.eq_ofNat_of_zero_le ha;have cz:X<ln:=by omega
    obtain⟨cX,fX,lX,z⟩:=mR aT.1 3 rfl cz;by_cases hb:0<=b
    ·have db:decide (b≥0)=true:=decide_eq_true hb;rw[if_pos hb]at g;obtain⟨Y,rfl⟩:=Int.eq_ofNat_of_zero_le hb;have aQ:Y<sn:=by omega
     obtain⟨cY,fY,lY,ax⟩:=mR z 2 rfl aQ;obtain⟨c8,c7,df,_⟩:=mR aT.1 2 rfl aQ;have HN:=Hd ax
     have HR:Hv (aD D (((wr.alloc (.cells #[.int .i64 (X:Int),.int .i64 (Y:Int)] 94)).setCell ⟨U,X,none⟩ (.int .i64 (((cnt (LB++iI (es.take j)) (X:Int):Nat):Int)+1))).setCell ⟨K,Y,none⟩ (.int .i64 (((cnt (SB++jo (es.take j)) (Y:Int):Nat):Int)+1))) [.cel (aI (aK I (XB))) (.slice (some ⟨g1,0,none⟩) I I),.cel (aI (aK on (YB))) (.slice (some ⟨g2,0,none⟩) on on),.cel (aI (aK sn (SB++jo (es.take (j+1))))) (.slice (some ⟨K,0,none⟩) sn sn),.cel (aI (aK ln (LB++iI (es.take (j+1))))) (.slice (some ⟨U,0,none⟩) ln ln)]):=Hd<|by
      show aD D _ _;rw[g,G,←List.append_assoc,←List.append_assoc];exact HN.1
     clear z ax cY fY lY g G HN;generalize cnt (LB++iI (es.take j)) (X:Int)=bj at *;generalize cnt (SB++jo (es.take j)) (Y:Int)=bv at *;have iX:(X:Int)<(ln:Int):=by omega
     have iY:(Y:Int)<(sn:Int):=by omega
     have cH:bj<=10000:=by omega
     have ci:bv<=10000:=by omega
     clear aC aw ar av af aV aX al am;go_wp2;go_roundw
     ·exact⟨j+1,by omega,by go_num,HR.1⟩
     simp[intOf];omega
    have db:decide (b≥0)=false:=decide_eq_false hb;rw[if_neg hb,List.append_nil]at g;have HN:=Hd z
    have HR:Hv (aD D ((wr.alloc (.cells #[.int .i64 (X:Int),.int .i64 b] 94)).setCell ⟨U,X,none⟩ (.int .i64 (((cnt (LB++iI (es.take j)) (X:Int):Nat):Int)+1))) [.cel (aI (aK I (XB))) (.slice (some ⟨g1,0,none⟩) I I),.cel (aI (aK on (YB))) (.slice (some ⟨g2,0,none⟩) on on),.cel (aI (aK sn (SB++jo (es.take (j+1))))) (.slice (some ⟨K,0,none⟩) sn sn),.cel (aI (aK ln (LB++iI (es.take (j+1))))) (.slice (some ⟨U,0,none⟩) ln ln)]):=Hd<|by
     show aD D _ _;rw[g,G,←List.append_assoc];exact HN.1
    clear z g G HN;generalize cnt (LB++iI (es.take j)) (X:Int)=bj at *;have iX:(X:Int)<(ln:Int):=by omega
    have cH:bj<=10000:=by omega
    clear aC aw ar av af aV aX al am;go_wp2;go_roundw
    ·exact⟨j+1,by omega,by go_num,HR.1⟩
    simp[intOf];omega
   have da:decide (a≥0)=false:=decide_eq_false ha;rw[if_neg ha,List.append_nil]at G;by_cases hb:0<=b
   ·have db:decide (b≥0)=true:=decide_eq_true hb;rw[if_pos hb]at g;obtain⟨Y,rfl⟩:=Int.eq_ofNat_of_zero_le hb;have aQ:Y<sn:=by omega
    obtain⟨cY,fY,lY,ax⟩:=mR aT.1 2 rfl aQ;have HN:=Hd ax
    have HR:Hv (aD D ((wr.alloc (.cells #[.int .i64 a,.int .i64 (Y:Int)] 94)).setCell ⟨K,Y,none⟩ (.int .i64 (((cnt (SB++jo (es.take j)) (Y:Int):Nat):Int)+1))) [.cel (aI (aK I (XB))) (.slice (some ⟨g1,0,none⟩) I I),.cel (aI (aK on (YB))) (.slice (some ⟨g2,0,none⟩) on on),.cel (aI (aK sn (SB++jo (es.take (j+1))))) (.slice (some ⟨K,0,none⟩) sn sn),.cel (aI (aK ln (LB++iI (es.take (j+1))))) (.slice (some ⟨U,0,none⟩) ln ln)]):=Hd<|by
     show aD D _ _;rw[g,G,←List.append_assoc];exact HN.1
    clear ax g G HN;generalize cnt (SB++jo (es.take j)) (Y:Int)=bv at *;have iY:(Y:Int)<(sn:Int):=by omega
    have ci:bv<=10000:=by omega
    clear aC aw ar av af aV aX al am;go_wp2;go_roundw
    ·exact⟨j+1,by omega,by go_num,HR.1⟩
    simp[intOf];omega
   have db:decide (b≥0)=false:=decide_eq_false hb;rw[if_neg hb,List.append_nil]at g
   have HR:Hv (aD D (wr.alloc (.cells #[.int .i64 a,.int .i64 b] 94)) [.cel (aI (aK I (XB))) (.slice (some ⟨g1,0,none⟩) I I),.cel (aI (aK on (YB))) (.slice (some ⟨g2,0,none⟩) on on),.cel (aI (aK sn (SB++jo (es.take (j+1))))) (.slice (some ⟨K,0,none⟩) sn sn),.cel (aI (aK ln (LB++iI (es.take (j+1))))) (.slice (some ⟨U,0,none⟩) ln ln)]):=Hd<|by
    show aD D _ _;rw[g,G];exact aT.1
   clear g G aC aw ar av af aV aX al am;go_wp2;go_roundw
   ·exact⟨j+1,by omega,by go_num,HR.1⟩
   simp[intOf];omega
  have b3:j=R:=by omega
  have cv:=dF (by omega:R<=j)
  have HD:Hv (aD D wr [.cel (aI (aK I (XB))) (.slice (some ⟨g1,0,none⟩) I I),.cel (aI (aK on (YB))) (.slice (some ⟨g2,0,none⟩) on on),.cel (aI (aK sn (SB++jo es))) (.slice (some ⟨K,0,none⟩) sn sn),.cel (aI (aK ln (LB++iI es))) (.slice (some ⟨U,0,none⟩) ln ln)]):=Hd<|by
   have h:=V.1;show aD D _ _;rwa[b3,List.take_of_length_le (by rw[a4.1];exact Nat.le_refl _)]at h
  clear V b3;go_wp2;go_roundw
  ·exact⟨k+1,by omega,by go_num,by rw[ad.1,Z.1,bP.1,bQ.1];exact HD.1⟩
  simp[intOf];omega
 have bK:k=bn:=by omega
 have cn:=dF (by omega:bn<=k);have cx:Hv (bs.take k=bs):=Hd<|by show _=_;rw[bK];exact List.take_of_length_le (by rw[bY.1];exact Nat.le_refl _)
 rw[cx.1]at HS;have cG:=Hd (HS.1.ints 0 rfl);have cE:=Hd (HS.1.ints 1 rfl);have cr:=Hd (HS.1.ints 2 rfl);have cF:=Hd (HS.1.ints 3 rfl);have cI:=Hd (aA au.1 HS.1.bel);clear HS bK;have h1:=mr.2 J.1.ins;rw[cc.1]at h1;have ce:=Hd (bZ h1);clear h1;have h2:=mr.2 J.1.outs;rw[bM.1]at h2;have cA:=Hd (bZ h2);clear h2;have h3:=mr.2 J.1.seqs;rw[bh.1]at h3;have cC:=Hd (bZ h3);clear h3;have h4:=mr.2 J.1.luts;rw[bV.1]at h4;have cy:=Hd (bZ h4);clear h4;go_wp2_with fail;refine(oH _ I I (aK I (bH 0 bs)) _ cG.1 (by omega)).mono ?_;rw[ce.1];rintro _ v1 ⟨rfl,rfl⟩;go_wp2_with fail;refine(oH _ on on (aK on (bH 1 bs)) _ cE.1 (by omega)).mono ?_;rw[cA.1];rintro _ v2 ⟨rfl,rfl⟩;go_wp2_with fail;refine(oH _ sn sn (aK sn (gm bs)) _ cr.1 (by omega)).mono ?_;rw[cC.1];rintro _ v3 ⟨rfl,rfl⟩;go_wp2_with fail;refine(oH _ ln ln (aK ln (jF bs)) _ cF.1 (by omega)).mono ?_;rw[cy.1];rintro _ v4 ⟨rfl,rfl⟩;go_wp2;go_ret;exact⟨rfl,cI.1⟩
theorem qm:(Tryz.prog.info? 26).map (fun i=>(i.zero,i.size,i.bytes))=some (some (.slice none 0 0),1,24):=by kernel_rfl
theorem tZ:(Tryz.prog.info? 100).map (fun i=>(i.zero,i.size,i.bytes))=some (some (.agg #[.int .i64 0,.int .i64 0]),2,16):=by kernel_rfl
theorem CO:(Tryz.prog.info? 158).map (fun i=>(i.zero,i.size,i.bytes))=some (some (.agg #[.int .i64 0,.int .i64 0,.int .i64 0,.slice none 0 0]),4,48):=by kernel_rfl
theorem iQ{w:World}{x:Int}{cs:List Cel}{vs:List Value}{F:List Nat}(h:dh w cs vs F):dh w (.int x::cs) (.int .i64 x::vs) F:=bU.2 ⟨_,_,[],F,rfl,rfl,dZ.2 ⟨rfl,rfl⟩,h⟩
theorem Gh{w:World}{c:Cel}{v:Value}{F:List Nat}(h:dJ w c v F):dh w [c] [v] F:=bU.2 ⟨v,[],F,[],rfl,(List.append_nil _).symm,h,dH.2 ⟨rfl,rfl⟩⟩
theorem ry{W w w':World}{g:List Pc}{A:Oh}{n c:Nat}{xs:List Int}(h:aD W w g)(hb:Below w.heap.size w w')(ho:Own w.heap.size w' A n c xs):aD W w' (.cels [aI xs] [.slice A n c]::g) :=
 h.cons hb (show dh w' [aI xs] [.slice A n c] (blk A) from Gh (gy.2 ⟨ho.more (Nat.zero_le _),rfl⟩)) (by cases A <;> simp[blk]) fun k hk=>by
  obtain⟨a,rfl,rfl⟩:=nW.1 hk;exact(ho.lt a rfl).1
theorem aD.consPin{W w:World}{g:List Pc}(h:aD W w g)(a b:Int):aD W w (.cels [.int a,.int b] [.int .i64 a,.int .i64 b]::g) :=
 h.cons (Below.refl _ _) (G:=[]) (show dh w _ _ [] from iQ (iQ (dH.2 ⟨rfl,rfl⟩))) (by simp) (by simp)
theorem aD.connCels{W w:World}{g:List Pc}(h:aD W w g)(i:Nat){ss:List aL}{A:Oh}{n c:Nat}(a b d:Int)(hi:g[i]?=some (.cel (aZ ss) (.slice A n c))):aD W w (g.set i (.cels [.int a,.int b,.int d,aZ ss] [.int .i64 a,.int .i64 b,.int .i64 d,.slice A n c])) :=
 h.same i hi fun _ h=>iQ (iQ (iQ (Gh h)))
def mG(g:List (List Int)):Cel := .row 26 1 (g.map aI)
theorem uO(g:List (List Int))(j:List Int):mG (g++[j])=.row 26 1 (g.map aI++[aI j]):=by unfold mG;rw[List.map_append];rfl
theorem RdC.rowsR{w:World}{B n c k:Nat}{A:Oh}{g:List (List Int)}(h:RdC w B (mG g) (.slice A n c))(hk:k<g.length) :
  ∃b o S m p,A=some ⟨b,o,none⟩/\b<B/\w.cell? ⟨b,o+k,none⟩=some (.slice S m p)/\RdC w B (aI (g[k]?.getD [])) (.slice S m p):=by
 unfold mG at h;obtain⟨b,o,rfl,hb,hc⟩:=h.cell (by simp;omega);obtain⟨c0,v,e1,q,j⟩:=hc k (by simpa using hk);rw[List.getElem?_map,List.getElem?_eq_getElem hk]at e1;simp only[Option.map_some,Option.some.injEq]at e1;subst e1;obtain⟨S,m,p,rfl⟩:=gz (e:=3) (s:=1) j;exact⟨b,o,S,m,p,rfl,hb,q,by rw[List.getElem?_eq_getElem hk];exact j⟩
theorem Gi(l:aU)(SA LA OA:Oh)(sn sc ln lc on oc:Nat)(bs:List Blk)(BA:Oh)(bn bc:Nat)(w:World)(h:fA w l SA LA OA sn sc ln lc on oc)(hB:RdC w w.heap.size (aa bs) (.slice BA bn bc))(hp:uE l bs) :
  Calls Tryz.prog 47 #[ig l SA LA OA sn sc ln lc on oc,.slice BA bn bc] w fun e w'=>∃A n c,e=.returned (.slice A n c)/\iM w.heap.size w'.heap.size w' (bL (kR l bs)) (.slice A n c)/\Below w.heap.size w w':=by
 have a7:=Hd (aB (Below.refl w.heap.size w) (.cells (bX l SA LA OA sn sc ln lc on oc) 41));have bD:=Hd (aG w (.cells (bX l SA LA OA sn sc ln lc on oc) 41));have aY:=hB.blkN;obtain⟨V,HB,HN,HP,HF,aM⟩:=hd6 aY hB h hp hp.net hp.fit;have bN:=hp.len;rw[aY]at bN;have c4:Hv (∀i,i<=bn→(kX l bs i).length<=2*i):=Hd<|fun i hi=>qL aM.1 (by rw[V.1];exact hi)
 clear hB aY h hp;obtain⟨cb,bE,bl,bJ,bQ⟩:=info_parts qm;obtain⟨cA,bY,bt,b2,b3⟩:=info_parts tZ;obtain⟨cx,bZ,bM,bR,br⟩:=info_parts CO;have az:=Hd (And.intro bE (And.intro bl (And.intro bJ bQ)));have aE:=Hd (And.intro bY (And.intro bt (And.intro b2 b3)));have aq:=Hd (And.intro bZ (And.intro bM (And.intro bR br)));clear bE bl bJ bQ bY bt b2 b3 bZ bM bR br;go_enter Tryz.func47,Tryz.ntmps47;go_upto_region 1 with fail;generalize w.alloc (.cells (bX l SA LA OA sn sc ln lc on oc) 41)=W0 at *;obtain⟨x0,x1,x2,x3,lx⟩:=bA (bD.1);go_wp2_with fail;refine(JF l SA LA OA sn sc ln lc on oc bs BA bn bc _ (HN.1.below a7.1) (HB.1.below a7.1) HP.1).mono ?_;rintro _ w1 ⟨rfl,b1⟩;have ao:=Hd (aA a7.1 b1);have bT:=Hd (aF b1 bD.1);clear b1 x0 x1 x2 x3 lx;obtain⟨W9,rfl⟩:∃x,x=w1:=⟨w1,rfl⟩;go_wp2
 go_loopw[5,24] (fun v i wr=>∃(k:Nat) (A:Oh) (c:Nat),k<=bn/\i=.int .i64 (k:Int)/\v=.slice A k c/\aD W9 wr [.cel (mG ((bs.take k).map (iU l))) (.slice A k c)]) (fun _ i _=>bn-(intOf i).toNat)
 ·exact⟨0,none,0,by omega,rfl,rfl,(aD.refl W9).pushNil 26 1⟩
 obtain⟨k,A1,aw,hk,rfl,rfl,hs⟩:=hrel;have HS:=Hd hs;clear hs;by_cases a2:k<bn
 ·have a1:=dT (by omega:k<bn);have H:k<bs.length:=by rw[V.1];exact a2
  obtain⟨bb,ob,EA,W,ec,ai,I,c0,c1,c2,r2⟩:=HB.1.blk (k:=k) H;have B:=aA ao.1 HS.1.bel;have cr:=aJ B I;rw[←B.cell (p:=⟨bb,ob+k*3,none⟩) I]at c0;rw[←B.cell (p:=⟨bb,ob+k*3+1,none⟩) I]at c1;rw[←B.cell (p:=⟨bb,ob+k*3+2,none⟩) I]at c2;have D:=aM.1 _ (List.getElem_mem H);rw[show bs[k]=bs[k]?.getD Blk.zero by rw[List.getElem?_eq_getElem H];rfl]at D;have aW:=Hd ai;have G:=Hd (show(bs.take (k+1)).map (iU l)=(bs.take k).map (iU l)++[iU l (bs[k]?.getD Blk.zero)] from by rw[oN H,List.map_append];rfl);clear H B ai;generalize bs[k]?.getD Blk.zero=b at *;obtain⟨kd,it,es⟩:=b;simp only at c0 c1;have HE:=Hd (show RdC w w.heap.size (ay es) (.slice EA W ec) from r2);have ad:es.length=W:=HE.1.esN;have cI:W<=2:=by rw[←ad];exact tY D
  have a5:=Hd D.1;obtain rfl:=aW.1;obtain⟨i0,i1⟩:=ib (by omega:k<bn);have HA:=Hd (HS.1.alloc (.cells #[.int .i64 kd,.int .i64 it,.slice EA W ec] 89));have a6:=Hd (aG wr (.cells #[.int .i64 kd,.int .i64 it,.slice EA W ec] 89));obtain⟨y0,y1,y2,ly⟩:=j6 a6.1;clear r2 ad D;obtain⟨x0,x1,x2,x3,lx⟩:=bA (aF HA.1.bel bT.1);go_wp2_with fail;refine(sG l SA LA OA sn sc ln lc on oc kd it es EA W ec _ (HN.1.below (aA ao.1 HA.1.bel)) HF.1 (HE.1.below (aA ao.1 HA.1.bel)) a5.1 (by omega)).mono ?_;rintro _ w4 ⟨PA,pn,pc,rfl,op,b4⟩;have ap:=Hd (ry HA.1 b4 op);clear x0 x1 x2 x3 lx y0 y1 y2 ly c0 c1 c2 b4 op
  go_wp2_with (at_builtin;refine af rfl _ _ 50 26 rfl cb _ 1 24 Tryz.underlying50 az.1.1 az.1.2.1 az.1.2.2.1 az.1.2.2.2 rfl (by decide) (by decide) _ (ap.1.alloc (.cells #[.slice PA pn pc] 26)) 1 0 (by decide) k aw _ A1 (((bs.take k).map (iU l)).map aI) _ #[.slice PA pn pc] _ rfl rfl rfl rfl (aG _ _) rfl (by omega) ?_;intro g9 cap w9 S9 ae;have aX:=Hd S9.tail;clear S9 ae)
  go_roundw
  ·exact⟨k+1,_,_,by omega,by go_num,rfl,by rw[G.1,uO];exact aX.1⟩
  simp[intOf];omega
 have al:k=bn:=by omega
 have a1:=dF (by omega:bn<=k);have G:Hv (bs.take k=bs):=Hd<|by show _=_;rw[al];exact List.take_of_length_le (by rw[V.1];exact Nat.le_refl _)
 have bx:=Hd HS.1;have R:=bx.1;rw[G.1]at R;obtain⟨u,Z⟩:∃u,bs.map (iU l)=u:=⟨_,rfl⟩;rw[Z]at R;have cd:=Hd (R.rd 0 rfl);have aj:=Hd (aA ao.1 R.bel);have cc:=Hd (aF R.bel bT.1);have ca:=Hd Z;have bv:Hv (u.length=bn):=Hd<|by show _=_;rw[←Z,List.length_map,V.1]
 have b8:Hv (∀ps∈u,ps.length<=5):=Hd<|fun ps hp=>by
  rw[←Z]at hp;obtain⟨b,hb,rfl⟩:=List.mem_map.1 hp;exact yz HF.1 (aM.1 b hb)
 subst al;clear HS bx R Z G;obtain⟨W8,rfl⟩:∃y,y=wr:=⟨wr,rfl⟩;obtain⟨PA,rfl⟩:∃y,y=A1:=⟨A1,rfl⟩;obtain⟨pc,rfl⟩:∃y,y=aw:=⟨aw,rfl⟩;obtain⟨bn,rfl⟩:∃y,y=k:=⟨k,rfl⟩;go_wp2
 go_loopw[8,37] (fun v i wr=>∃(k:Nat) (A:Oh) (n c:Nat),k<=bn/\i=.int .i64 (k:Int)/\v=.slice A n c/\n<=2*k/\aD W8 wr [.cel (bL (kX l bs k)) (.slice A n c)]) (fun _ i _=>bn-(intOf i).toNat)
 ·exact⟨0,none,0,0,by omega,rfl,rfl,by omega,(aD.refl W8).pushNil 158 4⟩
 obtain⟨k,A1,n1,aw,hk,rfl,rfl,cY,hs⟩:=hrel;have HS:=Hd hs;clear hs;by_cases a2:k<bn
 ·have a1:=dT (by omega:k<bn);have H:k<bs.length:=by rw[V.1];exact a2
  obtain⟨bb,ob,EA,W,ec,ai,I,c0,c1,c2,r2⟩:=HB.1.blk (k:=k) H;have B:=aA aj.1 HS.1.bel;have cr:=aJ B I;rw[←B.cell (p:=⟨bb,ob+k*3,none⟩) I]at c0;rw[←B.cell (p:=⟨bb,ob+k*3+1,none⟩) I]at c1;rw[←B.cell (p:=⟨bb,ob+k*3+2,none⟩) I]at c2;have D:=aM.1 _ (List.getElem_mem H);rw[show bs[k]=bs[k]?.getD Blk.zero by rw[List.getElem?_eq_getElem H];rfl]at D;have aW:=Hd ai;have aR:=y8 D;have G:=Hd (sU l bs k);rw[ca.1]at G;clear H B ai;generalize bs[k]?.getD Blk.zero=b at *;obtain⟨kd,it,es⟩:=b;simp only at c0 c1;have HE:=Hd (show RdC w w.heap.size (ay es) (.slice EA W ec) from r2);have ad:es.length=W:=HE.1.esN;have cI:W<=2:=by rw[←ad];exact tY D
  have a5:=Hd D.1;obtain rfl:=aW.1;obtain⟨i0,i1⟩:=ib (by omega:k<bn);have HA:=Hd (HS.1.alloc (.cells #[.int .i64 kd,.int .i64 it,.slice EA W ec] 89));have a6:=Hd (aG wr (.cells #[.int .i64 kd,.int .i64 it,.slice EA W ec] 89));obtain⟨y0,y1,y2,ly⟩:=j6 a6.1;clear r2 ad D;obtain⟨x0,x1,x2,x3,lx⟩:=bA (aF HA.1.bel cc.1);go_wp2_with fail;refine(Ea l SA LA OA sn sc ln lc on oc kd it es EA W ec _ (HN.1.below (aA aj.1 HA.1.bel)) HF.1 (HE.1.below (aA aj.1 HA.1.bel)) a5.1 (by omega)).mono ?_;rintro _ w4 ⟨UA,Q,uc,rfl,ou,b4⟩;have ap:=Hd (HA.1.pushOwn b4 ou);have dc:Q<=2:=by rw[←ou.len];exact aR
  clear x0 x1 x2 x3 lx y0 y1 y2 ly c0 c1 c2 b4 ou aR;generalize j4 l ⟨kd,it,es⟩=J at *;generalize kX l bs k=CT at *;have ci:=Hd (ap.1.ints 1 rfl).1;rw[ci.1]at G;go_wp2
  go_loopw[8,46] (fun v i wr=>∃(p:Nat) (A:Oh) (n c:Nat),p<=Q/\i=.int .i64 (p:Int)/\v=.slice A n c/\n<=2*k+p/\aD W8 wr [.cel (bL (CT++iV u k J p)) (.slice A n c),.cel (aI J) (.slice UA Q uc)]) (fun _ i _=>Q-(intOf i).toNat)
  ·exact⟨0,_,_,_,by omega,rfl,rfl,by omega,by simpa [iV]using ap.1⟩
  obtain⟨p,A2,n2,U,hp,rfl,rfl,co,hs⟩:=hrel;have ax:=Hd hs;clear hs;by_cases b0:p<Q
  ·have ce:=dT (by omega:p<Q);obtain⟨bu,ou,bG,cD,bj⟩:=(ax.1.ints 1 rfl).2 (by omega);have cs:=Hd bG;have cu:=bj p b0;have bV:=Hd (vC u k J p);obtain rfl:=cs.1;clear bj bG;generalize J[p]?.getD 0=N at *;obtain⟨i2,i3⟩:=ib (by omega:p<Q);have bK:Hv (aD W8 (wr.alloc (.cells #[.int .i64 N,.int .i64 (k:Int),.int .i64 (p:Int),.slice none 0 0] 158)) [.cel (bL (CT++iV u k J p)) (.slice A2 n2 U),.cel (aI J) (.slice (some ⟨bu,ou,none⟩) Q uc),.blk wr.heap.size #[.int .i64 N,.int .i64 (k:Int),.int .i64 (p:Int),.slice none 0 0] 158,.cel (aZ (gQ u N 0)) (.slice none 0 0)]):=Hd<|((ax.1.pushBlk _ _).pushNil 100 2)
   obtain⟨gc,ar⟩:∃g,wr.heap.size=g:=⟨_,rfl⟩;go_upto_region 17 with fail;rw[ar]at bK
   (try rw[ar])
   have c9:=Hd ar;clear ar cu cD;generalize wr.alloc (.cells #[.int .i64 N,.int .i64 (k:Int),.int .i64 (p:Int),.slice none 0 0] 158)=W6 at *;go_wp2
   go_loopw[58] (fun i wr=>∃(j:Nat) (Y:Oh) (m c:Nat),j<=bn/\i=.int .i64 (j:Int)/\m<=5*j/\aD W8 wr [.cel (bL (CT++iV u k J p)) (.slice A2 n2 U),.cel (aI J) (.slice (some ⟨bu,ou,none⟩) Q uc),.blk gc #[.int .i64 N,.int .i64 (k:Int),.int .i64 (p:Int),.slice Y m c] 158,.cel (aZ (gQ u N j)) (.slice Y m c)]) (fun i _=>bn-(intOf i).toNat)
   ·exact⟨0,none,0,0,by omega,rfl,by omega,bK.1⟩
   obtain⟨j,Y,m,mc,hj,rfl,hm,hs⟩:=hrel;have K:=Hd hs;clear hs;by_cases bk:j<bn
   ·have cv:=dT (by omega:j<bn);have av:j<u.length:=by rw[bv.1];exact bk
    obtain⟨bp,op,PT,pm,pp,bI,bg,cp,rp⟩:=cd.1.rowsR (k:=j) av;have ct:=Hd bI;rw[←K.1.bel.cell (p:=⟨bp,op+j,none⟩) bg]at cp;have ch:=aJ K.1.bel bg;have h5:=b8.1 _ (List.getElem_mem av);rw[show u[j]=u[j]?.getD [] by rw[List.getElem?_eq_getElem av];rfl]at h5;have bH:=Hd rp.ints;have cX:pm<=5:=by rw[←rp.ints.1];exact h5
    have aQ:=Hd (rF u N j);rw[bH.1.1]at aQ;clear av h5 rp bI;obtain rfl:=ct.1;generalize u[j]?.getD []=qs at *;generalize gQ u N j=SJ at *;obtain⟨i4,i5⟩:=ib (by omega:j<bn);obtain⟨W5,rfl⟩:∃y,y=wr:=⟨wr,rfl⟩;go_wp2_with fail;clear cp ch
    go_loopw[65] (fun i wr=>∃(q:Nat) (Y:Oh) (m c:Nat),q<=pm/\i=.int .i64 (q:Int)/\m<=5*j+q/\aD W8 wr [.cel (bL (CT++iV u k J p)) (.slice A2 n2 U),.cel (aI J) (.slice (some ⟨bu,ou,none⟩) Q uc),.blk gc #[.int .i64 N,.int .i64 (k:Int),.int .i64 (p:Int),.slice Y m c] 158,.cel (aZ (SJ++nC N j qs q)) (.slice Y m c)]) (fun i _=>pm-(intOf i).toNat)
    ·exact⟨0,_,_,_,by omega,rfl,by omega,by simpa [nC]using K.1⟩
    obtain⟨q,Y,m,mc,hq,rfl,hm,hs⟩:=hrel;have z:=Hd hs;clear hs;by_cases bz:q<pm
    ·have cj:=dT (by omega:q<pm);obtain⟨bq,oq,bh,b5,bm⟩:=bH.1.2 (by omega);have cE:=Hd bh;have cq:=(z.1.bel.cell (p:=⟨bq,oq+q,none⟩) b5).trans (bm q bz);have da:=aJ z.1.bel b5;have bB:=Hd (vB N j qs q);clear bm bh;obtain rfl:=cE.1;generalize qs[q]?.getD 0=y at *;generalize nC N j qs q=SQ at *;obtain⟨i6,i7⟩:=ib (by omega:q<pm);by_cases hy:y=N
     ·have dy:(y==N)=true:=by simp[hy]
      have HC:Hv (SJ++nC N j qs (q+1)=SJ++SQ++[⟨(j:Int),(q:Int)⟩]):=Hd<|by show _=_;rw[bB.1,if_pos hy,List.append_assoc]
      have ah:=(z.1.blk 2 rfl).1;obtain⟨-,-,-,z3,lz⟩:=bA ah;have ck:=Hd ((z.1.consPin (j:Int) (q:Int)).alloc (.cells #[.int .i64 (j:Int),.int .i64 (q:Int)] 100));have de:m<=1000:=by omega
      clear ah hy
      go_wp2_with (at_builtin;refine af rfl _ _ 156 100 rfl cA _ 2 16 Tryz.underlying156 aE.1.1 aE.1.2.1 aE.1.2.2.1 aE.1.2.2.2 rfl (by decide) (by decide) _ (ck.1) 4 0 (by decide) m mc _ Y ((SJ++SQ).flatMap aL.cells) _ #[.int .i64 (j:Int),.int .i64 (q:Int)] _ rfl rfl rfl rfl (aG _ _) rfl (by omega) ?_;intro g9 cap w9 S9 ae;have a0:=Hd (S9.tail.blk 2 rfl).1;have l9:=aC (k:=3) a0.1 rfl;have f9:=aN a0.1 3;have q9:=aH a0.1;have cl:=Hd (S9.tail.put 2 rfl 3 (.slice (some ⟨g9,0,none⟩) (m+1) cap));clear S9 ae)
      go_roundw
      ·exact⟨q+1,some ⟨g9,0,none⟩,m+1,cap,by omega,by go_num,by omega,by rw[HC.1];unfold aZ;rw[Ci];exact cl.1⟩
      simp[intOf];omega
     have dy:(y==N)=false:=by simp[hy]
     have HC:Hv (SJ++nC N j qs (q+1)=SJ++SQ):=Hd<|by show _=_;rw[bB.1,if_neg hy,List.append_nil]
     clear hy;go_wp2;go_roundw
     ·exact⟨q+1,Y,m,mc,by omega,by go_num,by omega,by rw[HC.1];exact z.1⟩
     simp[intOf];omega
    have cJ:q=pm:=by omega
    have cj:=dF (by omega:pm<=q);rw[cJ]at z hm;go_wp2;go_roundw
    ·exact⟨j+1,Y,m,mc,by omega,by go_num,by omega,by rw[aQ.1];exact z.1⟩
    simp[intOf];omega
   have cz:j=bn:=by omega
   have cv:=dF (by omega:bn<=j);have aQ:Hv (gQ u N j=gQ u N u.length):=Hd<|by show _=_;rw[bv.1,cz]
   rw[aQ.1]at K;have ah:=(K.1.blk 2 rfl).1;obtain⟨z0,z1,z2,z3,lz⟩:=bA ah;have cg:(gQ u N u.length).length=m:=(K.1.rd 3 rfl).pinN;clear ah;by_cases cW:m=0
   ·have dm:decide ((0:Int)<(m:Int))=false:=decide_eq_false (by omega);have cG:decide (0<m)=false:=decide_eq_false (by omega);have HC:Hv (iV u k J (p+1)=iV u k J p):=Hd<|by show _=_;rw[bV.1];unfold xm;rw[if_pos (by omega),List.append_nil]
    have ag:=Hd (K.1.sub (qs:=[.cel (bL (CT++iV u k J p)) (.slice A2 n2 U),.cel (aI J) (.slice (some ⟨bu,ou,none⟩) Q uc)]) (List.Sublist.cons_cons _ (List.Sublist.cons_cons _ (List.nil_sublist _))));go_wp2;go_roundw
    ·exact⟨p+1,_,_,_,by omega,by go_num,rfl,by omega,by rw[HC.1];exact ag.1⟩
    simp[intOf];omega
   have dm:decide ((0:Int)<(m:Int))=true:=decide_eq_true (by omega);have cG:decide (0<m)=true:=decide_eq_true (by omega);have HC:Hv (CT++iV u k J (p+1)=CT++iV u k J p++[⟨N,⟨(k:Int),(p:Int)⟩,gQ u N u.length⟩]):=Hd<|by show _=_;rw[bV.1];unfold xm;rw[if_neg (by omega),List.append_assoc]
   have ag:=Hd ((K.1.connCels 3 N (k:Int) (p:Int) rfl).alloc (.cells #[.int .i64 N,.int .i64 (k:Int),.int .i64 (p:Int),.slice Y m mc] 158));have db:n2<=1000:=by omega
   clear cg
   go_wp2_with (at_builtin;refine af rfl _ _ 43 158 rfl cx _ 4 48 Tryz.underlying43 aq.1.1 aq.1.2.1 aq.1.2.2.1 aq.1.2.2.2 rfl (by decide) (by decide) _ (ag.1) 0 3 (by decide) n2 U _ A2 ((CT++iV u k J p).flatMap Cn.cells) _ #[.int .i64 N,.int .i64 (k:Int),.int .i64 (p:Int),.slice Y m mc] _ rfl rfl rfl rfl (aG _ _) rfl (by omega) ?_;intro g9 cap w9 S9 ae;have aX:=Hd (S9.sub (qs:=[_,_]) (List.Sublist.cons_cons _ (List.Sublist.cons_cons _ (List.nil_sublist _))));clear S9 ae)
   go_roundw
   ·exact⟨p+1,_,_,_,by omega,by go_num,rfl,by omega,by rw[HC.1];unfold bL;rw[Hr];exact aX.1⟩
   simp[intOf];omega
  have cB:p=Q:=by omega
  have ce:=dF (by omega:Q<=p);rw[cB]at ax co;have ag:=Hd (ax.1.sub (qs:=[.cel (bL (CT++iV u k J Q)) (.slice A2 n2 U)]) (List.Sublist.cons_cons _ (List.nil_sublist _)));go_wp2;go_roundw
  ·exact⟨k+1,_,_,_,by omega,by go_num,rfl,by omega,by rw[G.1];exact ag.1⟩
  simp[intOf];omega
 have al:k=bn:=by omega
 have a1:=dF (by omega:bn<=k);have G:Hv (kX l bs k=kR l bs):=Hd<|by show _=_;rw[al];unfold kR;rw[V.1]
 rw[G.1]at HS;go_wp2;go_ret;exact⟨_,_,_,rfl,(HS.1.tree 0 rfl).widen aj.1.size (Nat.le_refl _),aA aj.1 HS.1.bel⟩
end Go.Proofs.YtofihjoanjkdmaaGreat
