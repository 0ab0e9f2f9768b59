/- append of one element of several cells to a row that the call owns. -/
import Derived.Deep.DeepCutAuto
import Derived.Test.YtignkfhdkcgkgaaGreatDecoS
import Derived.Test.YtignkfhdkcgkgaaGreatEmu
namespace Go.Proofs.YtignkfhdkcgkgaaGreat
set_option maxHeartbeats 2000000
set_option maxRecDepth 100000
open Go.RowKit
theorem sP {ops:Array Oper} {rest:List Oper} {o:Oper} {a:Act} {Q:Exit→Act→World→Prop} {w W:World} (hgd:o.guard=none) (s x:Operand) (t e:TypeId)
  (ho:o.op = .call { callee := .builtin .append,args:=#[s,x],argTypes:=#[t,t] }) (i:TypeInfo) (z:Value) (size bytes:Nat) (ht:Tryz.prog.underlying t=some (.slice e)) (hi0:Tryz.prog.info? e=some i) (hz0:i.zero=some z)
  (hz1:i.size=size) (hz2:i.bytes=bytes) (hzc:z.cells.size=size) (hsz:0<size) (hby:bytes<=64)
  (lo hi:Nat) (A:Option Addr) (n c:Nat) (cs:List Cel) (base:Nat) (nc:List Cel) (nv:Array Value) (hs:a.eval s = .slice A n c) (hown:eB lo hi w (.row e size cs) (.slice A n c)) (hnew:dP base w.heap.size w nc nv.toList) (hnl:nv.size=size) (hx:a.eval x = .slice (some ⟨w.heap.size,0,none⟩) 1 1)
  (hn:n<=1099511627776) (hhb:hi<=base) (hlb:lo<=base) (_hhw:hi<=w.heap.size) (hlw:lo<=w.heap.size) (hB:Below lo W w)
  (h:∀g cap w',eB lo w'.heap.size w' (.row e size (cs++nc)) (.slice (some ⟨g,0,none⟩) (n+1) cap)→Below lo W w'→Below hi w w'∨True→w.heap.size<=w'.heap.size →
   wpList Tryz.prog ops Q rest (a.put o.dst (.slice (some ⟨g,0,none⟩) (n+1) cap)) w'):wpList Tryz.prog ops Q (o :: rest) a (w.alloc (.cells nv e)):=by
 obtain ⟨F,h1,h2,h3⟩:=hown
 rw [dn] at h1
 obtain ⟨A',n',c',vs,F',hv,hro,rfl,hl⟩:=h1
 injection hv with hA hnn hcc
 subst hA hnn hcc
 obtain ⟨F2,k1,k2,k3⟩:=hnew
 refine wpList_append_lies (w.alloc (.cells nv e)) hgd s x t ho 0 e i z size bytes ht hi0 hz0 hz1 hz2 hzc hsz (.slice A n c) n vs hs
  (aa hro fun a ha=>Below.heap_alloc _ _ _ (by have:=hro.lt a.block (by subst ha;rfl);exact this.2)) ⟨w.heap.size,0,none⟩ 1 1 nv.toList hx (by simp [hnl])
  (fun j u hu=>?_) k1.one (by omega) (by unfold maxLen;omega) (Nat.le_trans (Nat.mul_le_mul_left _ hby) (by omega)) (Nat.zero_le _) (w.heap.size+1) (by simp) ?_
 ·have e1:(⟨w.heap.size,0,none⟩:Addr).add j=⟨w.heap.size,j,none⟩:=by rw [Addr.add_lit];simp
  rw [e1]
  unfold World.cell?
  rw [aL]
  simpa using hu
 ·intro g cap w' g1 g2 g3 g4
  rw [fH] at g2 g3
  have hlF:∀k∈F',k<w.heap.size:=hl.lt
  have hlF2:∀k∈F2,k<w.heap.size:=k1.lt
  rw [List.nodup_append] at h2
  obtain ⟨m1,m2,m3⟩:=h2
  have hkeep:∀k,k<w.heap.size→k∉blk A→w'.heap[k]?=w.heap[k]?:=fun k hk hkA=>by
   refine (g2.block k (by simp;omega) ?_).trans (Below.heap_alloc _ _ _ hk)
   cases hA':A with
   | none=>simp
   | some ad =>
    simp only [Option.map_some,ne_eq,Option.some.injEq]
    rintro rfl
    exact hkA (by rw [hA'];simp [blk])
  have hA2:∀k∈F2,k∉blk A:=fun k hk hkA=>by
   have:=k3 k hk
   have:=h3 k (List.mem_append_left _ hkA)
   omega
  have hF1:∀k∈F',k∉blk A:=fun k hk hkA=>m3 k hkA k hk rfl
  have hL:fO w' (cs++nc) (vs++nv.toList) (F'++F2):=(hl.keep fun k hk=>hkeep k (hlF k hk) (hF1 k hk)).append (k1.keep fun k hk=>hkeep k (hlF2 k hk) (hA2 k hk))
  have hgn:g∉F'/\g∉F2:=by
   rcases g3 with hg|hg
   ·have hgA:g∈blk A:=by
     cases hA':A with
     | none=>rw [hA'] at hg;cases hg
     | some ad=>rw [hA'] at hg;simp at hg;simp [blk,hg]
    exact ⟨fun hk=>hF1 g hk hgA,fun hk=>hA2 g hk hgA⟩
   ·subst hg
    exact ⟨fun hk=>by have:=hlF _ hk;omega,fun hk=>by have:=hlF2 _ hk;omega⟩
  have hgr:lo<=g:=by
   rcases g3 with hg|hg
   ·cases hA':A with
    | none=>rw [hA'] at hg;cases hg
    | some ad =>
     rw [hA'] at hg
     simp at hg
     have:=h3 ad.block (List.mem_append_left _ (by rw [hA'];simp [blk]))
     omega
   ·omega
  have hsw:=g2.size
  simp only [World.size_alloc] at hsw
  refine h g cap w' ⟨g :: (F'++F2),?_,?_,fun k hk=>?_⟩ ?_ (.inr trivial) (by omega)
  ·rw [dn]
   exact ⟨_,_,_,_,F'++F2,rfl,g1,rfl,hL⟩
  ·rw [List.nodup_cons,List.nodup_append]
   exact ⟨by simp only [List.mem_append,not_or];exact hgn,m2,k2,fun p hp q hq=>by
    have:=h3 p (List.mem_append_right _ hp)
    have:=k3 q hq
    omega⟩
  ·simp only [List.mem_cons,List.mem_append] at hk
   rcases hk with rfl|hk|hk
   ·omega
   ·have:=h3 k (List.mem_append_right _ hk)
    have:=hlF k hk
    omega
   ·have:=k3 k hk
    omega
  ·refine lC (base:=lo) (hB.alloc hlw _) g2 (fun ad had=>?_) (Nat.le_refl _) (by simp;omega)
   exact (h3 ad.block (List.mem_append_left _ (by rw [had];simp [blk]))).1
theorem Fb {lo hi:Nat} {w:World} (e s:Nat):eB lo hi w (.row e s []) (.slice none 0 0):=⟨[],by rw [dn];exact ⟨none,0,0,[],[],rfl,⟨by simp,.inl ⟨rfl,rfl⟩⟩,rfl,eX.2 ⟨rfl,rfl⟩⟩,by simp,by simp⟩
theorem Fe {w:World} (e s:Nat) {g:Nat} (hg:w.heap.size=g):eB g (g+1) (w.alloc (.cells #[] e)) (.row e s []) (.slice (some ⟨g,0,none⟩) 0 0):=by
 subst hg
 refine ⟨[w.heap.size],?_,by simp,by simp⟩
 rw [dn]
 exact ⟨_,0,0,[],[],rfl,⟨by simp,.inr ⟨w.heap.size,0,#[],rfl,Nat.zero_le _,aL _ _,Nat.le_refl _,Nat.zero_le _,by simp,by simp⟩⟩,by simp [blk],eX.2 ⟨rfl,rfl⟩⟩
theorem xV:(Tryz.prog.info? 103).map (fun i=>(i.zero,i.size,i.bytes))=some (some (.agg #[.slice none 0 0,.slice none 0 0,.int .i64 0,.int .i64 0]),4,64):=by kernel_rfl
theorem yf (f:List Int):DI (eF f):=by
 intro j hj
 rw [wh] at hj
 unfold eF
 rw [List.getElem?_map,List.getElem?_eq_getElem hj]
 have:=rz (f[j]).toNat
 simp only [Option.map_some,Option.getD_some,Bi]
 omega
theorem vZ (ts:List au) (t:au):(ts++[t]).flatMap au.cells=ts.flatMap au.cells++t.cells:=by simp
theorem iR (d:Dev) (fs:List (List Int)):(av d fs).length=fs.length:=by simp [av]
theorem vg {d:Dev} {fs:List (List Int)} {k:Nat} (h:k<fs.length):av d (fs.take (k+1))=av d (fs.take k)++[oV d (eF (fs[k]?.getD []))]:=by
 unfold av
 rw [List.take_succ_eq_append_getElem h,List.map_append,List.getElem?_eq_getElem h]
 rfl
def lZ (d:Dev) (fs:List (List Int)):List au:=if az d fs=true then av d fs else []
theorem dW {d:Dev} {fs:List (List Int)} (h:az d fs=true):fs.length=tiles d/\fs.length<=36:=by
 have h1:=aj h
 have:=(bT h1.1).2.2
 exact ⟨h1.2.1,by omega⟩
theorem pY (d:Dev) (A:Option Addr) (n c:Nat) (fs:List (List Int)) (w:World) (hA:dZ w A n fs) (hf:az d fs=true) :
  Calls Tryz.prog 139 #[.agg #[.int .i64 d.W,.int .i64 d.H,.int .i64 d.T,.int .i64 d.R],.slice A n c] w fun e w'=>∃A' c',e = .returned (.slice A' n c')/\eB w.heap.size w'.heap.size w' (lH (av d fs)) (.slice A' n c')/\Below w.heap.size w w':=by
 have hB0:Below w.heap.size w (w.alloc (.cells #[.int .i64 d.W,.int .i64 d.H,.int .i64 d.T,.int .i64 d.R] 25)):=aB (Below.refl _ _) _
 have hdv:=(aj hf).1
 have hfb:=jq hdv
 obtain ⟨F,hF⟩:∃F:Nat,fwI d=(F:Int):=⟨(fwI d).toNat,by omega⟩
 rw [hF] at hfb
 have hn36:=(dW hf).2
 rw [hA.1] at hn36
 have HFW:=Hd hF
 have HD:=Hd hdv
 have HF:=Hd hf
 obtain ⟨hX,hAr⟩:=hA
 have HX:=Hd hX
 obtain ⟨i0,hi,hz0,hz1,hz2⟩:=info_parts xV
 have HI0:=Hd hi
 have HZ0:=Hd hz0
 have HZ1:=Hd hz1
 have HZ2:=Hd hz2
 clear hX hf hdv hF hi hz0 hz1 hz2
 go_enter Tryz.func139,Tryz.ntmps139
 go_wp2_with fail
 have HB0:=Hd hB0
 clear hB0
 go_loopw [5,13] (fun v i wr=>∃(k:Nat) (A':Option Addr) (c':Nat),k<=n/\i = .int .i64 k/\v = .slice A' k c'/\eB (w.alloc (.cells #[.int .i64 d.W,.int .i64 d.H,.int .i64 d.T,.int .i64 d.R] 25)).heap.size wr.heap.size wr (lH (av d (fs.take k))) (.slice A' k c')/\Below (w.alloc (.cells #[.int .i64 d.W,.int .i64 d.H,.int .i64 d.T,.int .i64 d.R] 25)).heap.size (w.alloc (.cells #[.int .i64 d.W,.int .i64 d.H,.int .i64 d.T,.int .i64 d.R] 25)) wr) (fun _ i _=>n - (intOf i).toNat)
 case atStart=>exact ⟨0,none,0,Nat.zero_le _,rfl,rfl,Fb _ _,Below.refl _ _⟩
 case round =>
  obtain ⟨k,A',c',hk,rfl,rfl,ho,hbx⟩:=hrel
  have HO:=Hd ho
  have HBX:=Hd hbx
  have hbe:=aA HB0.out hbx
  have HE:=Hd hbe
  have hsx:=hbx.size
  simp only [World.size_alloc] at hsx
  clear ho
  by_cases hlt:k<n
  ·obtain ⟨b,o,rfl,hb,hc⟩:=hAr (by omega)
   obtain ⟨A1,m1,c1,hck,hI1⟩:=hc k hlt
   rw [←hbe.cell (p:=⟨b,o+k,none⟩) hb] at hck
   have hfr:=jK HF.out (j:=k) (by rw [HX.out];exact hlt)
   have hm1:m1=F:=by have:=hfr.2;rw [hI1.1,HFW.out] at this;omega
   subst hm1
   have HIN:=Hd hfr.1
   have HXF:=Hd hI1.1
   have J1:=Hd (hI1.below hbe)
   have hsw:=hbe.size
   have HT:=Hd (vg (d:=d) (fs:=fs) (k:=k) (by rw [HX.out];exact hlt))
   clear hc hI1 hfr hbe hbx
   generalize fs[k]?.getD []=f at *
   go_wp2_with fail
   clear hck
   obtain ⟨w0,hw0⟩:∃w0,w0=wr:=⟨_,rfl⟩
   rw [←hw0] at HO HE HBX J1 hsw hsx ⊢
   clear hw0
   go_loopw [8,19] (fun v i wr=>∃(j:Nat) (A2:Option Addr) (c2:Nat),j<=m1/\i = .int .i64 j/\v = .slice A2 j c2/\Own w0.heap.size wr A2 j c2 (eF (f.take j))/\Below w0.heap.size w0 wr) (fun _ i _=>m1 - (intOf i).toNat)
   case atStart=>exact ⟨0,none,0,Nat.zero_le _,rfl,rfl,Own.nil,Below.refl _ _⟩
   case round =>
    obtain ⟨j,A2,c2,hj,rfl,rfl,ho2,hbe2⟩:=hrel
    have HO2:=Hd ho2
    have HE2:=Hd hbe2
    have hs2:=hbe2.size
    clear ho2
    by_cases hlj:j<m1
    ·obtain ⟨b3,o3,rfl,hb3,hc3⟩:=J1.out.2 (by omega)
     have hck3:=hc3 j hlj
     rw [←hbe2.cell (p:=⟨b3,o3+j,none⟩) hb3] at hck3
     have hx:=HIN.out j (by rw [HXF.out];exact hlj)
     have HT2:=Hd (pO (f:=f) (k:=j) (by rw [HXF.out];exact hlj))
     clear hc3 hbe2
     generalize f[j]?.getD 0=x at *
     obtain ⟨x,rfl⟩:=Int.eq_ofNat_of_zero_le hx.1
     have HDI:=Hd (tV (c:=(x:Int)) rfl)
     go_wp2_with (first
      | ((with_reducible refine (jc x _ (by omega)).mono ?_);rintro e w' ⟨rfl,rfl⟩)
      | (at_builtin;refine ax rfl _ _ rfl w0.heap.size A2 j c2 (eF (f.take j)) _ rfl HO2.out rfl (by omega) hs2 HE2.out ?_;rintro g4 cap w4 o4 b4 gr4 hat4))
     go_roundw
     case rel=>exact ⟨j+1,_,_,by omega,by go_num,rfl,by rw [HT2.out,HDI.out];exact o4,b4⟩
     case measure=>simp [intOf];omega
    ·have hjn:m1=j:=by omega
     subst hjn
     have hO2:=HO2.out
     rw [List.take_of_length_le (by rw [HXF.out];exact Nat.le_refl _)] at hO2
     have HO3:=Hd hO2
     obtain ⟨hcc,hff⟩:=aO (aA HBX.out hbe2)
     clear hO2 hbe2
     go_wp2_with fail
     refine (wN d A2 m1 c2 (eF f) _ HD.out HO3.out.ints HFW.out.symm (yf f)).mono ?_
     rintro e w5 ⟨v,rfl,⟨v0,v1,rfl,hown⟩,b5⟩
     have hs5:=b5.size
     have B5:=Hd b5
     have OW:=Hd hown
     have OO:=Hd ((HO.out.below (aA HE2.out b5)))
     have E5:=Hd (aA HBX.out (aA HE2.out b5))
     clear hcc hff b5 hown
     go_wp2_with (at_builtin;refine sP (W:=(w.alloc (.cells #[.int .i64 d.W,.int .i64 d.H,.int .i64 d.T,.int .i64 d.R] 25))) rfl _ _ 96 103 rfl i0 _ 4 64 Tryz.underlying96 HI0.out HZ0.out HZ1.out HZ2.out rfl (by omega) (by omega) (w.alloc (.cells #[.int .i64 d.W,.int .i64 d.H,.int .i64 d.T,.int .i64 d.R] 25)).heap.size w0.heap.size A' k c' _ wr.heap.size _ #[v0,v1,.int .i64 (oV d (eF f)).pad,.int .i64 (oV d (eF f)).ram] rfl OO.out OW.out rfl rfl (by omega) (by omega) (by simp only [World.size_alloc];omega) (by omega) (by simp only [World.size_alloc];omega) E5.out ?_;rintro g6 cap w6 o6 b6 _ hs6)
     go_roundw
     case rel =>
      refine ⟨k+1,_,_,by omega,by go_num,rfl,?_,b6⟩
      rw [HT.out]
      unfold lH
      rw [vZ]
      exact o6
     case measure=>simp [intOf];omega
  ·have hkn:n=k:=by omega
   subst hkn
   go_wp2_with fail
   go_ret
   exact ⟨_,_,rfl,by have:=HO.out;rw [List.take_of_length_le (by rw [HX.out];exact Nat.le_refl _)] at this;exact this.widen (by simp) (Nat.le_refl _),HE.out⟩
theorem dP.set_ {lo hi:Nat} {w:World} {cs:List Cel} {vs:List Value} (h:dP lo hi w cs vs) {p:Addr} (hp:p.block<lo∨hi<=p.block) (v:Value):dP lo hi (w.setCell p v) cs vs :=
 h.keep fun _ h1 h2 _=>Below.heap_setCell _ _ _ _ (by omega)
theorem dP.al_ {lo hi:Nat} {w:World} {cs:List Cel} {vs:List Value} (h:dP lo hi w cs vs) (o:Obj):dP lo hi (w.alloc o) cs vs :=
 h.keep fun _ _ _ h3=>Below.heap_alloc _ _ _ h3
theorem rF {w:World} {e s:Nat} {cs:List Cel} {v:Value} {F:List Nat} (h:dG w (.row e s cs) v F):∃A n c,v = .slice A n c:=by
 rw [dn] at h
 obtain ⟨A,n,cap,vs,F',rfl,_⟩:=h
 exact ⟨A,n,cap,rfl⟩
theorem uN.slices {lo hi:Nat} {w:World} {t:au} {v:Value} (h:uN lo hi w t v):∃(A0:Option Addr) (n0 c0:Nat) (A1:Option Addr) (n1 c1:Nat),v = .agg #[.slice A0 n0 c0,.slice A1 n1 c1,.int .i64 t.pad,.int .i64 t.ram]/\dP lo hi w t.cells [.slice A0 n0 c0,.slice A1 n1 c1,.int .i64 t.pad,.int .i64 t.ram]:=by
 obtain ⟨v0,v1,rfl,F,h1,h2,h3⟩:=h
 have h1':=h1
 unfold au.cells at h1
 rw [bz] at h1
 obtain ⟨u,vs,F1,F2,e1,_,k1,k2⟩:=h1
 injection e1 with e1 e2
 subst e1 e2
 rw [bz] at k2
 obtain ⟨u,vs,F3,F4,e1,_,k3,_⟩:=k2
 injection e1 with e1 e2
 subst e1 e2
 obtain ⟨A0,n0,c0,rfl⟩:=rF (e:=3) (s:=1) k1
 obtain ⟨A1,n1,c1,rfl⟩:=rF (e:=107) (s:=4) k3
 exact ⟨A0,n0,c0,A1,n1,c1,rfl,F,h1',h2,h3⟩
theorem dP.set4 {lo hi g:Nat} {w:World} {cs:List Cel} {vs:List Value} {u0 u1 u2 u3:Value} (h:dP lo hi w cs vs) (hp:g<lo∨hi<=g) :
  dP lo hi ((((w.setCell ⟨g,0,none⟩ u0).setCell ⟨g,1,none⟩ u1).setCell ⟨g,2,none⟩ u2).setCell ⟨g,3,none⟩ u3) cs vs :=
 (((h.set_ (p:=⟨g,0,none⟩) hp u0).set_ (p:=⟨g,1,none⟩) hp u1).set_ (p:=⟨g,2,none⟩) hp u2).set_ (p:=⟨g,3,none⟩) hp u3
theorem Gv {B g:Nat} {W w:World} {u0 u1 u2 u3:Value} (h:Below B W w) (hp:B<=g):Below B W ((((w.setCell ⟨g,0,none⟩ u0).setCell ⟨g,1,none⟩ u1).setCell ⟨g,2,none⟩ u2).setCell ⟨g,3,none⟩ u3) :=
 (((h.setCell (p:=⟨g,0,none⟩) hp u0).setCell (p:=⟨g,1,none⟩) hp u1).setCell (p:=⟨g,2,none⟩) hp u2).setCell (p:=⟨g,3,none⟩) hp u3
theorem AR {W W':World} {g b o:Nat} {v0 v1 v2 v3 v4:Value} (hb:Below W.heap.size W W') (hg:g<W.heap.size) (hbb:b<W.heap.size)
  (h:W.cell? ⟨g,0,none⟩=some v0/\W.cell? ⟨g,1,none⟩=some v1/\W.cell? ⟨g,2,none⟩=some v2/\W.cell? ⟨g,3,none⟩=some v3/\W.cell? ⟨b,o,none⟩=some v4) :
  W'.cell? ⟨g,0,none⟩=some v0/\W'.cell? ⟨g,1,none⟩=some v1/\W'.cell? ⟨g,2,none⟩=some v2/\W'.cell? ⟨g,3,none⟩=some v3/\W'.cell? ⟨b,o,none⟩=some v4 :=
 ⟨(hb.cell (p:=⟨g,0,none⟩) hg).trans h.1,(hb.cell (p:=⟨g,1,none⟩) hg).trans h.2.1,(hb.cell (p:=⟨g,2,none⟩) hg).trans h.2.2.1,(hb.cell (p:=⟨g,3,none⟩) hg).trans h.2.2.2.1,(hb.cell (p:=⟨b,o,none⟩) hbb).trans h.2.2.2.2⟩
def H8 (t:au) (w0:World) (s7:Value) (wx:World):Prop:=∃(gx:Nat) (v0 v1:Value),s7 = .pointer (some ⟨gx,0,none⟩)/\wx.heap[gx]?=some (.cells #[v0,v1,.int .i64 t.pad,.int .i64 t.ram] 103 (0,0))/\dP w0.heap.size wx.heap.size wx t.cells [v0,v1,.int .i64 t.pad,.int .i64 t.ram]/\Below w0.heap.size w0 wx
theorem Du {t:au} {w0 wx:World} {gx lo hi:Nat} {v0 v1:Value} (h1:wx.heap[gx]?=some (.cells #[v0,v1,.int .i64 t.pad,.int .i64 t.ram] 103 (0,0))) (h2:dP lo hi wx t.cells [v0,v1,.int .i64 t.pad,.int .i64 t.ram]) (h3:w0.heap.size<=lo) (h4:hi<=wx.heap.size) (h5:Below w0.heap.size w0 wx):H8 t w0 (.pointer (some ⟨gx,0,none⟩)) wx :=
 ⟨gx,v0,v1,rfl,h1,h2.widen h3 h4,h5⟩
theorem kY (d:Dev) (A:Option Addr) (n c:Nat) (fs:List (List Int)) (w:World) (hA:dZ w A n fs) (hz:af fs<=1099511627776) :
  Calls Tryz.prog 64 #[.agg #[.int .i64 d.W,.int .i64 d.H,.int .i64 d.T,.int .i64 d.R],.slice A n c] w fun e w'=>∃A' n' c',e = .returned (.slice A' n' c')/\eB w.heap.size w'.heap.size w' (lH (lZ d fs)) (.slice A' n' c')/\Below w.heap.size w w':=by
 have hB0:Below w.heap.size w (w.alloc (.cells #[.int .i64 d.W,.int .i64 d.H,.int .i64 d.T,.int .i64 d.R] 25)):=aB (Below.refl _ _) _
 have HI:=Hd hA
 have hX:=hA.1
 have HX:=Hd hX
 obtain ⟨i0,hi,hz0,hz1,hz2⟩:=info_parts xV
 have HI0:=Hd hi
 have HZ0:=Hd hz0
 have HZ1:=Hd hz1
 have HZ2:=Hd hz2
 clear hA hX hi hz0 hz1 hz2
 go_enter Tryz.func64,Tryz.ntmps64
 go_wp2_with fail
 refine (iK d A n c fs _ (HI.out.below (aB hB0 _)) hz).mono ?_
 rintro e w1 ⟨rfl,b1⟩
 have hs1:=b1.size
 simp only [World.size_alloc] at hs1
 have N1:=Hd ((Fe (w:=(w.alloc (.cells #[.int .i64 d.W,.int .i64 d.H,.int .i64 d.T,.int .i64 d.R] 25))) 103 4 (g:=w.heap.size+1) (by simp)).below b1)
 have HBX1:=Hd (aA (aB (Below.refl (w.alloc (.cells #[.int .i64 d.W,.int .i64 d.H,.int .i64 d.T,.int .i64 d.R] 25)).heap.size (w.alloc (.cells #[.int .i64 d.W,.int .i64 d.H,.int .i64 d.T,.int .i64 d.R] 25))) _) b1)
 have B1:=Hd (aA (aB hB0 _) b1)
 clear b1
 cases hf:az d fs with
 | false =>
  have HF:=Hd hf
  clear hf
  go_wp2_with fail
  go_ret
  exact ⟨_,0,0,rfl,by rw [lZ,HF.out];exact N1.out.widen (by omega) (by omega),B1.out⟩
 | true =>
  have hdv:=(aj hf).1
  have hfb:=jq hdv
  obtain ⟨F,hF⟩:∃F:Nat,fwI d=(F:Int):=⟨(fwI d).toNat,by omega⟩
  rw [hF] at hfb
  have hn36:=(dW hf).2
  rw [HX.out] at hn36
  have HFW:=Hd hF
  have HD:=Hd hdv
  have HF:=Hd hf
  obtain ⟨_,hAr⟩:=HI.out
  clear hf hdv hF
  go_wp2_with fail
  go_loopw [5,6] (fun v i wr=>∃(k:Nat) (A':Option Addr) (c':Nat),k<=n/\i = .int .i64 k/\v = .slice A' k c'/\eB (w.alloc (.cells #[.int .i64 d.W,.int .i64 d.H,.int .i64 d.T,.int .i64 d.R] 25)).heap.size wr.heap.size wr (lH (av d (fs.take k))) (.slice A' k c')/\Below (w.alloc (.cells #[.int .i64 d.W,.int .i64 d.H,.int .i64 d.T,.int .i64 d.R] 25)).heap.size (w.alloc (.cells #[.int .i64 d.W,.int .i64 d.H,.int .i64 d.T,.int .i64 d.R] 25)) wr) (fun _ i _=>n - (intOf i).toNat)
  case atStart=>exact ⟨0,_,0,Nat.zero_le _,rfl,rfl,N1.out.widen (by simp) (by omega),HBX1.out⟩
  case round =>
   obtain ⟨k,A',c',hk,rfl,rfl,ho,hbx⟩:=hrel
   have HO:=Hd ho
   have HBX:=Hd hbx
   have hbe:=aA hB0 hbx
   have HE:=Hd hbe
   have hsx:=hbx.size
   simp only [World.size_alloc] at hsx
   clear ho
   by_cases hlt:k<n
   ·obtain ⟨b,o,rfl,hb,hc⟩:=hAr (by omega)
    obtain ⟨A1,m1,c1,hck,hI1⟩:=hc k hlt
    rw [←hbe.cell (p:=⟨b,o+k,none⟩) hb] at hck
    have hfr:=jK HF.out (j:=k) (by rw [HX.out];exact hlt)
    have hm1:m1=F:=by have:=hfr.2;rw [hI1.1,HFW.out] at this;omega
    subst hm1
    have HIN:=Hd hfr.1
    have J1:=Hd (hI1.below hbe)
    have HXF:=Hd hI1.1
    have hsw:=hbe.size
    have HT:=Hd (vg (d:=d) (fs:=fs) (k:=k) (by rw [HX.out];exact hlt))
    have hbw:b<wr.heap.size:=by omega
    obtain ⟨hcc,hff⟩:=aO hbx
    have q0:wr.cell? ⟨w.heap.size,0,none⟩=some (.int .i64 d.W):=(hcc _ _ (by simp)).trans (aC (aL w _) rfl)
    have q1:wr.cell? ⟨w.heap.size,1,none⟩=some (.int .i64 d.H):=(hcc _ _ (by simp)).trans (aC (aL w _) rfl)
    have q2:wr.cell? ⟨w.heap.size,2,none⟩=some (.int .i64 d.T):=(hcc _ _ (by simp)).trans (aC (aL w _) rfl)
    have q3:wr.cell? ⟨w.heap.size,3,none⟩=some (.int .i64 d.R):=(hcc _ _ (by simp)).trans (aC (aL w _) rfl)
    have hww:w.heap.size<wr.heap.size:=by omega
    clear hc hI1 hfr hbe hbx hcc hff
    generalize fs[k]?.getD []=f at *
    go_wp2_with fail
    have hD:=Below.refl wr.heap.size wr
    have HQ:=Hd (And.intro q0 (And.intro q1 (And.intro q2 (And.intro q3 hck))))
    clear q0 q1 q2 q3 hck
    go_cut [7] (fun s7 wx=>H8 (oV d (eF f)) wr s7 wx)
    case first =>
     go_region_held3 (fun w'=>w'.cell? ⟨w.heap.size,0,none⟩=some (.int .i64 d.W)/\w'.cell? ⟨w.heap.size,1,none⟩=some (.int .i64 d.H)/\w'.cell? ⟨w.heap.size,2,none⟩=some (.int .i64 d.T)/\w'.cell? ⟨w.heap.size,3,none⟩=some (.int .i64 d.R)/\w'.cell? ⟨b,o+k,none⟩=some (.slice A1 m1 c1))
      (first
       | with_reducible exact AR hD hww hbw HQ.out
       | with_reducible exact AR hD.drew hww hbw HQ.out
       | with_reducible exact AR (aB hD _) hww hbw HQ.out
       | with_reducible exact AR (aB hD _).drew hww hbw HQ.out
       | (with_reducible refine AR (Gv hD ?_) hww hbw HQ.out;omega))
      (first
       | (go_at_call 136;(first|(with_reducible refine (pQ A1 m1 c1 f _ (J1.out.below hD.drew) HIN.out (by omega)).mono ?_)|(with_reducible refine (pQ A1 m1 c1 f _ (J1.out.below (aB hD _).drew) HIN.out (by omega)).mono ?_));rintro e w2 ⟨A2,c2,rfl,o2,b2⟩;have hs2:=b2.size;(first|(with_reducible have hD2:=aA hD.drew b2)|(with_reducible have hD2:=aA (aB hD _).drew b2;have hx2:=Hd (aF b2 (ji (aL _ _)))));have O2:=Hd o2;(try simp only [World.size_alloc,rR] at hs2);replace hD:=hD2;clear b2 o2)
       | (go_at_call 135;(first|(with_reducible refine (pE d A2 m1 c2 (eF f) _ HD.out O2.out.ints HFW.out.symm (yf f)).mono ?_)|(with_reducible refine (pE d A2 m1 c2 (eF f) _ HD.out (O2.out.ints.below (aB (Below.refl _ _) _)) HFW.out.symm (yf f)).mono ?_));rintro e w5 ⟨v,rfl,ht,b5⟩;obtain ⟨A3,n3,c3,A4,n4,c4,rfl,hown⟩:=ht.slices;clear ht;have hs5:=b5.size;(first|(with_reducible have hD2:=aA hD b5;(try have hx5:=aF b5 hx2.out))|(with_reducible have hD2:=aA (aB hD _) b5;have hx5:=aF b5 (aL _ _)));have OW:=Hd hown;(try simp only [World.size_alloc] at hs5);replace hD:=hD2;(try (have a0:=aC (k:=0) hx5 rfl;have a1:=aC (k:=1) hx5 rfl;have a2:=aC (k:=2) hx5 rfl;have a3:=aC (k:=3) hx5 rfl;have y0:=aJ hx5 0;have y1:=aJ hx5 1;have y2:=aJ hx5 2;have y3:=aJ hx5 3;have HX5:=Hd hx5;clear hx5));clear b5 hown))
     all_goals
      go_wp2_with fail
      go_meet
      first
       | (with_reducible refine Du (gV HX5.out) (OW.out.set4 (.inl ?_)) ?_ ?_ (Gv hD ?_))
       | (with_reducible refine Du (aL _ _) (OW.out.al_ _) ?_ ?_ (aB hD _))
      all_goals
       (try simp only [eU,World.size_alloc])
       omega
    case rest =>
     obtain ⟨gx,v0,v1,rfl,hx,hown,hb2⟩:=hcut
     have x0:=aC (k:=0) hx rfl
     have x1:=aC (k:=1) hx rfl
     have x2:=aC (k:=2) hx rfl
     have x3:=aC (k:=3) hx rfl
     have OO:=Hd (HO.out.below hb2)
     have OW:=Hd hown
     have E5:=Hd (aA HBX.out hb2)
     have hs5:=hb2.size
     clear hx hown hb2 hD
     go_wp2_with (at_builtin;refine sP (W:=(w.alloc (.cells #[.int .i64 d.W,.int .i64 d.H,.int .i64 d.T,.int .i64 d.R] 25))) rfl _ _ 96 103 rfl i0 _ 4 64 Tryz.underlying96 HI0.out HZ0.out HZ1.out HZ2.out rfl (by omega) (by omega) (w.alloc (.cells #[.int .i64 d.W,.int .i64 d.H,.int .i64 d.T,.int .i64 d.R] 25)).heap.size wr.heap.size A' k c' _ wr.heap.size _ #[v0,v1,.int .i64 (oV d (eF f)).pad,.int .i64 (oV d (eF f)).ram] rfl OO.out OW.out rfl rfl (by omega) (by omega) (by simp only [World.size_alloc];omega) (by omega) (by simp only [World.size_alloc];omega) E5.out ?_;rintro g6 cap w6 o6 b6 _ hs6)
     go_roundw
     case rel =>
      refine ⟨k+1,_,_,by omega,by go_num,rfl,?_,b6⟩
      rw [HT.out]
      unfold lH
      rw [vZ]
      exact o6
     case measure=>simp [intOf];omega
   ·have hkn:n=k:=by omega
    subst hkn
    go_wp2_with fail
    go_ret
    exact ⟨_,_,_,rfl,by have:=HO.out;rw [List.take_of_length_le (by rw [HX.out];exact Nat.le_refl _)] at this;rw [lZ,HF.out,if_pos rfl];exact this.widen (by simp) (Nat.le_refl _),HE.out⟩
def je (d:Dev) (k:Nat) (t:au):List Int :=
 if ah d (k:Int)=1 then [(t.les[0]?.getD Le.zero).init,(t.les[1]?.getD Le.zero).init] else if ah d (k:Int)=2 then [t.ram,0] else [0,0]
def fI (d:Dev) (ts:List au):Nat→List Int
 | 0=>[]
 | k+1=>fI d ts k++je d k (ts[k]?.getD au.zero)
theorem vk (d:Dev) (k:Nat) (t:au):(je d k t).length=2:=by unfold je;split <;> (try split) <;> rfl
theorem jf (d:Dev) (ts:List au) (k:Nat):(fI d ts k).length=2 * k:=by
 induction k with
 | zero=>rfl
 | succ k ih=>rw [fI,List.length_append,ih,vk];omega
def gy (d:Dev) (ts:List au) (m k:Nat):List Int:=fI d ts k++List.replicate (2 * (m - k)) 0
theorem qb {d:Dev} {ts:List au} {m k:Nat} (h:k<=m):(gy d ts m k).length=2 * m:=by simp [gy,jf];omega
theorem AU (d:Dev) (ts:List au) (m:Nat):gy d ts m 0=List.replicate (2 * m) 0:=by simp [gy,fI]
theorem AV (d:Dev) (ts:List au) (m:Nat):gy d ts m m=fI d ts m:=by simp [gy]
theorem ny {d:Dev} {ts:List au} {m k:Nat} (h:k<m):gy d ts m k=fI d ts k++0 :: 0 :: List.replicate (2 * (m - (k+1))) 0:=by
 rw [gy,show 2 * (m - k)=2 * (m - (k+1))+1+1 by omega]
 rfl
theorem CV {d:Dev} {ts:List au} {m k:Nat} (h:k<m) (a b:Int) (hs:je d k (ts[k]?.getD au.zero)=[a,b]):((gy d ts m k).set (2 * k) a).set (2 * k+1) b=gy d ts m (k+1):=by
 have hl:=jf d ts k
 rw [ny h,List.set_append,if_neg (by omega),hl,Nat.sub_self,List.set_cons_zero,List.set_append,if_neg (by omega),hl,show 2 * k+1 - 2 * k=0+1 by omega,List.set_cons_succ,List.set_cons_zero,gy,fI,hs,List.append_assoc]
 rfl
theorem AX {d:Dev} {ts:List au} {m k:Nat} (h:k<m) (a:Int) (hs:je d k (ts[k]?.getD au.zero)=[a,0]):(gy d ts m k).set (2 * k) a=gy d ts m (k+1):=by
 have hl:=jf d ts k
 rw [ny h,List.set_append,if_neg (by omega),hl,Nat.sub_self,List.set_cons_zero,gy,fI,hs,List.append_assoc]
 rfl
theorem AY {d:Dev} {ts:List au} {m k:Nat} (h:k<m) (hs:je d k (ts[k]?.getD au.zero)=[0,0]):gy d ts m k=gy d ts m (k+1):=by
 rw [ny h,gy,fI,hs,List.append_assoc]
 rfl
def dA (d:Dev) (fs:List (List Int)):List Int:=fI d (lZ d fs) (lZ d fs).length
def H9 (ts:List au):Prop:=∀k,k<ts.length→(ts[k]?.getD au.zero).les.length=2
theorem yg (d:Dev) (A:Option Addr) (m c:Nat) (ts:List au) (w:World) (hA:RdC w w.heap.size (lH ts) (.slice A m c)) (hd:bO d=true) (hm:m<=36) (hl:H9 ts) :
  Calls Tryz.prog 148 #[.agg #[.int .i64 d.W,.int .i64 d.H,.int .i64 d.T,.int .i64 d.R],.slice A m c] w fun e w'=>∃A',e = .returned (.slice A' (2 * m) (2 * m))/\Own w.heap.size w' A' (2 * m) (2 * m) (fI d ts m)/\Below w.heap.size w w':=by
 have hB0:Below w.heap.size w (w.alloc (.cells #[.int .i64 d.W,.int .i64 d.H,.int .i64 d.T,.int .i64 d.R] 25)):=aB (Below.refl _ _) _
 have HA:=Hd hA
 have HD:=Hd hd
 have HL:=Hd hl
 have HTL:=Hd hA.tlen
 obtain ⟨i0,hi,hz0,hz1,hz2⟩:=info_parts eP
 have hmk:=fun W=>bU (P:=Tryz.prog) 27 3 i0 _ Tryz.underlying27 hi hz0 .i64 .i64 (2 * m) (2 * m) (Nat.le_refl _) (by rw [hz2];omega) (by omega) W
 rw [hz1,Nat.mul_one,show (Value.int .i64 0).cells=#[Value.int .i64 0] from rfl,iV] at hmk
 have e2m:((2 * m:Nat):Int)=2 * (m:Int):=by omega
 rw [e2m] at hmk
 clear hA hd hl hi hz0 hz1 hz2 e2m
 go_enter Tryz.func148,Tryz.ntmps148
 go_wp2_with fail
 clear hmk
 have HB0:=Hd hB0
 have H0:Hid (((w.alloc (.cells #[.int .i64 d.W,.int .i64 d.H,.int .i64 d.T,.int .i64 d.R] 25)).alloc (.cells (arr (List.replicate (2 * m) 0)) 3)).heap[w.heap.size+1]?=some (.cells (arr (gy d ts m 0)) 3 (0,0))):=by
  rw [AU]
  exact ae (by simp)
 clear hB0
 go_loopw [14] (fun i wr=>∃k:Nat,k<=m/\i = .int .i64 k/\wr.heap[w.heap.size+1]?=some (.cells (arr (gy d ts m k)) 3 (0,0))/\Below (w.alloc (.cells #[.int .i64 d.W,.int .i64 d.H,.int .i64 d.T,.int .i64 d.R] 25)).heap.size (w.alloc (.cells #[.int .i64 d.W,.int .i64 d.H,.int .i64 d.T,.int .i64 d.R] 25)) wr) (fun i _=>m - (intOf i).toNat)
 case atStart=>exact ⟨0,Nat.zero_le _,rfl,H0.out,aB (Below.refl _ _) _⟩
 case round =>
  obtain ⟨k,hk,rfl,hg,hbx⟩:=hrel
  have HG:=Hd hg
  have HBX:=Hd hbx
  have hbe:=aA HB0.out hbx
  have HE:=Hd hbe
  have hsx:=hbx.size
  simp only [World.size_alloc] at hsx
  have hgl:=aX hg
  obtain ⟨hcc,hff⟩:=aO hbx
  clear hg hbx
  by_cases hlt:k<m
  ·obtain ⟨b,o,S,m3,p,L,l,q,rfl,hb,c0,c1,c2,c3,r0,r1⟩:=HA.out.tile (k:=k) (by rw [HTL.out];exact hlt)
   have hll:=HL.out k (by rw [HTL.out];exact hlt)
   have HLE:=Hd r1
   have HSO:Hid (je d k (ts[k]?.getD au.zero)=if ah d (k:Int)=1 then [((ts[k]?.getD au.zero).les[0]?.getD Le.zero).init,((ts[k]?.getD au.zero).les[1]?.getD Le.zero).init] else if ah d (k:Int)=2 then [(ts[k]?.getD au.zero).ram,0] else [0,0]):=rfl
   have HSET:=fun a b'=>Hd (CV (d:=d) (ts:=ts) hlt a b')
   have HONE:=fun a=>Hd (AX (d:=d) (ts:=ts) hlt a)
   have HSAME:=Hd (AY (d:=d) (ts:=ts) hlt)
   have HPL:=Hd (qb (d:=d) (ts:=ts) (m:=m) (k:=k) hk)
   generalize ts[k]?.getD au.zero=t at *
   have HLL:=Hd hll
   have hww:w.heap.size<wr.heap.size:=by omega
   have i0:(0:Int)<=(k:Int):=by omega
   have i1:(k:Int)<(m:Int):=by omega
   clear r0 r1 hbe hll
   go_wp2_with fail
   refine (iC d k _ HD.out (by omega) (by omega)).mono ?_
   rintro e w2 ⟨rfl,b2⟩
   have hs2:=b2.size
   simp only [World.size_alloc] at hs2
   have G2:=Hd (aF b2 (aR _ HG.out))
   have T2:=Hd (aF b2 (aL _ _))
   have E2:=Hd (aA (aB HBX.out _) b2)
   have LE2:=Hd (HLE.out.keep (w':=w2) (Nat.le_refl _) (aA HB0.out E2.out).block)
   clear b2 hcc hff
   have hk3:=df d (k:Int)
   generalize ah d (k:Int)=kd at *
   rcases hk3 with h|h|h
   ·subst h
    have HS1:=Hd (HSAME.out (by rw [HSO.out];simp))
    go_wp2_with fail
    go_roundw
    case rel=>exact ⟨k+1,by omega,by go_num,by rw [←HS1.out];exact G2.out,E2.out⟩
    case measure=>simp [intOf];omega
   ·subst h
    obtain ⟨b3,o3,S3,m4,p3,rfl,hb3,_,_,_,d3,_⟩:=LE2.out.le (k:=0) (by rw [HLL.out];omega)
    obtain ⟨b4,o4,S4,m5,p4,hbo,_,_,_,_,d4,_⟩:=LE2.out.le (k:=1) (by rw [HLL.out];omega)
    injection hbo with hbo
    injection hbo with hb4 ho4
    subst hb4 ho4
    obtain rfl:2=l:=by have hl2:=LE2.out.elen;rw [HLL.out] at hl2;exact hl2
    have hne3:b3≠w.heap.size+1:=by omega
    have HS1:=HSET (((t.les)[0]?.getD Le.zero).init) (((t.les)[1]?.getD Le.zero).init)
    have HS2:=Hd (HS1.out (by rw [HSO.out,if_pos rfl]))
    generalize ((t.les)[0]?.getD Le.zero).init=x at *
    generalize ((t.les)[1]?.getD Le.zero).init=y at *
    have d3':w2.cell? ⟨b3,o3+3,none⟩=some (.int .i64 x):=by have h:=d3;rw [Nat.zero_mul,Nat.add_zero] at h;exact h
    have d4':w2.cell? ⟨b3,o3+4+3,none⟩=some (.int .i64 y):=by have h:=d4;rw [Nat.one_mul] at h;exact h
    have t1:=aC (k:=1) T2.out rfl
    have g1:=aC (k:=2 * k) G2.out (fC (by rw [HPL.out];omega))
    have f1:=aJ G2.out (2 * k)
    have g2:=aC (k:=2 * k+1) G2.out (fC (by rw [HPL.out];omega))
    have f2:=aJ G2.out (2 * k+1)
    clear d3 d4 HSET HSAME HS1
    go_wp2_with fail
    go_roundw
    case rel =>
     refine ⟨k+1,by omega,by go_num,?_,(E2.out.setCell (p:=⟨w.heap.size+1,2 * k,none⟩) (by simp) _).setCell (p:=⟨w.heap.size+1,2 * k+1,none⟩) (by simp) _⟩
     rw [bF (bF G2.out (2 * k) _) (2 * k+1),iA,iA,HS2.out]
    case measure=>simp [intOf];omega
   ·subst h
    have HS1:=HONE t.ram
    have HS2:=Hd (HS1.out (by rw [HSO.out,if_neg (by omega),if_pos rfl]))
    have t3:=aC (k:=3) T2.out rfl
    have g1:=aC (k:=2 * k) G2.out (fC (by rw [HPL.out];omega))
    have f1:=aJ G2.out (2 * k)
    clear HSET HSAME HS1 HONE
    go_wp2_with fail
    go_roundw
    case rel =>
     refine ⟨k+1,by omega,by go_num,?_,E2.out.setCell (p:=⟨w.heap.size+1,2 * k,none⟩) (by simp) _⟩
     rw [bF G2.out (2 * k),iA,HS2.out]
    case measure=>simp [intOf];omega
  ·have hkm:m=k:=by omega
   subst hkm
   go_wp2_with fail
   go_ret
   exact ⟨_,rfl,by rw [←AV];exact Own.arr HG.out (by omega) (by unfold maxLen;omega) (qb (Nat.le_refl _)),HE.out⟩
theorem sQ (d:Dev) (fs:List (List Int)):H9 (av d fs):=by
 intro k hk
 rw [iR] at hk
 unfold av
 rw [List.getElem?_map,List.getElem?_eq_getElem hk]
 rfl
theorem jO {W W':World} {g:Nat} {v0 v1 v2 v3:Value} (hb:Below W.heap.size W W') (hg:g<W.heap.size)
  (h:W.cell? ⟨g,0,none⟩=some v0/\W.cell? ⟨g,1,none⟩=some v1/\W.cell? ⟨g,2,none⟩=some v2/\W.cell? ⟨g,3,none⟩=some v3) :
  W'.cell? ⟨g,0,none⟩=some v0/\W'.cell? ⟨g,1,none⟩=some v1/\W'.cell? ⟨g,2,none⟩=some v2/\W'.cell? ⟨g,3,none⟩=some v3 :=
 ⟨(hb.cell (p:=⟨g,0,none⟩) hg).trans h.1,(hb.cell (p:=⟨g,1,none⟩) hg).trans h.2.1,(hb.cell (p:=⟨g,2,none⟩) hg).trans h.2.2.1,(hb.cell (p:=⟨g,3,none⟩) hg).trans h.2.2.2⟩
theorem ww (w:World) (d:Dev):(w.alloc (.cells #[.int .i64 d.W,.int .i64 d.H,.int .i64 d.T,.int .i64 d.R] 25)).cell? ⟨w.heap.size,0,none⟩=some (.int .i64 d.W)/\(w.alloc (.cells #[.int .i64 d.W,.int .i64 d.H,.int .i64 d.T,.int .i64 d.R] 25)).cell? ⟨w.heap.size,1,none⟩=some (.int .i64 d.H)/\(w.alloc (.cells #[.int .i64 d.W,.int .i64 d.H,.int .i64 d.T,.int .i64 d.R] 25)).cell? ⟨w.heap.size,2,none⟩=some (.int .i64 d.T)/\(w.alloc (.cells #[.int .i64 d.W,.int .i64 d.H,.int .i64 d.T,.int .i64 d.R] 25)).cell? ⟨w.heap.size,3,none⟩=some (.int .i64 d.R) :=
 ⟨aC (aL w _) rfl,aC (aL w _) rfl,aC (aL w _) rfl,aC (aL w _) rfl⟩
theorem vo {d:Dev} {fs:List (List Int)} (h:az d fs=false):dA d fs=[]:=by unfold dA;rw [lZ,h];rfl
theorem pg {d:Dev} {fs:List (List Int)} (h:az d fs=true):dA d fs=fI d (av d fs) fs.length:=by unfold dA;rw [lZ,h,if_pos rfl,iR]
theorem wz (d:Dev) (A:Option Addr) (n c:Nat) (fs:List (List Int)) (w:World) (hA:dZ w A n fs) (hz:af fs<=1099511627776) :
  Calls Tryz.prog 173 #[.agg #[.int .i64 d.W,.int .i64 d.H,.int .i64 d.T,.int .i64 d.R],.slice A n c] w fun e w'=>∃A' n' c',e = .returned (.slice A' n' c')/\Own w.heap.size w' A' n' c' (dA d fs)/\Below w.heap.size w w':=by
 have hB0:Below w.heap.size w (w.alloc (.cells #[.int .i64 d.W,.int .i64 d.H,.int .i64 d.T,.int .i64 d.R] 25)):=aB (Below.refl _ _) _
 have HI:=Hd hA
 have HX:=Hd hA.1
 clear hA
 go_enter Tryz.func173,Tryz.ntmps173
 go_wp2_with fail
 refine (gB d A n c fs _ (HI.out.below hB0) hz).mono ?_
 rintro e w1 ⟨rfl,b1⟩
 have hs1:=b1.size
 simp only [World.size_alloc] at hs1
 have B1:=Hd (aA hB0 b1)
 have HQ:=Hd (jO b1 (by simp) (ww w d))
 clear b1
 cases hf:az d fs with
 | false =>
  have HF:=Hd hf
  clear hf
  go_wp2_with fail
  go_ret
  exact ⟨none,0,0,rfl,by rw [vo HF.out];exact Own.nil,B1.out⟩
 | true =>
  have HF:=Hd hf
  have hn36:=(dW hf).2
  rw [HX.out] at hn36
  have HD:=Hd (aj hf).1
  clear hf
  have hww:w.heap.size<w1.heap.size:=by omega
  have hD:=Below.refl w1.heap.size w1
  go_wp2_with fail
  go_region_held3 (fun w'=>w'.cell? ⟨w.heap.size,0,none⟩=some (.int .i64 d.W)/\w'.cell? ⟨w.heap.size,1,none⟩=some (.int .i64 d.H)/\w'.cell? ⟨w.heap.size,2,none⟩=some (.int .i64 d.T)/\w'.cell? ⟨w.heap.size,3,none⟩=some (.int .i64 d.R))
   (first|exact jO hD hww HQ.out|exact jO hD.drew hww HQ.out)
   (first
    | (go_at_call 139;(with_reducible refine (pY d A n c fs _ (HI.out.below (aA B1.out hD.drew)) HF.out).mono ?_);rintro e w2 ⟨A2,c2,rfl,o2,b2⟩;have O2:=Hd o2.rd;replace hD:=aA hD.drew b2;clear b2 o2)
    | (go_at_call 148;(with_reducible refine (yg d A2 n c2 (av d fs) _ O2.out HD.out hn36 (sQ d fs)).mono ?_);rintro e w3 ⟨A3,rfl,o3,b3⟩;have O3:=Hd o3;have hs3:=hD.size;replace hD:=aA hD b3;clear b3 o3))
  go_wp2_with fail
  go_ret
  exact ⟨A3,_,_,rfl,by rw [pg HF.out,HX.out];exact O3.out.more (by omega),aA B1.out hD⟩
end Go.Proofs.YtignkfhdkcgkgaaGreat
