/- Draws of acts (printed by mkdrwa.py). -/
import Derived.Test.YtignkfhdkcgkgaaGreatDaS
import Derived.Test.YtignkfhdkcgkgaaGreatDrwBd
namespace Go.Proofs.YtignkfhdkcgkgaaGreat
set_option maxHeartbeats 8000000
set_option maxRecDepth 100000
open Go.RowKit Cw
theorem zl {ops:Array Oper} {rest:List Oper} {o:Oper} {a:Act} {Q:Exit→Act→World→Prop} {w W:World} (hgd:o.guard=none) (s x:Operand) (t e:TypeId)
  (ho:o.op = .call { callee := .builtin .append,args:=#[s,x],argTypes:=#[t,t] }) (i:TypeInfo) (z:Value) (size bytes:Nat) (ht:Tryz.prog.underlying t=some (.slice e)) (hi0:Tryz.prog.info? e=some i) (hz0:i.zero=some z)
  (hz1:i.size=size) (hz2:i.bytes=bytes) (hzc:z.cells.size=size) (hsz:0<size) (hby:bytes<=128)
  (lo hi:Nat) (A:Option Addr) (n c:Nat) (cs:List Cel) (base:Nat) (nc:List Cel) (nv:Array Value) (hs:a.eval s = .slice A n c) (hown:dQ lo hi w (.row e size cs) (.slice A n c)) (hnew:eX base w.heap.size w nc nv.toList) (hnl:nv.size=size) (hx:a.eval x = .slice (some ⟨w.heap.size,0,none⟩) 1 1)
  (hn:n<=68719476736) (hhb:hi<=base) (hlb:lo<=base) (_hhw:hi<=w.heap.size) (hlw:lo<=w.heap.size) (hB:Below lo W w)
  (h:∀g cap w',dQ lo w'.heap.size w' (.row e size (cs++nc)) (.slice (some ⟨g,0,none⟩) (n+1) cap)→Below lo W w'→(w.alloc (.cells nv e)).grownBy w' (A.map (·.block))→((A.map (·.block)=some g)∨g=w.heap.size+1)→w.heap.size<=w'.heap.size →
   wpList Tryz.prog ops Q rest (a.put o.dst (.slice (some ⟨g,0,none⟩) (n+1) cap)) w'):wpList Tryz.prog ops Q (o :: rest) a (w.alloc (.cells nv e)):=by
 obtain ⟨F,h1,h2,h3⟩:=hown
 rw [dY] at h1
 obtain ⟨A',n',c',vs,F',hv,hro,rfl,hl⟩:=h1
 injection hv with hA hnn hcc
 subst hA hnn hcc
 obtain ⟨F2,k1,k2,k3⟩:=hnew
 refine wpList_append_lies (w.alloc (.cells nv e)) hgd s x t ho 0 e i z size bytes ht hi0 hz0 hz1 hz2 hzc hsz (.slice A n c) n vs hs
  (ak hro fun a ha=>Below.heap_alloc _ _ _ (by have:=hro.lt a.block (by subst ha;rfl);exact this.2)) ⟨w.heap.size,0,none⟩ 1 1 nv.toList hx (by simp [hnl])
  (fun j u hu=>?_) k1.one (by omega) (by unfold maxLen;omega) (Nat.le_trans (Nat.mul_le_mul_left _ hby) (by omega)) (Nat.zero_le _) (w.heap.size+1) (by simp) ?_
 ·have e1:(⟨w.heap.size,0,none⟩:Addr).add j=⟨w.heap.size,j,none⟩:=by rw [Addr.add_lit];simp
  rw [e1]
  unfold World.cell?
  rw [aK]
  simpa using hu
 ·intro g cap w' g1 g2 g3 g4
  rw [fF] at g2 g3
  have hlF:∀k∈F',k<w.heap.size:=hl.lt
  have hlF2:∀k∈F2,k<w.heap.size:=k1.lt
  rw [List.nodup_append] at h2
  obtain ⟨m1,m2,m3⟩:=h2
  have hkeep:∀k,k<w.heap.size→k∉blk A→w'.heap[k]?=w.heap[k]?:=fun k hk hkA=>by
   refine (g2.block k (by simp;omega) ?_).trans (Below.heap_alloc _ _ _ hk)
   cases hA':A with
   | none=>simp
   | some ad =>
    simp only [Option.map_some,ne_eq,Option.some.injEq]
    rintro rfl
    exact hkA (by rw [hA'];simp [blk])
  have hA2:∀k∈F2,k∉blk A:=fun k hk hkA=>by
   have:=k3 k hk
   have:=h3 k (List.mem_append_left _ hkA)
   omega
  have hF1:∀k∈F',k∉blk A:=fun k hk hkA=>m3 k hkA k hk rfl
  have hL:fT w' (cs++nc) (vs++nv.toList) (F'++F2):=(hl.keep fun k hk=>hkeep k (hlF k hk) (hF1 k hk)).append (k1.keep fun k hk=>hkeep k (hlF2 k hk) (hA2 k hk))
  have hgn:g∉F'/\g∉F2:=by
   rcases g3 with hg|hg
   ·have hgA:g∈blk A:=by
     cases hA':A with
     | none=>rw [hA'] at hg;cases hg
     | some ad=>rw [hA'] at hg;simp at hg;simp [blk,hg]
    exact ⟨fun hk=>hF1 g hk hgA,fun hk=>hA2 g hk hgA⟩
   ·subst hg
    exact ⟨fun hk=>by have:=hlF _ hk;omega,fun hk=>by have:=hlF2 _ hk;omega⟩
  have hgr:lo<=g:=by
   rcases g3 with hg|hg
   ·cases hA':A with
    | none=>rw [hA'] at hg;cases hg
    | some ad =>
     rw [hA'] at hg
     simp at hg
     have:=h3 ad.block (List.mem_append_left _ (by rw [hA'];simp [blk]))
     omega
   ·omega
  have g3':(A.map (·.block)=some g)∨g=w.heap.size+1:=by
   rcases g3 with hg|hg
   ·exact .inl hg
   ·right;simpa using hg
  have hsw:=g2.size
  simp only [World.size_alloc] at hsw
  refine h g cap w' ⟨g :: (F'++F2),?_,?_,fun k hk=>?_⟩ ?_ g2 g3' (by omega)
  ·rw [dY]
   exact ⟨_,_,_,_,F'++F2,rfl,g1,rfl,hL⟩
  ·rw [List.nodup_cons,List.nodup_append]
   exact ⟨by simp only [List.mem_append,not_or];exact hgn,m2,k2,fun p hp q hq=>by
    have:=h3 p (List.mem_append_right _ hp)
    have:=k3 q hq
    omega⟩
  ·simp only [List.mem_cons,List.mem_append] at hk
   rcases hk with rfl|hk|hk
   ·omega
   ·have:=h3 k (List.mem_append_right _ hk)
    have:=hlF k hk
    omega
   ·have:=k3 k hk
    omega
  ·refine kV (base:=lo) (hB.alloc hlw _) g2 (fun ad had=>?_) (Nat.le_refl _) (by simp;omega)
   exact (h3 ad.block (List.mem_append_left _ (by rw [had];simp [blk]))).1
def Ac.cells (x:Ac):List Cel:=[.int x.kind,.int x.A,.int x.B,.int x.C,.int x.reg.X0,.int x.reg.Y0,.int x.reg.X1,.int x.reg.Y1,jI x.words]
def Iy (xs:List Ac):Cel := .row 74 9 (xs.flatMap Ac.cells)
theorem Ac.cells_length (x:Ac):x.cells.length=9:=rfl
def yH (w:World) (g:Nat) (y:Ac) (WA:Option Addr) (wn wc:Nat):Prop:=w.heap[g]?=some (.cells (dS y WA wn wc) 74 (0,0))
abbrev Jb (w:World) (g:Nat) (y:Ac) (WA:Option Addr) (wn wc:Nat):World :=
 ((((((((w.setCell ⟨g,0,none⟩ (.int .i64 y.kind)).setCell ⟨g,1,none⟩ (.int .i64 y.A)).setCell ⟨g,2,none⟩ (.int .i64 y.B)).setCell ⟨g,3,none⟩ (.int .i64 y.C)).setCell ⟨g,4,none⟩ (.int .i64 y.reg.X0)).setCell ⟨g,5,none⟩ (.int .i64 y.reg.Y0)).setCell ⟨g,6,none⟩ (.int .i64 y.reg.X1)).setCell ⟨g,7,none⟩ (.int .i64 y.reg.Y1)).setCell ⟨g,8,none⟩ (.slice WA wn wc)
theorem KQ {w WF:World} {g:Nat} {y z:Ac} {WA ZA:Option Addr} {wn wc zn zc:Nat} (hWF:Jb w g y WA wn wc=WF) (hz:yH w g z ZA zn zc):yH WF g y WA wn wc/\Chg g (g+1) w WF:=by
 subst hWF
 refine ⟨KR hz,?_⟩
 unfold Jb
 repeat (first|with_reducible exact Chg.refl _ _ _|with_reducible refine Chg.set ?_ (Nat.le_refl _) (Nat.lt_succ_self _) _)
theorem Chg.low {g:Nat} {w w':World} (h:Chg g (g+1) w w') (hg:g<w.heap.size):Below g w w':=⟨h.os,h.tape,h.output,h.size,fun k hk=>h.block k (by omega) (.inl hk)⟩
structure ASt (w wr:World) (g B:Nat) (A:Option Addr) (n c:Nat) (bs:List Int) (b:Bd) (s:Sl3) (ga:Nat) (y:Ac) (WA:Option Addr) (wn wc:Nat):Prop where
 cur:Cur wr g B A n c bs
 grown:w.grownBy wr (some g)
 bd:bD wr w.heap.size b s
 res:yH wr (w.heap.size+1) Ac.zero none 0 0
 at_:yH wr ga y WA wn wc
 own:Own w.heap.size wr WA wn wc y.words
 apart:∀a,WA=some a→ga<a.block
 le:wn<=11
 o1:g<w.heap.size
 o2:w.heap.size+1<ga
section
variable {w wr w':World} {g B:Nat} {A:Option Addr} {n c:Nat} {bs:List Int} {b:Bd} {s:Sl3} {ga:Nat} {y:Ac} {WA:Option Addr} {wn wc:Nat}
theorem ASt.below (h:ASt w wr g B A n c bs b s ga y WA wn wc) (hb:Below wr.heap.size wr w'):ASt w w' g B A n c bs b s ga y WA wn wc :=
 ⟨h.cur.below hb,bG h.grown hb h.grown.size,h.bd.tr hb,aJ hb h.res,aJ hb h.at_,h.own.below hb,h.apart,h.le,h.o1,h.o2⟩
theorem ASt.go (h:ASt w wr g B A n c bs b s ga y WA wn wc) (hg:wr.grownBy w' (some g)) (hc:Cur w' g B A n c bs):ASt w w' g B A n c bs b s ga y WA wn wc:=by
 have o1:=h.o1
 have o2:=h.o2
 exact ⟨hc,aO h.grown hg,(aY hg (aG h.bd) (by omega)).trans h.bd,(aY hg (aG h.res) (by omega)).trans h.res,(aY hg (aG h.at_) (by omega)).trans h.at_,
  h.own.grownC hg o1,h.apart,h.le,o1,o2⟩
theorem BN {w w2:World} {o:Obj} {r:Option Nat} (h:(w.alloc o).grownBy w2 r):w.grownBy w2 r:=aO (bX (aB (Below.refl _ _) _) _) h
theorem ASt.new {w0 w2:World} {y:Ac} (hgw:g<w.heap.size) (hs:w.heap.size+2<=w2.heap.size) (hb:Below w.heap.size w w0) (k2:Cur w2 g B A n c bs) (g2:w0.grownBy w2 (some g)) (hx:bD w0 w.heap.size b s) (hy:yH w0 (w.heap.size+1) Ac.zero none 0 0) (hw:y.words=[]) :
  ASt w (w2.alloc (.cells (dS y none 0 0) 74)) g B A n c bs b s w2.heap.size y none 0 0:=by
 have hb3:Below w2.heap.size w2 (w2.alloc (.cells (dS y none 0 0) 74)):=aB (Below.refl _ _) _
 have h1:bD w2 w.heap.size b s:=(aY g2 (aG hx) (by omega)).trans hx
 have h2:yH w2 (w.heap.size+1) Ac.zero none 0 0:=(aY g2 (aG hy) (by omega)).trans hy
 exact ⟨k2.below hb3,bG (aO (bX hb _) g2) hb3 (by omega),h1.tr hb3,aJ hb3 h2,aK _ _,by rw [hw];exact Own.nil,by rintro a ⟨⟩,by omega,hgw,by omega⟩
theorem BO {w:World} {g k g2:Nat} {v:Value} (h:g2≠g) (o:Nat):(w.setCell ⟨g,k,Option.none⟩ v).cell? ⟨g2,o,Option.none⟩=w.cell? ⟨g2,o,Option.none⟩:=World.cell?_of_block (a:=⟨g2,o,Option.none⟩) (iU (p:=⟨g,k,Option.none⟩) (by simp only;omega) v)
theorem ASt.put {k:Nat} {v:Value} {y':Ac} {WA':Option Addr} {wn' wc':Nat} (h:ASt w wr g B A n c bs b s ga y WA wn wc) (e:(dS y WA wn wc).setIfInBounds k v=dS y' WA' wn' wc') (ho:Own w.heap.size wr WA' wn' wc' y'.words) (ha:∀a,WA'=some a→ga<a.block) (hle:wn'<=11) :
  ASt w (wr.setCell ⟨ga,k,none⟩ v) g B A n c bs b s ga y' WA' wn' wc':=by
 have o1:=h.o1
 have o2:=h.o2
 refine ⟨h.cur.setNew (by omega) k v,aP h.grown (by omega) k v,h.bd.far (p:=⟨ga,k,none⟩) (by simp only;omega) v,fC (p:=⟨ga,k,none⟩) h.res (by simp only;omega) v,bH (k:=k) h.at_ v e,?_,ha,hle,o1,o2⟩
 exact ak ho fun a haa=>iU (p:=⟨ga,k,none⟩) (by have:=ha a haa;simp only;omega) v
theorem ASt.num {k:Nat} {v:Value} {y':Ac} (h:ASt w wr g B A n c bs b s ga y WA wn wc) (e:(dS y WA wn wc).setIfInBounds k v=dS y' WA wn wc) (hw:y'.words=y.words):ASt w (wr.setCell ⟨ga,k,none⟩ v) g B A n c bs b s ga y' WA wn wc :=
 h.put e (by rw [hw];exact h.own) h.apart h.le
theorem ASt.fin {WF:World} (h:ASt w wr g B A n c bs b s ga y WA wn wc) (hWF:Jb wr (w.heap.size+1) y WA wn wc=WF):yH WF (w.heap.size+1) y WA wn wc/\wn<=11/\Own w.heap.size WF WA wn wc y.words/\Cur WF g B A n c bs/\w.grownBy WF (some g):=by
 obtain ⟨e1,e2⟩:=KQ hWF h.res
 have o1:=h.o1
 have o2:=h.o2
 have hl:=e2.low (aG h.res)
 exact ⟨e1,h.le,ak h.own fun a ha=>e2.block _ (h.own.lt a ha).2 (.inr (by have:=h.apart a ha;omega)),h.cur.keepB hl (by omega),bG h.grown hl (by omega)⟩
end
theorem D9 (g B:Nat) (A:Option Addr) (n c:Nat) (bs:List Int) (b:Bd) (s:Sl3) (w:World) (h:Cur w g B A n c bs) (hn:n<=1099511627776) (hd:bL b.dev=true) (hz:bF b.frames<=1099511627776) (hR:∀w',w.grownBy w' (some g)→eD w' s.A1 s.n1 b.frames) :
  Calls Tryz.prog 99 #[.pointer (some ⟨g,0,none⟩),.agg (aD b s)] w fun e w'=>∃(x:Ac) (WA:Option Addr) (wn wc:Nat),e = .returned (.agg (dS x WA wn wc))/\wn<=11/\Own w.heap.size w' WA wn wc x.words/\Cur w' g B A n c bs/\w.grownBy w' (some g):=by
 have hgw:g<w.heap.size:=h.lt
 have HC:=Hd h
 have HD:=Hd hd
 have hM36:=(bO hd).2.2
 have HRR:=Hd hR
 have B0:=Hd (aB (aB (Below.refl w.heap.size w) (.cells (aD b s) 31)) (.cells #[.int .i64 0,.int .i64 0,.int .i64 0,.int .i64 0,.int .i64 0,.int .i64 0,.int .i64 0,.int .i64 0,.slice none 0 0] 74))
 have X0:Hid (bD ((w.alloc (.cells (aD b s) 31)).alloc (.cells #[.int .i64 0,.int .i64 0,.int .i64 0,.int .i64 0,.int .i64 0,.int .i64 0,.int .i64 0,.int .i64 0,.slice none 0 0] 74)) w.heap.size b s):=aW _ (aK _ _)
 have Y0:Hid (yH ((w.alloc (.cells (aD b s) 31)).alloc (.cells #[.int .i64 0,.int .i64 0,.int .i64 0,.int .i64 0,.int .i64 0,.int .i64 0,.int .i64 0,.int .i64 0,.slice none 0 0] 74)) (w.heap.size+1) Ac.zero none 0 0):=ax (by simp)
 have hsz0:((w.alloc (.cells (aD b s) 31)).alloc (.cells #[.int .i64 0,.int .i64 0,.int .i64 0,.int .i64 0,.int .i64 0,.int .i64 0,.int .i64 0,.int .i64 0,.slice none 0 0] 74)).heap.size=w.heap.size+2:=by simp
 clear h hd hR
 go_enter Tryz.func99,Tryz.ntmps99
 go_upto_region 1 with fail
 generalize hW:((w.alloc (.cells (aD b s) 31)).alloc (.cells #[.int .i64 0,.int .i64 0,.int .i64 0,.int .i64 0,.int .i64 0,.int .i64 0,.int .i64 0,.int .i64 0,.slice none 0 0] 74))=w0 at *
 have HSZ:=Hd hsz0
 clear hW hsz0
 go_wp2_with fail
 have hsz0:=HSZ.out
 refine (xm g B A n c bs w0.heap.size 0 10 10 _ ((HC.out.below B0.out).below (aB (Below.refl _ _) _)) hn (by omega) (by omega) (by omega) (by simp) (fun j hj=>Av (l:=[0,0,0,1,2,3,4,4,5,6]) rfl j hj)).mono ?_
 rintro e w2 ⟨x,rfl,k2,g2'⟩
 have g2:=BN g2'
 clear g2'
 have hs2:=g2.size
 have HS:Hid (ASt w (w2.alloc (.cells #[.int .i64 x,.int .i64 0,.int .i64 0,.int .i64 0,.int .i64 0,.int .i64 0,.int .i64 0,.int .i64 0,.slice none 0 0] 74)) g B A n c bs b s w2.heap.size ⟨x,0,0,0,rZ,[]⟩ none 0 0):=ASt.new (y:=⟨x,0,0,0,rZ,[]⟩) hgw (by omega) B0.out k2 g2 X0.out Y0.out rfl
 clear k2 g2 X0 Y0
 have p0:=(cK HS.out.at_).1
 go_upto_region 3 with fail
 generalize hWa:(w2.alloc (.cells #[.int .i64 x,.int .i64 0,.int .i64 0,.int .i64 0,.int .i64 0,.int .i64 0,.int .i64 0,.int .i64 0,.slice none 0 0] 74))=w3 at *
 generalize hga:w2.heap.size=ga at *
 clear hWa hga p0
 by_cases h0:x=0
 ·subst h0
  go_wp2_with fail
  refine (aj g B A n c bs 4096 _ HS.out.cur hn (by omega) (by omega)).mono ?_
  rintro e w4 ⟨v1,rfl,_,_,kk,gg⟩
  replace HS:=Hd (HS.out.go gg kk)
  clear kk gg
  obtain ⟨o0,o1,o2,o3,o4,o5,o6,o7,o8⟩:=cK HS.out.at_
  have yo:=fun k=>aF HS.out.at_ k
  have lo:=aG HS.out.at_
  go_upto_region 16 with fail
  clear o0 o1 o2 o3 o4 o5 o6 o7 o8 yo lo
  replace HS:=Hd (HS.out.num (k:=1) (v := .int .i64 v1) (y':=⟨0,v1,0,0,rZ,[]⟩) rfl rfl)
  generalize hWv1:World.setCell _ _ _=Wv1 at *
  clear hWv1
  obtain ⟨y,WA,wn,wc,HS⟩:∃y WA wn wc,Hid (ASt w _ g B A n c bs b s ga y WA wn wc):=⟨_,_,_,_,HS⟩
  obtain ⟨o0,o1,o2,o3,o4,o5,o6,o7,o8⟩:=cK HS.out.at_
  obtain ⟨z0,z1,z2,z3,z4,z5,z6,z7,z8⟩:=cK HS.out.res
  have yz:=fun k=>aF HS.out.res k
  have lz:=aG HS.out.res
  have lo:=aG HS.out.at_
  have hgo:=HS.out.o2
  go_wp2_with fail
  clear o0 o1 o2 o3 o4 o5 o6 o7 o8 z0 z1 z2 z3 z4 z5 z6 z7 z8 yz lz lo hgo
  generalize hWE:World.setCell _ _ _=WE
  obtain ⟨e1,e2⟩:=HS.out.fin (WF:=WE) hWE
  refine bodyPost_ret (v := .agg (dS y WA wn wc)) ?_ ?_ ?_
  ·exact bZ Tryz.results99 rfl e1 Tryz.underlying74 (by kernel_rfl)
  ·rfl
  ·exact ⟨y,WA,wn,wc,rfl,e2⟩
 have q0:(x==0)=false:=by simp;exact h0
 by_cases h1:x=1
 ·subst h1
  go_wp2_with fail
  refine (aj g B A n c bs 9 _ HS.out.cur hn (by omega) (by omega)).mono ?_
  rintro e w4 ⟨v1,rfl,_,_,kk,gg⟩
  replace HS:=Hd (HS.out.go gg kk)
  clear kk gg
  obtain ⟨o0,o1,o2,o3,o4,o5,o6,o7,o8⟩:=cK HS.out.at_
  have yo:=fun k=>aF HS.out.at_ k
  have lo:=aG HS.out.at_
  go_upto_region 7 with fail
  clear o0 o1 o2 o3 o4 o5 o6 o7 o8 yo lo
  replace HS:=Hd (HS.out.num (k:=1) (v := .int .i64 v1) (y':=⟨1,v1,0,0,rZ,[]⟩) rfl rfl)
  generalize hWv1:World.setCell _ _ _=Wv1 at *
  clear hWv1
  go_wp2_with fail
  refine (aj g B A n c bs 8 _ HS.out.cur hn (by omega) (by omega)).mono ?_
  rintro e w5 ⟨v2,rfl,_,_,kk,gg⟩
  replace HS:=Hd (HS.out.go gg kk)
  clear kk gg
  obtain ⟨o0,o1,o2,o3,o4,o5,o6,o7,o8⟩:=cK HS.out.at_
  have yo:=fun k=>aF HS.out.at_ k
  have lo:=aG HS.out.at_
  go_upto_region 8 with fail
  clear o0 o1 o2 o3 o4 o5 o6 o7 o8 yo lo
  replace HS:=Hd (HS.out.num (k:=2) (v := .int .i64 v2) (y':=⟨1,v1,v2,0,rZ,[]⟩) rfl rfl)
  generalize hWv2:World.setCell _ _ _=Wv2 at *
  clear hWv2
  go_wp2_with fail
  refine (aj g B A n c bs 23 _ HS.out.cur hn (by omega) (by omega)).mono ?_
  rintro e w6 ⟨v3,rfl,_,_,kk,gg⟩
  replace HS:=Hd (HS.out.go gg kk)
  clear kk gg
  obtain ⟨o0,o1,o2,o3,o4,o5,o6,o7,o8⟩:=cK HS.out.at_
  have yo:=fun k=>aF HS.out.at_ k
  have lo:=aG HS.out.at_
  go_upto_region 16 with fail
  clear o0 o1 o2 o3 o4 o5 o6 o7 o8 yo lo
  replace HS:=Hd (HS.out.num (k:=3) (v := .int .i64 v3) (y':=⟨1,v1,v2,v3,rZ,[]⟩) rfl rfl)
  generalize hWv3:World.setCell _ _ _=Wv3 at *
  clear hWv3
  obtain ⟨y,WA,wn,wc,HS⟩:∃y WA wn wc,Hid (ASt w _ g B A n c bs b s ga y WA wn wc):=⟨_,_,_,_,HS⟩
  obtain ⟨o0,o1,o2,o3,o4,o5,o6,o7,o8⟩:=cK HS.out.at_
  obtain ⟨z0,z1,z2,z3,z4,z5,z6,z7,z8⟩:=cK HS.out.res
  have yz:=fun k=>aF HS.out.res k
  have lz:=aG HS.out.res
  have lo:=aG HS.out.at_
  have hgo:=HS.out.o2
  go_wp2_with fail
  clear o0 o1 o2 o3 o4 o5 o6 o7 o8 z0 z1 z2 z3 z4 z5 z6 z7 z8 yz lz lo hgo
  generalize hWE:World.setCell _ _ _=WE
  obtain ⟨e1,e2⟩:=HS.out.fin (WF:=WE) hWE
  refine bodyPost_ret (v := .agg (dS y WA wn wc)) ?_ ?_ ?_
  ·exact bZ Tryz.results99 rfl e1 Tryz.underlying74 (by kernel_rfl)
  ·rfl
  ·exact ⟨y,WA,wn,wc,rfl,e2⟩
 have q1:(x==1)=false:=by simp;exact h1
 by_cases h3:x=3
 ·subst h3
  obtain ⟨x0,x1,x2,x3,x4,x5,x6,x7,x8,x9,x10,x11⟩:=HS.out.bd.cells
  have lb:=aG HS.out.bd
  go_wp2_with fail
  refine (rY g B A n c bs b.dev _ HS.out.cur hn HD.out).mono ?_
  rintro e w4 ⟨r,rfl,kk,gg⟩
  replace HS:=Hd (HS.out.go gg kk)
  clear kk gg x0 x1 x2 x3 x4 x5 x6 x7 x8 x9 x10 x11 lb
  obtain ⟨o0,o1,o2,o3,o4,o5,o6,o7,o8⟩:=cK HS.out.at_
  have yo:=fun k=>aF HS.out.at_ k
  have lo:=aG HS.out.at_
  go_upto_region 16 with fail
  clear o0 o1 o2 o3 o4 o5 o6 o7 o8 yo lo
  replace HS:=Hd ((((HS.out.num (k:=4) (v := .int .i64 r.X0) (y':=⟨3,0,0,0,⟨r.X0,0,0,0⟩,[]⟩) rfl rfl).num (k:=5) (v := .int .i64 r.Y0) (y':=⟨3,0,0,0,⟨r.X0,r.Y0,0,0⟩,[]⟩) rfl rfl).num (k:=6) (v := .int .i64 r.X1) (y':=⟨3,0,0,0,⟨r.X0,r.Y0,r.X1,0⟩,[]⟩) rfl rfl).num (k:=7) (v := .int .i64 r.Y1) (y':=⟨3,0,0,0,r,[]⟩) rfl rfl)
  generalize hWv:World.setCell _ _ _=Wv at *
  clear hWv
  obtain ⟨y,WA,wn,wc,HS⟩:∃y WA wn wc,Hid (ASt w _ g B A n c bs b s ga y WA wn wc):=⟨_,_,_,_,HS⟩
  obtain ⟨o0,o1,o2,o3,o4,o5,o6,o7,o8⟩:=cK HS.out.at_
  obtain ⟨z0,z1,z2,z3,z4,z5,z6,z7,z8⟩:=cK HS.out.res
  have yz:=fun k=>aF HS.out.res k
  have lz:=aG HS.out.res
  have lo:=aG HS.out.at_
  have hgo:=HS.out.o2
  go_wp2_with fail
  clear o0 o1 o2 o3 o4 o5 o6 o7 o8 z0 z1 z2 z3 z4 z5 z6 z7 z8 yz lz lo hgo
  generalize hWE:World.setCell _ _ _=WE
  obtain ⟨e1,e2⟩:=HS.out.fin (WF:=WE) hWE
  refine bodyPost_ret (v := .agg (dS y WA wn wc)) ?_ ?_ ?_
  ·exact bZ Tryz.results99 rfl e1 Tryz.underlying74 (by kernel_rfl)
  ·rfl
  ·exact ⟨y,WA,wn,wc,rfl,e2⟩
 have q3:(x==3)=false:=by simp;exact h3
 by_cases h4:x=4
 ·subst h4
  obtain ⟨x0,x1,x2,x3,x4,x5,x6,x7,x8,x9,x10,x11⟩:=HS.out.bd.cells
  have lb:=aG HS.out.bd
  go_wp2_with fail
  refine (qV g B A n c bs b s _ HS.out.cur hn).mono ?_
  rintro e w4 ⟨t,rfl,kk,gg⟩
  replace HS:=Hd (HS.out.go gg kk)
  clear kk gg x0 x1 x2 x3 x4 x5 x6 x7 x8 x9 x10 x11 lb
  obtain ⟨o0,o1,o2,o3,o4,o5,o6,o7,o8⟩:=cK HS.out.at_
  have yo:=fun k=>aF HS.out.at_ k
  have lo:=aG HS.out.at_
  go_upto_region 13 with fail
  clear o0 o1 o2 o3 o4 o5 o6 o7 o8 yo lo
  replace HS:=Hd (HS.out.num (k:=1) (v := .int .i64 t) (y':=⟨4,t,0,0,rZ,[]⟩) rfl rfl)
  generalize hWv:World.setCell _ _ _=Wv at *
  clear hWv
  obtain ⟨x0,x1,x2,x3,x4,x5,x6,x7,x8,x9,x10,x11⟩:=HS.out.bd.cells
  have lb:=aG HS.out.bd
  have lga:=aG HS.out.at_
  have hsv:=HS.out.grown.size
  go_wp2_with fail
  refine (pW g B A n c bs b.dev _ HS.out.cur hn HD.out).mono ?_
  rintro e w5 ⟨ws,WA,wn,wc,rfl,hwn,ow,kk,gg⟩
  replace HS:=Hd (HS.out.go gg kk)
  clear kk gg x0 x1 x2 x3 x4 x5 x6 x7 x8 x9 x10 x11 lb
  obtain ⟨o0,o1,o2,o3,o4,o5,o6,o7,o8⟩:=cK HS.out.at_
  have yo:=fun k=>aF HS.out.at_ k
  have lo:=aG HS.out.at_
  go_upto_region 16 with fail
  clear o0 o1 o2 o3 o4 o5 o6 o7 o8 yo lo
  replace HS:=Hd (HS.out.put (k:=8) (v := .slice WA wn wc) (y':=⟨4,t,0,0,rZ,ws⟩) (WA':=WA) (wn':=wn) (wc':=wc) rfl (ow.more hsv) (fun a ha=>by have:=(ow.lt a ha).1;omega) hwn)
  generalize hWw:World.setCell _ _ _=Ww at *
  clear hWw ow
  obtain ⟨y,WA,wn,wc,HS⟩:∃y WA wn wc,Hid (ASt w _ g B A n c bs b s ga y WA wn wc):=⟨_,_,_,_,HS⟩
  obtain ⟨o0,o1,o2,o3,o4,o5,o6,o7,o8⟩:=cK HS.out.at_
  obtain ⟨z0,z1,z2,z3,z4,z5,z6,z7,z8⟩:=cK HS.out.res
  have yz:=fun k=>aF HS.out.res k
  have lz:=aG HS.out.res
  have lo:=aG HS.out.at_
  have hgo:=HS.out.o2
  go_wp2_with fail
  clear o0 o1 o2 o3 o4 o5 o6 o7 o8 z0 z1 z2 z3 z4 z5 z6 z7 z8 yz lz lo hgo
  generalize hWE:World.setCell _ _ _=WE
  obtain ⟨e1,e2⟩:=HS.out.fin (WF:=WE) hWE
  refine bodyPost_ret (v := .agg (dS y WA wn wc)) ?_ ?_ ?_
  ·exact bZ Tryz.results99 rfl e1 Tryz.underlying74 (by kernel_rfl)
  ·rfl
  ·exact ⟨y,WA,wn,wc,rfl,e2⟩
 have q4:(x==4)=false:=by simp;exact h4
 by_cases h5:x=5
 ·subst h5
  obtain ⟨x0,x1,x2,x3,x4,x5,x6,x7,x8,x9,x10,x11⟩:=HS.out.bd.cells
  have lb:=aG HS.out.bd
  obtain ⟨o0,o1,o2,o3,o4,o5,o6,o7,o8⟩:=cK HS.out.at_
  have yo:=fun k=>aF HS.out.at_ k
  have lo:=aG HS.out.at_
  have HFR:Hid (eD w3 s.A1 s.n1 b.frames):=HRR.out _ HS.out.grown
  have hD:=Below.refl w3.heap.size w3
  have hne:w.heap.size≠ga:=by have:=HS.out.o2;omega
  obtain ⟨fc,hfc⟩:∃fc,kL b.dev b.frames (aU b.dev b.reg)=fc:=⟨_,rfl⟩
  go_upto_region 15 with fail
  rcases (by omega:0<fc∨¬0<fc) with hf|hf
  ·go_region_held3 (fun w'=>∀o,w'.cell? ⟨w.heap.size,o,none⟩=w3.cell? ⟨w.heap.size,o,none⟩)
    (first|with_reducible exact fun o=>hD.cell (p:=⟨w.heap.size,o,none⟩) lb|with_reducible exact fun o=>hD.drew.cell (p:=⟨w.heap.size,o,none⟩) lb|with_reducible exact fun o=>(BO hne o).trans (hD.cell (p:=⟨w.heap.size,o,none⟩) lb))
    (first
     | (go_at_call 162;(with_reducible refine (iM b.dev b.reg _).mono ?_);rintro e w4 ⟨TA,m,tc,rfl,oT,b4⟩;have OT:=Hd oT.ints;have hml:m<=16777216:=(by have h1:=oT.ints.1;have h2:=iT b.dev b.reg;omega);have hD2:=aA (a:=w3) (by first|with_reducible exact hD|with_reducible exact hD.drew) b4;clear b4 oT;replace hD:=hD2;clear hD2)
     | (go_at_call 163;(with_reducible refine (jm b.dev s.A1 s.n1 s.c1 b.frames TA m tc (aU b.dev b.reg) _ (HFR.out.below (by first|with_reducible exact hD|with_reducible exact hD.drew)) OT.out hz hml).mono ?_);rintro e w5 ⟨rfl,b5⟩;rw [hfc];have hD2:=aA (a:=w3) (by first|with_reducible exact hD|with_reducible exact hD.drew) b5;clear b5;replace hD:=hD2;clear hD2;have fz5:=((aQ hD).2 ga 1 lo).trans (yo 1);have cz5:=((aQ hD).1 ga 1 lo).trans o1))
   replace HS:=Hd (HS.out.below hD)
   clear fz5 cz5 x0 x1 x2 x3 x4 x5 x6 x7 x8 x9 x10 x11 lb o0 o1 o2 o3 o4 o5 o6 o7 o8 yo lo
   replace HS:=Hd (HS.out.num (k:=1) (v := .int .i64 fc) (y':=⟨5,fc,0,0,rZ,[]⟩) rfl rfl)
   generalize hWv:World.setCell _ _ _=Wv at *
   clear hWv
   obtain ⟨y,WA,wn,wc,HS⟩:∃y WA wn wc,Hid (ASt w _ g B A n c bs b s ga y WA wn wc):=⟨_,_,_,_,HS⟩
   obtain ⟨o0,o1,o2,o3,o4,o5,o6,o7,o8⟩:=cK HS.out.at_
   obtain ⟨z0,z1,z2,z3,z4,z5,z6,z7,z8⟩:=cK HS.out.res
   have yz:=fun k=>aF HS.out.res k
   have lz:=aG HS.out.res
   have lo:=aG HS.out.at_
   have hgo:=HS.out.o2
   go_wp2_with fail
   clear o0 o1 o2 o3 o4 o5 o6 o7 o8 z0 z1 z2 z3 z4 z5 z6 z7 z8 yz lz lo hgo
   generalize hWE:World.setCell _ _ _=WE
   obtain ⟨e1,e2⟩:=HS.out.fin (WF:=WE) hWE
   refine bodyPost_ret (v := .agg (dS y WA wn wc)) ?_ ?_ ?_
   ·exact bZ Tryz.results99 rfl e1 Tryz.underlying74 (by kernel_rfl)
   ·rfl
   ·exact ⟨y,WA,wn,wc,rfl,e2⟩
  ·have hf2:(0<fc)=False:=eq_false hf
   have hf3:(fc>0)=False:=eq_false hf
   have hf4:decide (0<fc)=false:=decide_eq_false hf
   clear hf
   go_region_held3 (fun w'=>∀o,w'.cell? ⟨w.heap.size,o,none⟩=w3.cell? ⟨w.heap.size,o,none⟩)
    (first|with_reducible exact fun o=>hD.cell (p:=⟨w.heap.size,o,none⟩) lb|with_reducible exact fun o=>hD.drew.cell (p:=⟨w.heap.size,o,none⟩) lb|with_reducible exact fun o=>(BO hne o).trans (hD.cell (p:=⟨w.heap.size,o,none⟩) lb))
    (first
     | (go_at_call 162;(with_reducible refine (iM b.dev b.reg _).mono ?_);rintro e w4 ⟨TA,m,tc,rfl,oT,b4⟩;have OT:=Hd oT.ints;have hml:m<=16777216:=(by have h1:=oT.ints.1;have h2:=iT b.dev b.reg;omega);have hD2:=aA (a:=w3) (by first|with_reducible exact hD|with_reducible exact hD.drew) b4;clear b4 oT;replace hD:=hD2;clear hD2)
     | (go_at_call 163;(with_reducible refine (jm b.dev s.A1 s.n1 s.c1 b.frames TA m tc (aU b.dev b.reg) _ (HFR.out.below (by first|with_reducible exact hD|with_reducible exact hD.drew)) OT.out hz hml).mono ?_);rintro e w5 ⟨rfl,b5⟩;rw [hfc];have hD2:=aA (a:=w3) (by first|with_reducible exact hD|with_reducible exact hD.drew) b5;clear b5;replace hD:=hD2;clear hD2;have fz5:=((aQ hD).2 ga 1 lo).trans (yo 1);have cz5:=((aQ hD).1 ga 1 lo).trans o1))
   replace HS:=Hd (HS.out.below hD)
   clear fz5 cz5 x0 x1 x2 x3 x4 x5 x6 x7 x8 x9 x10 x11 lb o0 o1 o2 o3 o4 o5 o6 o7 o8 yo lo
   replace HS:=Hd (HS.out.num (k:=1) (v := .int .i64 0) (y':=⟨5,0,0,0,rZ,[]⟩) rfl rfl)
   generalize hWv:World.setCell _ _ _=Wv at *
   clear hWv
   obtain ⟨y,WA,wn,wc,HS⟩:∃y WA wn wc,Hid (ASt w _ g B A n c bs b s ga y WA wn wc):=⟨_,_,_,_,HS⟩
   obtain ⟨o0,o1,o2,o3,o4,o5,o6,o7,o8⟩:=cK HS.out.at_
   obtain ⟨z0,z1,z2,z3,z4,z5,z6,z7,z8⟩:=cK HS.out.res
   have yz:=fun k=>aF HS.out.res k
   have lz:=aG HS.out.res
   have lo:=aG HS.out.at_
   have hgo:=HS.out.o2
   go_wp2_with fail
   clear o0 o1 o2 o3 o4 o5 o6 o7 o8 z0 z1 z2 z3 z4 z5 z6 z7 z8 yz lz lo hgo
   generalize hWE:World.setCell _ _ _=WE
   obtain ⟨e1,e2⟩:=HS.out.fin (WF:=WE) hWE
   refine bodyPost_ret (v := .agg (dS y WA wn wc)) ?_ ?_ ?_
   ·exact bZ Tryz.results99 rfl e1 Tryz.underlying74 (by kernel_rfl)
   ·rfl
   ·exact ⟨y,WA,wn,wc,rfl,e2⟩
 have q5:(x==5)=false:=by simp;exact h5
 go_upto_region 16 with fail
 obtain ⟨y,WA,wn,wc,HS⟩:∃y WA wn wc,Hid (ASt w _ g B A n c bs b s ga y WA wn wc):=⟨_,_,_,_,HS⟩
 obtain ⟨o0,o1,o2,o3,o4,o5,o6,o7,o8⟩:=cK HS.out.at_
 obtain ⟨z0,z1,z2,z3,z4,z5,z6,z7,z8⟩:=cK HS.out.res
 have yz:=fun k=>aF HS.out.res k
 have lz:=aG HS.out.res
 have lo:=aG HS.out.at_
 have hgo:=HS.out.o2
 go_wp2_with fail
 clear o0 o1 o2 o3 o4 o5 o6 o7 o8 z0 z1 z2 z3 z4 z5 z6 z7 z8 yz lz lo hgo
 generalize hWE:World.setCell _ _ _=WE
 obtain ⟨e1,e2⟩:=HS.out.fin (WF:=WE) hWE
 refine bodyPost_ret (v := .agg (dS y WA wn wc)) ?_ ?_ ?_
 ·exact bZ Tryz.results99 rfl e1 Tryz.underlying74 (by kernel_rfl)
 ·rfl
 ·exact ⟨y,WA,wn,wc,rfl,e2⟩
theorem JR {b:Bd} (h:bkF b=true) (x:Ac):bkF (daB b x)=true:=by
 unfold daB
 split
 ·split
  ·exact JW h _
  ·split
   ·exact J9 h
   ·split
    ·exact J8 h _ _ _
    ·split
     ·exact JS h _
     ·split
      ·exact JU h _ _
      ·split
       ·exact KE h _
       ·exact KD h
 ·exact h
theorem Jc (b:Bd) (t k i:Int):(upB b t k i).dev=b.dev:=by unfold upB;split <;> rfl
theorem Jd (b:Bd):(scB b).dev=b.dev:=by unfold scB;split <;> (try split) <;> rfl
theorem Je (b:Bd):(abB b).dev=b.dev:=by unfold abB;split <;> rfl
theorem Jf (b:Bd) (x:Int):(coB b x).dev=b.dev:=by unfold coB;split <;> (try split) <;> rfl
theorem Jg (b:Bd) (x:Ac):(daB b x).dev=b.dev:=by
 unfold daB
 split
 ·split
  ·exact Ho b _
  ·split
   ·exact Jd b
   ·split
    ·exact Jc b _ _ _
    ·split
     ·exact Hq b _
     ·split
      ·exact Hr b _ _
      ·split
       ·exact Jf b _
       ·exact Je b
 ·rfl
theorem Ey {b:Bd} (h:bkF b=true) (xs:List Ac) (k:Nat):bkF (iR b xs k).1=true:=by
 induction k with
 | zero=>exact h
 | succ k ih=>exact JR ih _
theorem G8 (b:Bd) (xs:List Ac) (k:Nat):(iR b xs k).1.dev=b.dev:=by
 induction k with
 | zero=>rfl
 | succ k ih=>exact (Jg _ _).trans ih
theorem tX {b:Bd} (h:bkF b=true) {xs:List Ac} (hx:xs.length<=24):raO b xs=true:=by unfold raO;rw [h,decide_eq_true hx];rfl
theorem tY {b:Bd} (h:bkF b=true) {xs:List Ac} (hx:xs.length<=24):bkF (raB b xs)=true/\(raB b xs).dev=b.dev/\(raN b xs).length=xs.length:=by
 have ho:=tX h hx
 unfold raB raN
 rw [if_pos ho,if_pos ho]
 exact ⟨Ey h xs _,G8 b xs _,IR b xs _⟩
theorem ut (b:Bd) (xs:List Ac) (k:Nat):∀j,j<=k→iR b (xs.take k) j=iR b xs j
 | 0,_=>rfl
 | j+1,h=>by
  have ih:=ut b xs k j (by omega)
  have e:(xs.take k)[j]?=xs[j]?:=by rw [List.getElem?_take,if_pos (by omega)]
  rw [iR,iR,ih,e]
theorem BP (b:Bd) (xs:List Ac) (k:Nat):∀j,iR b xs (k+j)=((iR (iR b xs k).1 (xs.drop k) j).1,(iR b xs k).2++(iR (iR b xs k).1 (xs.drop k) j).2)
 | 0=>by simp [iR]
 | j+1=>by
  have ih:=BP b xs k j
  have e:(xs.drop k)[j]?=xs[k+j]?:=by rw [List.getElem?_drop]
  rw [←Nat.add_assoc,iR,ih,iR,e]
  simp only [List.append_assoc]
theorem G9 {b:Bd} (h:bkF b=true) {xs:List Ac} (hx:xs.length<=24) {k:Nat} (hk:k<=xs.length) :
  raB (raB b (xs.take k)) (xs.drop k)=raB b xs/\raN b xs=raN b (xs.take k)++raN (raB b (xs.take k)) (xs.drop k):=by
 have ht:(xs.take k).length=k:=by rw [List.length_take];omega
 have hd:(xs.drop k).length=xs.length - k:=List.length_drop
 have o1:=tX h hx
 have o2:=tX h (xs:=xs.take k) (by omega)
 have e2:raB b (xs.take k)=(iR b xs k).1:=by unfold raB;rw [if_pos o2,ht,ut b xs k k (Nat.le_refl _)]
 have e3:raN b (xs.take k)=(iR b xs k).2:=by unfold raN;rw [if_pos o2,ht,ut b xs k k (Nat.le_refl _)]
 have hb:=Ey h xs k
 have o3:=tX hb (xs:=xs.drop k) (by omega)
 have ha:=BP b xs k (xs.length - k)
 rw [show k+(xs.length - k)=xs.length by omega] at ha
 rw [e2,e3]
 unfold raB raN
 rw [if_pos o1,if_pos o1,if_pos o3,if_pos o3,hd,ha]
 exact ⟨rfl,rfl⟩
theorem kU.take {w:World} {A:Option Addr} {n k:Nat} {xs:List Ac} (h:kU w A n xs) (hk:k<=n):kU w A k (xs.take k):=by
 obtain ⟨h1,h2⟩:=h
 refine ⟨by rw [List.length_take];omega,fun hn=>?_⟩
 obtain ⟨b,o,e,hb,hc⟩:=h2 (by omega)
 refine ⟨b,o,e,hb,fun j hj=>?_⟩
 have:=hc j (by omega)
 rwa [show (xs.take k)[j]?=xs[j]? by rw [List.getElem?_take,if_pos hj]]
theorem kU.drop {w:World} {b o n k:Nat} {xs:List Ac} (h:kU w (some ⟨b,o,none⟩) n xs) (hk:k<=n):kU w (some ⟨b,o+k * 9,none⟩) (n - k) (xs.drop k):=by
 obtain ⟨h1,h2⟩:=h
 refine ⟨by rw [List.length_drop];omega,fun hn=>?_⟩
 obtain ⟨b',o',e,hb,hc⟩:=h2 (by omega)
 injection e with e
 injection e with e1 e2 _
 subst e1 e2
 refine ⟨b,o+k * 9,rfl,hb,fun j hj=>?_⟩
 have:=hc (k+j) (by omega)
 rw [show (xs.drop k)[j]?=xs[k+j]? by rw [List.getElem?_drop]]
 rwa [show o+(k+j) * 9=o+k * 9+j * 9 by omega] at this
theorem Ha:(Tryz.prog.info? 74).map (fun i=>(i.zero,i.size,i.bytes))=some (some (.agg #[.int .i64 0,.int .i64 0,.int .i64 0,.int .i64 0,.int .i64 0,.int .i64 0,.int .i64 0,.int .i64 0,.slice none 0 0]),9,88):=by kernel_rfl
theorem Ff (xs:List Ac) (x:Ac):(xs++[x]).flatMap Ac.cells=xs.flatMap Ac.cells++x.cells:=by simp
theorem Fg {w:World} {base:Nat} {x:Ac} {WA:Option Addr} {wn wc:Nat} (ow:Own base w WA wn wc x.words):eX base w.heap.size w x.cells (dS x WA wn wc).toList:=by
 obtain ⟨F,h1,h2,h3⟩:=ow.tree (Nat.le_refl _)
 refine ⟨F,?_,h2,h3⟩
 have one:∀(a:Int) {cs:List Cel} {vs:List Value},fT w cs vs F→fT w (.int a :: cs) (.int .i64 a :: vs) F:=fun a cs vs h=>cz.2 ⟨_,_,[],F,rfl,rfl,fo.2 ⟨rfl,rfl⟩,h⟩
 exact one _ (one _ (one _ (one _ (one _ (one _ (one _ (one _ (cz.2 ⟨_,_,F,[],rfl,(List.append_nil _).symm,h1,eP.2 ⟨rfl,rfl⟩⟩))))))))
theorem He {xs:List Ac} {k j:Nat} {x:Ac} (h:xs[k]?=some x) (hj:j<9):(xs.flatMap Ac.cells)[k * 9+j]?=x.cells[j]?:=by
 induction xs generalizing k with
 | nil=>simp at h
 | cons y ys ih =>
  rw [List.flatMap_cons]
  cases k with
  | zero =>
   simp only [List.getElem?_cons_zero,Option.some.injEq] at h
   subst h
   rw [Nat.zero_mul,Nat.zero_add,List.getElem?_append_left (by rw [Ac.cells_length];exact hj)]
  | succ k =>
   rw [List.getElem?_append_right (by rw [Ac.cells_length];omega),Ac.cells_length,show (k+1) * 9+j - 9=k * 9+j by omega]
   exact ih (by simpa using h)
theorem dQ.blk_in {lo hi g n c:Nat} {w:World} {e s:Nat} {cs:List Cel} (h:dQ lo hi w (.row e s cs) (.slice (some ⟨g,0,none⟩) n c)):lo<=g/\g<hi:=by
 obtain ⟨F,h1,_,h3⟩:=h
 rw [dY] at h1
 obtain ⟨A,n',c',vs,F',hv,_,rfl,_⟩:=h1
 injection hv with hA _ _
 subst hA
 exact h3 g (List.mem_append_left _ (by simp [blk]))
theorem dQ.cap_le {lo hi n c:Nat} {w:World} {A:Option Addr} {e s:Nat} {cs:List Cel} (h:dQ lo hi w (.row e s cs) (.slice A n c)):n<=c:=by
 obtain ⟨F,h1,_,_⟩:=h
 rw [dY] at h1
 obtain ⟨A',n',c',vs,F',hv,ho,_,_⟩:=h1
 injection hv with h1 h2 h3
 subst h1 h2 h3
 rcases ho.2 with ⟨hv,h0⟩|⟨g,cap,cur,hv,_,_,h2,_⟩
 ·injection hv with h1 h2 h3
  omega
 ·injection hv with h1 h2 h3
  omega
theorem dQ.grownT {lo hi g:Nat} {w w':World} {c:Cel} {v:Value} (h:dQ lo hi w c v) (k:w.grownBy w' (some g)) (hg:g<lo):dQ lo hi w' c v :=
 h.keep fun i h1 _ hi=>aY k hi (by omega)
theorem bN.keepI {g n:Nat} {w w':World} {A:Option Addr} {xs:List Int} (h:bN w A n xs) (hk:∀i,i<w.heap.size→i≠g→w'.heap[i]?=w.heap[i]?) (hg:∀a,A=some a→a.block≠g):bN w' A n xs:=by
 obtain ⟨h1,h2⟩:=h
 refine ⟨h1,fun hn=>?_⟩
 obtain ⟨b,o,rfl,hb,hcl⟩:=h2 hn
 have hblk:=hk b hb (hg _ rfl)
 have hlt:b<w'.heap.size:=by
  rcases Nat.lt_or_ge b w'.heap.size with h|h
  ·exact h
  ·rw [Array.getElem?_eq_none h,Array.getElem?_eq_getElem hb] at hblk
   cases hblk
 exact ⟨b,o,rfl,hlt,fun j hj=>(World.cell?_of_block (a:=⟨b,o+j,Option.none⟩) hblk).trans (hcl j hj)⟩
theorem Fh {lo hi:Nat} {w:World} {A:Option Addr} {n c:Nat} {xs:List Ac} (h:dQ lo hi w (Iy xs) (.slice A n c)):kU w A n xs:=by
 have hr:=h.rd
 have hl:=rD (f:=Ac.cells) Ac.cells_length xs
 have hn:xs.length=n:=by
  have:=hr.len
  rw [hl] at this
  omega
 refine ⟨hn,fun h0=>?_⟩
 obtain ⟨b,o,e,hb,hc⟩:=hr.cell (by rw [hl];omega)
 refine ⟨b,o,e,hb,fun j hj=>?_⟩
 have hx:=getD_some Ac.zero (show j<xs.length by omega)
 generalize xs[j]?.getD Ac.zero=x at *
 have g:=fun (i:Nat) (hi:i<9)=>hc (j * 9+i) (by rw [hl];omega)
 have fl:=fun (i:Nat) (hi:i<9)=>He hx hi
 obtain ⟨c0,v0,e0,m0,r0⟩:=g 0 (by omega)
 obtain ⟨c1,v1,e1,m1,r1⟩:=g 1 (by omega)
 obtain ⟨c2,v2,e2,m2,r2⟩:=g 2 (by omega)
 obtain ⟨c3,v3,e3,m3,r3⟩:=g 3 (by omega)
 obtain ⟨c4,v4,e4,m4,r4⟩:=g 4 (by omega)
 obtain ⟨c5,v5,e5,m5,r5⟩:=g 5 (by omega)
 obtain ⟨c6,v6,e6,m6,r6⟩:=g 6 (by omega)
 obtain ⟨c7,v7,e7,m7,r7⟩:=g 7 (by omega)
 obtain ⟨c8,v8,e8,m8,r8⟩:=g 8 (by omega)
 rw [fl 0 (by omega)] at e0
 rw [fl 1 (by omega)] at e1
 rw [fl 2 (by omega)] at e2
 rw [fl 3 (by omega)] at e3
 rw [fl 4 (by omega)] at e4
 rw [fl 5 (by omega)] at e5
 rw [fl 6 (by omega)] at e6
 rw [fl 7 (by omega)] at e7
 rw [fl 8 (by omega)] at e8
 simp only [Ac.cells,List.getElem?_cons_zero,List.getElem?_cons_succ,Option.some.injEq] at e0 e1 e2 e3 e4 e5 e6 e7 e8
 subst e0 e1 e2 e3 e4 e5 e6 e7 e8
 rw [qD] at r0 r1 r2 r3 r4 r5 r6 r7
 subst r0 r1 r2 r3 r4 r5 r6 r7
 rw [←Nat.add_assoc] at m1
 rw [←Nat.add_assoc] at m2
 rw [←Nat.add_assoc] at m3
 rw [←Nat.add_assoc] at m4
 rw [←Nat.add_assoc] at m5
 rw [←Nat.add_assoc] at m6
 rw [←Nat.add_assoc] at m7
 rw [←Nat.add_assoc] at m8
 rw [Nat.add_zero] at m0
 obtain ⟨WA,wn,wc,rfl⟩:=rO (e:=3) (s:=1) r8
 exact ⟨WA,wn,wc,m0,m1,m2,m3,m4,m5,m6,m7,m8,r8.ints⟩
theorem BQ (g B:Nat) (A:Option Addr) (n c:Nat) (bs:List Int) (b:Bd) (s:Sl3) (q lo hi:Nat) (w:World) (h:Cur w g B A n c bs) (hn:n<=1099511627776) (hbk:bkF b=true) (hF:aH lo hi w b s) (hlo:g<lo) (hhi:hi<=w.heap.size) (hq:q<=8) :
  Calls Tryz.prog 36 #[.pointer (some ⟨g,0,none⟩),.agg (aD b s),.int .i64 (q:Int)] w fun e w'=>∃(xs:List Ac) (gl c':Nat),e = .returned (.slice (some ⟨gl,0,none⟩) q c')/\(xs.length=q/\q<=c')/\(∀x∈xs,x.words.length<=11)/\dQ (w.heap.size+1) w'.heap.size w' (Iy xs) (.slice (some ⟨gl,0,none⟩) q c')/\Cur w' g B A n c bs/\w.grownBy w' (some g):=by
 have hgw:g<w.heap.size:=h.lt
 have HC:=Hd h
 obtain ⟨i0,hi0,hz0,hz1,hz2⟩:=info_parts Ha
 have HI0:=Hd hi0
 have HZ0:=Hd hz0
 have HZ1:=Hd hz1
 have HZ2:=Hd hz2
 have HBK:=Hd hbk
 have B0:=Hd (aB (aB (Below.refl w.heap.size w) (.cells (aD b s) 31)) (.cells #[] 74))
 have X0:Hid (bD ((w.alloc (.cells (aD b s) 31)).alloc (.cells #[] 74)) w.heap.size b s):=aW _ (aK _ _)
 have N0:=Hd (xI (w:=(w.alloc (.cells (aD b s) 31))) 74 9 (g:=w.heap.size+1) (by simp))
 have F0:Hid (fQ (Two w.heap.size (w.heap.size+1)) lo hi ((w.alloc (.cells (aD b s) 31)).alloc (.cells #[] 74)) b s):=fQ.of (hF.below B0.out) (fun k hk=>by unfold Two at hk;omega)
 clear h hi0 hz0 hz1 hz2 hbk hF
 go_enter Tryz.func36,Tryz.ntmps36
 go_wp2_with fail
 go_loopw [7,8] (fun v i wr=>∃(k:Nat) (xs:List Ac) (gl c':Nat) (b':Bd) (s':Sl3) (l2 h2:Nat),k<=q/\i = .int .i64 k/\v = .slice (some ⟨gl,0,none⟩) k c'/\xs.length=k/\(∀x∈xs,x.words.length<=11)/\dQ (w.heap.size+1) wr.heap.size wr (Iy xs) (.slice (some ⟨gl,0,none⟩) k c')/\bD wr w.heap.size b' s'/\bkF b'=true/\fQ (Two w.heap.size gl) l2 h2 wr b' s'/\g<l2/\Cur wr g B A n c bs/\w.grownBy wr (some g)) (fun _ i _=>q - (intOf i).toNat)
 case atStart=>exact ⟨0,[],_,0,b,s,lo,hi,Nat.zero_le _,rfl,rfl,rfl,by simp,N0.out.widen (Nat.le_refl _) (by simp),X0.out,HBK.out,F0.out,hlo,HC.out.below B0.out,bX B0.out _⟩
 case round =>
  obtain ⟨k,xs,gl,c',b',s',l2,h2,hk,rfl,rfl,hxl,hxw,ho,hx,hbk,hf,hl2,hcu,hgw'⟩:=hrel
  have HO:=Hd ho
  have KC:=Hd hcu
  have HG:=Hd hgw'
  have HX:=Hd hx
  have HXL:=Hd hxl
  have HXW:=Hd hxw
  have HBK:=Hd hbk
  have HF:=Hd hf
  have hsr:=hgw'.size
  have hxlt:=aG hx
  clear hxl hxw ho hcu hgw' hx hbk hf
  obtain ⟨x0,x1,x2,x3,x4,x5,x6,x7,x8,x9,x10,x11⟩:=HX.out.cells
  by_cases hlt:k<q
  ·have hdk:decide ((k:Int)<(q:Int))=true:=by simp;omega
   obtain ⟨z1,z2,z3⟩:=mi HBK.out
   have hst:=HF.out.rd.state.1
   have hgl:w.heap.size+1<=gl/\gl<wr.heap.size:=HO.out.blk_in
   go_wp2_with fail
   clear x0 x1 x2 x3 x4 x5 x6 x7 x8 x9 x10 x11
   refine (D9 g B A n c bs b' s' _ KC.out hn (af (bz HBK.out).1).1 (by omega) (fun w' hw'=>(HF.out.keep fun k hk h1 _ _=>aY hw' hk (by omega)).rd.frames)).mono ?_
   rintro e w5 ⟨x,WA,wn,wc,rfl,hwn,ow,k5,g5⟩
   have hs5:=g5.size
   have hb6:Below w5.heap.size w5 (w5.alloc (.cells (dS x WA wn wc) 74)):=aB (Below.refl _ _) _
   have HT6:Hid (yH (w5.alloc (.cells (dS x WA wn wc) 74)) w5.heap.size x WA wn wc):=aK _ _
   have OW:=Hd (ow.below hb6)
   replace HO:=Hd ((HO.out.grownT g5 (by omega)).below hb6)
   replace HG:=Hd (bG (aO HG.out g5) hb6 (by omega))
   replace HX:Hid (bD (w5.alloc (.cells (dS x WA wn wc) 74)) w.heap.size b' s'):=bD.tr (w:=w5) ((aY g5 (aG HX.out) (by omega)).trans HX.out) hb6
   replace HF:=Hd ((HF.out.keep (w':=w5) fun k hk h1 _ _=>aY g5 hk (by omega)).same hb6)
   replace KC:=Hd (k5.below hb6)
   have hs6:(w5.alloc (.cells (dS x WA wn wc) 74)).heap.size=w5.heap.size+1:=by simp
   clear hb6 ow k5 g5
   go_upto_region 6 with fail
   generalize hW6:(w5.alloc (.cells (dS x WA wn wc) 74))=w6 at *
   generalize hga:w5.heap.size=ga at *
   clear hW6 hga
   obtain ⟨o0,o1,o2,o3,o4,o5,o6,o7,o8⟩:=cK HT6.out
   have lo6:=aG HT6.out
   have HS6:=Hd hs6
   clear hs6
   go_upto_region 7 with (at_builtin;refine zl (W:=w6) rfl _ _ 32 74 rfl i0 _ 9 88 Tryz.underlying32 HI0.out HZ0.out HZ1.out HZ2.out rfl (by omega) (by omega) (w.heap.size+1) wr.heap.size (some ⟨gl,0,none⟩) k c' _ wr.heap.size _ (dS x WA wn wc) rfl HO.out (Fg OW.out) rfl rfl (by omega) (by omega) (by omega) (by omega) (by omega) (Below.refl _ _) ?_;rintro g7 cap w7 ow7 b7 gr7 hg7 hs7)
   have hs6:=HS6.out
   clear o0 o1 o2 o3 o4 o5 o6 o7 o8 lo6
   have hg7':g7=gl∨g7=w6.heap.size+1:=by
    rcases hg7 with h|h
    ·left;simpa using h.symm
    ·exact .inr h
   have hblk:∀i,i<w6.heap.size→i≠gl→w7.heap[i]?=w6.heap[i]?:=fun i hi hne=>(gr7.block i (by simp;omega) (by simp;omega)).trans (Below.heap_alloc _ _ _ hi)
   have HT7:Hid (yH w7 ga x WA wn wc):=(hblk ga (by omega) (by omega)).trans HT6.out
   have HX7:Hid (bD w7 w.heap.size b' s'):=(hblk _ (by omega) (by omega)).trans HX.out
   have HO7:=Hd ow7
   have KC7:=Hd (KC.out.keepB b7 (by omega))
   have HG7:=Hd (bG HG.out b7 (by omega))
   have HF7:Hid (bT w7 b' s'):=(HF.out.keep (w':=w7) fun i hi _ _ hp=>hblk i hi (fun h=>hp (.inr h))).rd
   have HI7:Hid (bN w7 WA wn x.words):=(OW.out.ints.keepI hblk (fun a ha=>by have:=(OW.out.lt a ha).1;omega))
   clear ow7 b7 gr7 hg7
   obtain ⟨x0,x1,x2,x3,x4,x5,x6,x7,x8,x9,x10,x11⟩:=HX7.out.cells
   obtain ⟨o0,o1,o2,o3,o4,o5,o6,o7,o8⟩:=cK HT7.out
   have lx:=aG HX7.out
   go_wp2_with fail
   clear x0 x1 x2 x3 x4 x5 x6 x7 x8 x9 x10 x11 o0 o1 o2 o3 o4 o5 o6 o7 o8
   refine (EB b' s' x WA wn wc _ HF7.out HI7.out (by omega) (by omega) (by omega) (by omega)).mono ?_
   rintro e w8 ⟨R,rfl,f8,b8⟩
   have HBD:=Hd (JR HBK.out x)
   generalize daB b' x=b2 at *
   have hs8:=b8.size
   have HX8:=Hd (HX7.out.tr b8)
   have HF8:=Hd f8
   have HO8:=Hd (HO7.out.below b8)
   have KC8:=Hd (KC7.out.below b8)
   have HG8:=Hd (bG HG7.out b8 (by omega))
   clear b8 f8
   obtain ⟨x0,x1,x2,x3,x4,x5,x6,x7,x8,x9,x10,x11⟩:=HX8.out.cells
   have yx:=HX8.out.soft
   go_wp2_with fail
   clear x0 x1 x2 x3 x4 x5 x6 x7 x8 x9 x10 x11 yx lx
   generalize hWE:World.setCell _ _ _=WE
   obtain ⟨e1,e2,e3,e4⟩:=bS (b':=b2) (s':=R) hWE HX8.out (Below.refl w.heap.size _) (Nat.le_refl _)
   have HO9:=Hd ((HO8.out.chg e4 (.inr (by omega))).widen (Nat.le_refl _) (show _<=WE.heap.size by omega))
   have HF9:Hid (fQ (Two w.heap.size g7) w7.heap.size w8.heap.size WE b2 R):=fQ.of (HF8.out.chg e4 (.inr (by omega))) (fun k hk=>by have h:=HO7.out.blk_in;unfold Two at hk;omega)
   have KC9:=Hd (KC8.out.keepB e3 (by omega))
   have HG9:=Hd (bG HG8.out e3 (by omega))
   have E1:=Hd e1
   clear hWE e1 e3 e4
   go_roundw
   case rel =>
    refine ⟨k+1,xs++[x],g7,cap,b2,R,_,_,by omega,by go_num,rfl,by rw [List.length_append,HXL.out];rfl,?_,?_,E1.out,HBD.out,HF9.out,by omega,KC9.out,HG9.out⟩
    ·intro y hy
     rw [List.mem_append] at hy
     rcases hy with hy|hy
     ·exact HXW.out y hy
     ·obtain rfl:=List.mem_singleton.1 hy
      rw [HI7.out.1];exact hwn
    ·unfold Iy
     rw [Ff]
     exact HO9.out
   case measure=>simp [intOf];omega
  ·have hkm:k=q:=by omega
   subst hkm
   have hdk:decide ((k:Int)<(k:Int))=false:=by simp
   clear x0 x1 x2 x3 x4 x5 x6 x7 x8 x9 x10 x11
   go_wp2_with fail
   go_ret
   exact ⟨xs,_,_,rfl,⟨HXL.out,HO.out.cap_le⟩,HXW.out,HO.out,KC.out,HG.out⟩
theorem tZ (A:Option Addr) (n c:Nat) (bs:List Int) (w:World) (h:kr w w.heap.size A n bs) (hn:n<=1099511627776) :
  Calls Tryz.prog 8 #[.slice A n c] w fun e w'=>∃(b:Bd) (s:Sl3) (xs:List Ac) (q xg xc:Nat),e = .returned (.tuple #[.agg (aD b s),.slice (some ⟨xg,0,none⟩) q xc])/\wB b/\(q<=8/\q<=xc/\∀x∈xs,x.words.length<=11)/\bT w' b s/\kU w' (some ⟨xg,0,none⟩) q xs/\Below w.heap.size w w':=by
 have HB:=Hd h
 have B0:=Hd (aB (Below.refl w.heap.size w) (.cells z12 31))
 have HZ:Hid (bD (w.alloc (.cells z12 31)) w.heap.size zBd zSl):=aK _ _
 clear h
 go_enter Tryz.func8,Tryz.ntmps8
 go_wp2_with fail
 refine (Eg A n c bs _ ((HB.out.below B0.out).more (by simp)) hn).mono ?_
 rintro e w1 ⟨g,rfl,hg,k1,b1⟩
 simp only [World.size_alloc] at hg
 have hs1:=b1.size
 simp only [World.size_alloc] at hs1
 replace HZ:=Hd (aJ b1 HZ.out)
 have B1:=Hd (aA B0.out b1)
 have K1:=Hd k1
 clear k1 b1
 go_wp2_with fail
 refine (zw g _ A n c bs _ K1.out hn).mono ?_
 rintro e w2 ⟨b,s,rfl,hgood,hf,k2,g2⟩
 have hs2:=g2.size
 have hgl:=K1.out.lt
 have hb3:Below w2.heap.size w2 (w2.alloc (.cells (aD b s) 31)):=aB (Below.refl _ _) _
 replace HZ:=Hd (aJ hb3 ((aY g2 (aG HZ.out) (by omega)).trans HZ.out))
 have HX:Hid (bD (w2.alloc (.cells (aD b s) 31)) w2.heap.size b s):=aK _ _
 have B2:=Hd (aA (B1.out.grown g2 (by omega) (by rintro z ⟨⟩;omega):Below w.heap.size w w2) hb3)
 have HF:=Hd ((hf.below hb3).widen (show g+1<=_ by omega) hb3.size)
 have HGD:=Hd hgood
 have HD:Hid (bL b.dev=true):=(af (bz hgood.bk).1).1
 have KC:=Hd (k2.below hb3)
 have hsX:(w2.alloc (.cells (aD b s) 31)).heap.size=w2.heap.size+1:=by simp
 clear k2 g2 hf hgood hb3
 obtain ⟨x0,x1,x2,x3,x4,x5,x6,x7,x8,x9,x10,x11⟩:=HX.out.cells
 go_wp2_with fail
 generalize hW3:(w2.alloc (.cells (aD b s) 31))=w3 at *
 generalize hgb:w2.heap.size=gb at *
 clear hW3 hgb x0 x1 x2 x3 x4 x5 x6 x7 x8 x9 x10 x11
 have hgg:g<gb:=by omega
 obtain ⟨x0,x1,x2,x3,x4,x5,x6,x7,x8,x9,x10,x11⟩:=HX.out.cells
 obtain ⟨z0,z1,z2,z3,z4,z5,z6,z7,z8,z9,z10,z11⟩:=bD.cells (b:=zBd) (s:=zSl) HZ.out
 have yz:=bD.soft (b:=zBd) (s:=zSl) HZ.out
 have lz:=aG HZ.out
 go_region_with (first
  | (go_at_call 37;(first|(with_reducible refine (aj g _ A n c bs 8 _ KC.out hn (by decide) (by decide)).mono ?_)|(with_reducible refine (aj g _ A n c bs 8 _ (KC.out.below (Below.refl _ _).drew) hn (by decide) (by decide)).mono ?_));rintro e w4 ⟨x,rfl,hx0,hx1,k4,g4⟩;have G4:=Hd (show w3.grownBy w4 (some g) from ⟨g4.os,g4.tape,g4.output,g4.size,g4.block⟩);have hs4:w3.heap.size<=w4.heap.size:=G4.out.size;have HZ4:=Hd ((aY G4.out (aG HZ.out) (by omega)).trans HZ.out);have HX4:=Hd ((aY G4.out (aG HX.out) (by omega)).trans HX.out);have HF4:=Hd (HF.out.keep (w':=w4) fun k hk h1 _=>aY G4.out hk (by omega));have KC4:=Hd k4;clear x0 x1 x2 x3 x4 x5 x6 x7 x8 x9 x10 x11 z0 z1 z2 z3 z4 z5 z6 z7 z8 z9 z10 z11 yz lz;obtain ⟨x0,x1,x2,x3,x4,x5,x6,x7,x8,x9,x10,x11⟩:=bD.cells HX4.out;obtain ⟨z0,z1,z2,z3,z4,z5,z6,z7,z8,z9,z10,z11⟩:=bD.cells HZ4.out;have yz:=bD.soft HZ4.out;have lz:=aG HZ4.out;clear g4 k4;obtain ⟨q,hq⟩:∃q:Nat,1+x=(q:Int):=⟨(1+x).toNat,by omega⟩;have a9:IntKind.i64.wrap (1+x)=(q:Int):=(IntWalk.i64_in _ (by omega)).trans hq;have hq8:q<=8:=(by omega);have hq9:IntKind.i64.wrap (q:Int)=(q:Int):=IntWalk.i64_in _ (by omega))
  | (go_at_call 36;(with_reducible refine (BQ g _ A n c bs b s q _ _ _ KC4.out hn HGD.out.bk HF4.out (Nat.lt_succ_self _) hs4 hq8).mono ?_);rintro e w5 ⟨xs,xg,xc,rfl,⟨hxl,hxc⟩,hxw,o5,k5,g5⟩;have G5:=Hd (aO G4.out g5);have hs5:w4.heap.size<=w5.heap.size:=g5.size;have HZ5:=Hd ((aY g5 (aG HZ4.out) (by omega)).trans HZ4.out);have HX5:=Hd ((aY g5 (aG HX4.out) (by omega)).trans HX4.out);have HF5:=Hd (HF4.out.keep (w':=w5) fun k hk h1 _=>aY g5 hk (by omega));have O5:=Hd o5;have HXW:=Hd hxw;clear x0 x1 x2 x3 x4 x5 x6 x7 x8 x9 x10 x11 z0 z1 z2 z3 z4 z5 z6 z7 z8 z9 z10 z11 yz lz;obtain ⟨x0,x1,x2,x3,x4,x5,x6,x7,x8,x9,x10,x11⟩:=bD.cells HX5.out;obtain ⟨z0,z1,z2,z3,z4,z5,z6,z7,z8,z9,z10,z11⟩:=bD.cells HZ5.out;have yz:=bD.soft HZ5.out;have lz:=aG HZ5.out;clear g5 o5 k5 hxw a9 hq hq9))
 all_goals
  go_wp2_with fail
  try simp only [eF,dE]
  clear x0 x1 x2 x3 x4 x5 x6 x7 x8 x9 x10 x11 z0 z1 z2 z3 z4 z5 z6 z7 z8 z9 z10 z11 yz lz
  have HB5:=Hd (B2.out.grown G5.out (by omega) (by rintro z ⟨⟩;omega):Below w.heap.size w w5)
  generalize hWE:World.setCell _ _ _=WE
  obtain ⟨e1,e2,e3,e4⟩:=bS hWE HZ5.out HB5.out (Nat.le_refl _)
  refine bodyPost_ret (v := .tuple #[.agg (aD b s),.slice (some ⟨xg,0,none⟩) q xc]) (aL Tryz.results8 rfl e1 Tryz.underlying31 (by kernel_rfl)) rfl ⟨b,s,xs,q,xg,xc,rfl,HGD.out,⟨hq8,hxc,HXW.out⟩,?_,?_,?_⟩
  ·exact (HF5.out.chg e4 (.inr (by omega))).rd
  ·exact Fh (O5.out.chg e4 (.inr (by omega)))
  ·exact e3
end Go.Proofs.YtignkfhdkcgkgaaGreat
