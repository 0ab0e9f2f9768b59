/- append of one element of several cells to a row that the call owns. ReadFrames: the program's and the reference's read the same configurations. ReadFrames of the program; the initial state of a device. -/
import Derived.Deep.DeepCutAuto
import Derived.Test.YtignkfhdkcgkgaaCopy
import Derived.Test.YtignkfhdkcgkgaaDecoS
import Derived.Test.YtignkfhdkcgkgaaEmu
import Derived.Test.YtignkfhdkcgkgaaTileRd
import Derived.Test.YtignkfhdkcgkgaaTree
namespace Go.Proofs.Ytignkfhdkcgkgaa
set_option maxRecDepth 100000
open Go.RowKit

theorem wpList_pushC {ops:Array Oper} {rest:List Oper} {o:Oper} {a:Act} {Q:Exit→Act→World→Prop} {w W:World} (hgd:o.guard=none) (s x:Operand) (t e:TypeId)
  (ho:o.op = .call { callee := .builtin .append,args:=#[s,x],argTypes:=#[t,t] }) (i:TypeInfo) (z:Value) (size bytes:Nat) (ht:Try.prog.underlying t=some (.slice e)) (hi0:Try.prog.info? e=some i) (hz0:i.zero=some z)
  (hz1:i.size=size) (hz2:i.bytes=bytes) (hzc:z.cells.size=size) (hsz:0<size) (hby:bytes≤64)
  (lo hi:Nat) (A:Option Addr) (n c:Nat) (cs:List Cel) (base:Nat) (nc:List Cel) (nv:Array Value) (hs:a.eval s = .slice A n c) (hown:OwnT lo hi w (.row e size cs) (.slice A n c)) (hnew:OwnsL base w.heap.size w nc nv.toList) (hnl:nv.size=size) (hx:a.eval x = .slice (some ⟨w.heap.size,0,none⟩) 1 1)
  (hn:n≤1099511627776) (hhb:hi≤base) (hlb:lo≤base) (_hhw:hi≤w.heap.size) (hlw:lo≤w.heap.size) (hB:Below lo W w)
  (h:∀g cap w',OwnT lo w'.heap.size w' (.row e size (cs++nc)) (.slice (some ⟨g,0,none⟩) (n+1) cap)→Below lo W w'→Below hi w w'∨True→w.heap.size≤w'.heap.size →
   wpList Try.prog ops Q rest (a.put o.dst (.slice (some ⟨g,0,none⟩) (n+1) cap)) w'):wpList Try.prog ops Q (o :: rest) a (w.alloc (.cells nv e)):=by
 obtain ⟨F,h1,h2,h3⟩:=hown
 rw [ownC_row] at h1
 obtain ⟨A',n',c',vs,F',hv,hro,rfl,hl⟩:=h1
 injection hv with hA hnn hcc
 subst hA hnn hcc
 obtain ⟨F2,k1,k2,k3⟩:=hnew
 refine wpList_append_lies (w.alloc (.cells nv e)) hgd s x t ho 0 e i z size bytes ht hi0 hz0 hz1 hz2 hzc hsz (.slice A n c) n vs hs
  (ownsRow_block hro fun a ha=>Below.heap_alloc _ _ _ (by have:=hro.lt a.block (by subst ha;rfl);exact this.2)) ⟨w.heap.size,0,none⟩ 1 1 nv.toList hx (by simp [hnl])
  (fun j u hu=>?_) k1.one (by omega) (by unfold maxLen;omega) (Nat.le_trans (Nat.mul_le_mul_left _ hby) (by omega)) (Nat.zero_le _) (w.heap.size+1) (by simp) ?_
 ·have e1:(⟨w.heap.size,0,none⟩:Addr).add j=⟨w.heap.size,j,none⟩:=by rw [Addr.add_lit];simp
  rw [e1]
  unfold World.cell?
  rw [heap_new]
  simpa using hu
 ·intro g cap w' g1 g2 g3 g4
  rw [ownBlock_slice] at g2 g3
  have hlF:∀k∈F',k<w.heap.size:=hl.lt
  have hlF2:∀k∈F2,k<w.heap.size:=k1.lt
  rw [List.nodup_append] at h2
  obtain ⟨m1,m2,m3⟩:=h2
  have hkeep:∀k,k<w.heap.size→k∉blk A→w'.heap[k]?=w.heap[k]?:=fun k hk hkA=>by
   refine (g2.block k (by simp;omega) ?_).trans (Below.heap_alloc _ _ _ hk)
   cases hA':A with
   | none=>simp
   | some ad =>
    simp only [Option.map_some,ne_eq,Option.some.injEq]
    rintro rfl
    exact hkA (by rw [hA'];simp [blk])
  have hA2:∀k∈F2,k∉blk A:=fun k hk hkA=>by
   have:=k3 k hk
   have:=h3 k (List.mem_append_left _ hkA)
   omega
  have hF1:∀k∈F',k∉blk A:=fun k hk hkA=>m3 k hkA k hk rfl
  have hL:OwnL w' (cs++nc) (vs++nv.toList) (F'++F2):=(hl.keep fun k hk=>hkeep k (hlF k hk) (hF1 k hk)).append (k1.keep fun k hk=>hkeep k (hlF2 k hk) (hA2 k hk))
  have hgn:g∉F'∧g∉F2:=by
   rcases g3 with hg|hg
   ·have hgA:g∈blk A:=by
     cases hA':A with
     | none=>rw [hA'] at hg;cases hg
     | some ad=>rw [hA'] at hg;simp at hg;simp [blk,hg]
    exact ⟨fun hk=>hF1 g hk hgA,fun hk=>hA2 g hk hgA⟩
   ·subst hg
    exact ⟨fun hk=>by have:=hlF _ hk;omega,fun hk=>by have:=hlF2 _ hk;omega⟩
  have hgr:lo≤g:=by
   rcases g3 with hg|hg
   ·cases hA':A with
    | none=>rw [hA'] at hg;cases hg
    | some ad =>
     rw [hA'] at hg
     simp at hg
     have:=h3 ad.block (List.mem_append_left _ (by rw [hA'];simp [blk]))
     omega
   ·omega
  have hsw:=g2.size
  simp only [World.size_alloc] at hsw
  refine h g cap w' ⟨g :: (F'++F2),?_,?_,fun k hk=>?_⟩ ?_ (.inr trivial) (by omega)
  ·rw [ownC_row]
   exact ⟨_,_,_,_,F'++F2,rfl,g1,rfl,hL⟩
  ·rw [List.nodup_cons,List.nodup_append]
   exact ⟨by simp only [List.mem_append,not_or];exact hgn,m2,k2,fun p hp q hq=>by
    have:=h3 p (List.mem_append_right _ hp)
    have:=k3 q hq
    omega⟩
  ·simp only [List.mem_cons,List.mem_append] at hk
   rcases hk with rfl|hk|hk
   ·omega
   ·have:=h3 k (List.mem_append_right _ hk)
    have:=hlF k hk
    omega
   ·have:=k3 k hk
    omega
  ·refine own_grown_lo (base:=lo) (hB.alloc hlw _) g2 (fun ad had=>?_) (Nat.le_refl _) (by simp;omega)
   exact (h3 ad.block (List.mem_append_left _ (by rw [had];simp [blk]))).1
theorem ownT_nil {lo hi:Nat} {w:World} (e s:Nat):OwnT lo hi w (.row e s []) (.slice none 0 0):=⟨[],by rw [ownC_row];exact ⟨none,0,0,[],[],rfl,⟨by simp,.inl ⟨rfl,rfl⟩⟩,rfl,ownL_nil.2 ⟨rfl,rfl⟩⟩,by simp,by simp⟩
theorem ownT_new {w:World} (e s:Nat) {g:Nat} (hg:w.heap.size=g):OwnT g (g+1) (w.alloc (.cells #[] e)) (.row e s []) (.slice (some ⟨g,0,none⟩) 0 0):=by
 subst hg
 refine ⟨[w.heap.size],?_,by simp,by simp⟩
 rw [ownC_row]
 exact ⟨_,0,0,[],[],rfl,⟨by simp,.inr ⟨w.heap.size,0,#[],rfl,Nat.zero_le _,heap_new _ _,Nat.le_refl _,Nat.zero_le _,by simp,by simp⟩⟩,by simp [blk],ownL_nil.2 ⟨rfl,rfl⟩⟩
end Go.Proofs.Ytignkfhdkcgkgaa

namespace Go.Proofs.Ytignkfhdkcgkgaa
set_option maxRecDepth 100000
open Go.RowKit

theorem tile_info:(Try.prog.info? 49).map (fun i=>(i.zero,i.size,i.bytes))=some (some (.agg #[.slice none 0 0,.slice none 0 0,.int .i64 0,.int .i64 0]),4,64):=by kernel_rfl
theorem data_16 (f:List Int):In16 (dataOf f):=by
 intro j hj
 rw [dataOf_length] at hj
 unfold dataOf
 rw [List.getElem?_map,List.getElem?_eq_getElem hj]
 have:=dataW_lt (f[j]).toNat
 simp only [Option.map_some,Option.getD_some,dataI]
 omega
theorem cells_snoc (ts:List Tile) (t:Tile):(ts++[t]).flatMap Tile.cells=ts.flatMap Tile.cells++t.cells:=by simp
theorem tilesOf_length (d:Dev) (fs:List (List Int)):(tilesOf d fs).length=fs.length:=by simp [tilesOf]
theorem tiles_take {d:Dev} {fs:List (List Int)} {k:Nat} (h:k<fs.length):tilesOf d (fs.take (k+1))=tilesOf d (fs.take k)++[decT d (dataOf (fs[k]?.getD []))]:=by
 unfold tilesOf
 rw [List.take_succ_eq_append_getElem h,List.map_append,List.getElem?_eq_getElem h]
 rfl
def readF (d:Dev) (fs:List (List Int)):List Tile:=if framesOk d fs=true then tilesOf d fs else []
theorem frames_n {d:Dev} {fs:List (List Int)} (h:framesOk d fs=true):fs.length=tiles d∧fs.length≤36:=by
 have h1:=framesOk_iff h
 have:=(tiles_eq h1.1).2.2
 exact ⟨h1.2.1,by omega⟩

set_option maxHeartbeats 2000000 in
theorem readFrames_any (d:Dev) (A:Option Addr) (n c:Nat) (fs:List (List Int)) (w:World) (hA:Rows2 w A n fs) (hf:framesOk d fs=true) :
  Calls Try.prog 47 #[.agg #[.int .i64 d.W,.int .i64 d.H,.int .i64 d.T,.int .i64 d.R],.slice A n c] w fun e w'=>∃A' c',e = .returned (.slice A' n c')∧OwnT w.heap.size w'.heap.size w' (celT (tilesOf d fs)) (.slice A' n c')∧Below w.heap.size w w':=by
 have hB0:Below w.heap.size w (w.alloc (.cells #[.int .i64 d.W,.int .i64 d.H,.int .i64 d.T,.int .i64 d.R] 33)):=below_new (Below.refl _ _) _
 have hdv:=(framesOk_iff hf).1
 have hfb:=fwI_bd hdv
 obtain ⟨F,hF⟩:∃F:Nat,fwI d=(F:Int):=⟨(fwI d).toNat,by omega⟩
 rw [hF] at hfb
 have hn36:=(frames_n hf).2
 rw [hA.1] at hn36
 have HFW:=Lib.hid hF
 have HD:=Lib.hid hdv
 have HF:=Lib.hid hf
 obtain ⟨hX,hAr⟩:=hA
 have HX:=Lib.hid hX
 obtain ⟨i0,hi,hz0,hz1,hz2⟩:=info_parts tile_info
 have HI0:=Lib.hid hi
 have HZ0:=Lib.hid hz0
 have HZ1:=Lib.hid hz1
 have HZ2:=Lib.hid hz2
 clear hX hf hdv hF hi hz0 hz1 hz2
 go_enter Try.func47,Try.ntmps47
 go_wp2_with fail
 have HB0:=Lib.hid hB0
 clear hB0
 go_loopw [5,13] (fun v i wr=>∃(k:Nat) (A':Option Addr) (c':Nat),k≤n∧i = .int .i64 k∧v = .slice A' k c'∧OwnT (w.alloc (.cells #[.int .i64 d.W,.int .i64 d.H,.int .i64 d.T,.int .i64 d.R] 33)).heap.size wr.heap.size wr (celT (tilesOf d (fs.take k))) (.slice A' k c')∧Below (w.alloc (.cells #[.int .i64 d.W,.int .i64 d.H,.int .i64 d.T,.int .i64 d.R] 33)).heap.size (w.alloc (.cells #[.int .i64 d.W,.int .i64 d.H,.int .i64 d.T,.int .i64 d.R] 33)) wr) (fun _ i _=>n - (intOf i).toNat)
 case atStart=>exact ⟨0,none,0,Nat.zero_le _,rfl,rfl,ownT_nil _ _,Below.refl _ _⟩
 case round =>
  obtain ⟨k,A',c',hk,rfl,rfl,ho,hbx⟩:=hrel
  have HO:=Lib.hid ho
  have HBX:=Lib.hid hbx
  have hbe:=below_tr HB0.out hbx
  have HE:=Lib.hid hbe
  have hsx:=hbx.size
  simp only [World.size_alloc] at hsx
  clear ho
  by_cases hlt:k<n
  ·obtain ⟨b,o,rfl,hb,hc⟩:=hAr (by omega)
   obtain ⟨A1,m1,c1,hck,hI1⟩:=hc k hlt
   rw [←hbe.cell (p:=⟨b,o+k,none⟩) hb] at hck
   have hfr:=frames_in HF.out (j:=k) (by rw [HX.out];exact hlt)
   have hm1:m1=F:=by have:=hfr.2;rw [hI1.1,HFW.out] at this;omega
   subst hm1
   have HIN:=Lib.hid hfr.1
   have HXF:=Lib.hid hI1.1
   have J1:=Lib.hid (hI1.below hbe)
   have hsw:=hbe.size
   have HT:=Lib.hid (tiles_take (d:=d) (fs:=fs) (k:=k) (by rw [HX.out];exact hlt))
   clear hc hI1 hfr hbe hbx
   generalize fs[k]?.getD []=f at *
   go_wp2_with fail
   clear hck
   obtain ⟨w0,hw0⟩:∃w0,w0=wr:=⟨_,rfl⟩
   rw [←hw0] at HO HE HBX J1 hsw hsx ⊢
   clear hw0
   go_loopw [8,19] (fun v i wr=>∃(j:Nat) (A2:Option Addr) (c2:Nat),j≤m1∧i = .int .i64 j∧v = .slice A2 j c2∧Own w0.heap.size wr A2 j c2 (dataOf (f.take j))∧Below w0.heap.size w0 wr) (fun _ i _=>m1 - (intOf i).toNat)
   case atStart=>exact ⟨0,none,0,Nat.zero_le _,rfl,rfl,Own.nil,Below.refl _ _⟩
   case round =>
    obtain ⟨j,A2,c2,hj,rfl,rfl,ho2,hbe2⟩:=hrel
    have HO2:=Lib.hid ho2
    have HE2:=Lib.hid hbe2
    have hs2:=hbe2.size
    clear ho2
    by_cases hlj:j<m1
    ·obtain ⟨b3,o3,rfl,hb3,hc3⟩:=J1.out.2 (by omega)
     have hck3:=hc3 j hlj
     rw [←hbe2.cell (p:=⟨b3,o3+j,none⟩) hb3] at hck3
     have hx:=HIN.out j (by rw [HXF.out];exact hlj)
     have HT2:=Lib.hid (dataOf_take (f:=f) (k:=j) (by rw [HXF.out];exact hlj))
     clear hc3 hbe2
     generalize f[j]?.getD 0=x at *
     obtain ⟨x,rfl⟩:=Int.eq_ofNat_of_zero_le hx.1
     have HDI:=Lib.hid (dataI_nat (c:=(x:Int)) rfl)
     go_wp2_with (first
      | ((with_reducible refine (dataBits_any x _ (by omega)).mono ?_);rintro e w' ⟨rfl,rfl⟩)
      | (at_builtin;refine wpList_push rfl _ _ rfl w0.heap.size A2 j c2 (dataOf (f.take j)) _ rfl HO2.out rfl (by omega) hs2 HE2.out ?_;rintro g4 cap w4 o4 b4 gr4 hat4))
     go_roundw
     case rel=>exact ⟨j+1,_,_,by omega,by go_num,rfl,by rw [HT2.out,HDI.out];exact o4,b4⟩
     case measure=>simp [intOf];omega
    ·have hjn:m1=j:=by omega
     subst hjn
     have hO2:=HO2.out
     rw [List.take_of_length_le (by rw [HXF.out];exact Nat.le_refl _)] at hO2
     have HO3:=Lib.hid hO2
     obtain ⟨hcc,hff⟩:=bcell (below_tr HBX.out hbe2)
     clear hO2 hbe2
     go_wp2_with fail
     refine (decodeTile_any d A2 m1 c2 (dataOf f) _ HD.out HO3.out.ints HFW.out.symm (data_16 f)).mono ?_
     rintro e w5 ⟨v,rfl,⟨v0,v1,rfl,hown⟩,b5⟩
     have hs5:=b5.size
     have B5:=Lib.hid b5
     have OW:=Lib.hid hown
     have OO:=Lib.hid ((HO.out.below (below_tr HE2.out b5)))
     have E5:=Lib.hid (below_tr HBX.out (below_tr HE2.out b5))
     clear hcc hff b5 hown
     go_wp2_with (at_builtin;refine wpList_pushC (W:=(w.alloc (.cells #[.int .i64 d.W,.int .i64 d.H,.int .i64 d.T,.int .i64 d.R] 33))) rfl _ _ 42 49 rfl i0 _ 4 64 Try.underlying42 HI0.out HZ0.out HZ1.out HZ2.out rfl (by omega) (by omega) (w.alloc (.cells #[.int .i64 d.W,.int .i64 d.H,.int .i64 d.T,.int .i64 d.R] 33)).heap.size w0.heap.size A' k c' _ wr.heap.size _ #[v0,v1,.int .i64 (decT d (dataOf f)).pad,.int .i64 (decT d (dataOf f)).ram] rfl OO.out OW.out rfl rfl (by omega) (by omega) (by simp only [World.size_alloc];omega) (by omega) (by simp only [World.size_alloc];omega) E5.out ?_;rintro g6 cap w6 o6 b6 _ hs6)
     go_roundw
     case rel =>
      refine ⟨k+1,_,_,by omega,by go_num,rfl,?_,b6⟩
      rw [HT.out]
      unfold celT
      rw [cells_snoc]
      exact o6
     case measure=>simp [intOf];omega
  ·have hkn:n=k:=by omega
   subst hkn
   go_wp2_with fail
   go_ret
   exact ⟨_,_,rfl,by have:=HO.out;rw [List.take_of_length_le (by rw [HX.out];exact Nat.le_refl _)] at this;exact this.widen (by simp) (Nat.le_refl _),HE.out⟩
theorem OwnsL.set_ {lo hi:Nat} {w:World} {cs:List Cel} {vs:List Value} (h:OwnsL lo hi w cs vs) {p:Addr} (hp:p.block<lo∨hi≤p.block) (v:Value):OwnsL lo hi (w.setCell p v) cs vs :=
 h.keep fun _ h1 h2 _=>Below.heap_setCell _ _ _ _ (by omega)
theorem OwnsL.al_ {lo hi:Nat} {w:World} {cs:List Cel} {vs:List Value} (h:OwnsL lo hi w cs vs) (o:Obj):OwnsL lo hi (w.alloc o) cs vs :=
 h.keep fun _ _ _ h3=>Below.heap_alloc _ _ _ h3
theorem ownC_slice {w:World} {e s:Nat} {cs:List Cel} {v:Value} {F:List Nat} (h:OwnC w (.row e s cs) v F):∃A n c,v = .slice A n c:=by
 rw [ownC_row] at h
 obtain ⟨A,n,cap,vs,F',rfl,_⟩:=h
 exact ⟨A,n,cap,rfl⟩
theorem TileAt.slices {lo hi:Nat} {w:World} {t:Tile} {v:Value} (h:TileAt lo hi w t v):∃(A0:Option Addr) (n0 c0:Nat) (A1:Option Addr) (n1 c1:Nat),v = .agg #[.slice A0 n0 c0,.slice A1 n1 c1,.int .i64 t.pad,.int .i64 t.ram]∧OwnsL lo hi w t.cells [.slice A0 n0 c0,.slice A1 n1 c1,.int .i64 t.pad,.int .i64 t.ram]:=by
 obtain ⟨v0,v1,rfl,F,h1,h2,h3⟩:=h
 have h1':=h1
 unfold Tile.cells at h1
 rw [ownL_cons] at h1
 obtain ⟨u,vs,F1,F2,e1,_,k1,k2⟩:=h1
 injection e1 with e1 e2
 subst e1 e2
 rw [ownL_cons] at k2
 obtain ⟨u,vs,F3,F4,e1,_,k3,_⟩:=k2
 injection e1 with e1 e2
 subst e1 e2
 obtain ⟨A0,n0,c0,rfl⟩:=ownC_slice (e:=3) (s:=1) k1
 obtain ⟨A1,n1,c1,rfl⟩:=ownC_slice (e:=53) (s:=4) k3
 exact ⟨A0,n0,c0,A1,n1,c1,rfl,F,h1',h2,h3⟩
theorem OwnsL.set4 {lo hi g:Nat} {w:World} {cs:List Cel} {vs:List Value} {u0 u1 u2 u3:Value} (h:OwnsL lo hi w cs vs) (hp:g<lo∨hi≤g) :
  OwnsL lo hi ((((w.setCell ⟨g,0,none⟩ u0).setCell ⟨g,1,none⟩ u1).setCell ⟨g,2,none⟩ u2).setCell ⟨g,3,none⟩ u3) cs vs :=
 (((h.set_ (p:=⟨g,0,none⟩) hp u0).set_ (p:=⟨g,1,none⟩) hp u1).set_ (p:=⟨g,2,none⟩) hp u2).set_ (p:=⟨g,3,none⟩) hp u3
theorem sets4 {B g:Nat} {W w:World} {u0 u1 u2 u3:Value} (h:Below B W w) (hp:B≤g):Below B W ((((w.setCell ⟨g,0,none⟩ u0).setCell ⟨g,1,none⟩ u1).setCell ⟨g,2,none⟩ u2).setCell ⟨g,3,none⟩ u3) :=
 (((h.setCell (p:=⟨g,0,none⟩) hp u0).setCell (p:=⟨g,1,none⟩) hp u1).setCell (p:=⟨g,2,none⟩) hp u2).setCell (p:=⟨g,3,none⟩) hp u3
theorem keep5 {W W':World} {g b o:Nat} {v0 v1 v2 v3 v4:Value} (hb:Below W.heap.size W W') (hg:g<W.heap.size) (hbb:b<W.heap.size)
  (h:W.cell? ⟨g,0,none⟩=some v0∧W.cell? ⟨g,1,none⟩=some v1∧W.cell? ⟨g,2,none⟩=some v2∧W.cell? ⟨g,3,none⟩=some v3∧W.cell? ⟨b,o,none⟩=some v4) :
  W'.cell? ⟨g,0,none⟩=some v0∧W'.cell? ⟨g,1,none⟩=some v1∧W'.cell? ⟨g,2,none⟩=some v2∧W'.cell? ⟨g,3,none⟩=some v3∧W'.cell? ⟨b,o,none⟩=some v4 :=
 ⟨(hb.cell (p:=⟨g,0,none⟩) hg).trans h.1,(hb.cell (p:=⟨g,1,none⟩) hg).trans h.2.1,(hb.cell (p:=⟨g,2,none⟩) hg).trans h.2.2.1,(hb.cell (p:=⟨g,3,none⟩) hg).trans h.2.2.2.1,(hb.cell (p:=⟨b,o,none⟩) hbb).trans h.2.2.2.2⟩
/-- Behind the statement that decodes: a box that holds the tile. -/
def CutR (t:Tile) (w0:World) (s7:Value) (wx:World):Prop:=∃(gx:Nat) (v0 v1:Value),s7 = .pointer (some ⟨gx,0,none⟩)∧wx.heap[gx]?=some (.cells #[v0,v1,.int .i64 t.pad,.int .i64 t.ram] 49 (0,0))∧OwnsL w0.heap.size wx.heap.size wx t.cells [v0,v1,.int .i64 t.pad,.int .i64 t.ram]∧Below w0.heap.size w0 wx
theorem cutR_mk {t:Tile} {w0 wx:World} {gx lo hi:Nat} {v0 v1:Value} (h1:wx.heap[gx]?=some (.cells #[v0,v1,.int .i64 t.pad,.int .i64 t.ram] 49 (0,0))) (h2:OwnsL lo hi wx t.cells [v0,v1,.int .i64 t.pad,.int .i64 t.ram]) (h3:w0.heap.size≤lo) (h4:hi≤wx.heap.size) (h5:Below w0.heap.size w0 wx):CutR t w0 (.pointer (some ⟨gx,0,none⟩)) wx :=
 ⟨gx,v0,v1,rfl,h1,h2.widen h3 h4,h5⟩

set_option maxHeartbeats 2000000 in
theorem sreadFrames_any (d:Dev) (A:Option Addr) (n c:Nat) (fs:List (List Int)) (w:World) (hA:Rows2 w A n fs) (hz:size2 fs≤1099511627776) :
  Calls Try.prog 18 #[.agg #[.int .i64 d.W,.int .i64 d.H,.int .i64 d.T,.int .i64 d.R],.slice A n c] w fun e w'=>∃A' n' c',e = .returned (.slice A' n' c')∧OwnT w.heap.size w'.heap.size w' (celT (readF d fs)) (.slice A' n' c')∧Below w.heap.size w w':=by
 have hB0:Below w.heap.size w (w.alloc (.cells #[.int .i64 d.W,.int .i64 d.H,.int .i64 d.T,.int .i64 d.R] 33)):=below_new (Below.refl _ _) _
 have HI:=Lib.hid hA
 have hX:=hA.1
 have HX:=Lib.hid hX
 obtain ⟨i0,hi,hz0,hz1,hz2⟩:=info_parts tile_info
 have HI0:=Lib.hid hi
 have HZ0:=Lib.hid hz0
 have HZ1:=Lib.hid hz1
 have HZ2:=Lib.hid hz2
 clear hA hX hi hz0 hz1 hz2
 go_enter Try.func18,Try.ntmps18
 go_wp2_with fail
 refine (sframesOk_any d A n c fs _ (HI.out.below (below_new hB0 _)) hz).mono ?_
 rintro e w1 ⟨rfl,b1⟩
 have hs1:=b1.size
 simp only [World.size_alloc] at hs1
 have N1:=Lib.hid ((ownT_new (w:=(w.alloc (.cells #[.int .i64 d.W,.int .i64 d.H,.int .i64 d.T,.int .i64 d.R] 33))) 49 4 (g:=w.heap.size+1) (by simp)).below b1)
 have HBX1:=Lib.hid (below_tr (below_new (Below.refl (w.alloc (.cells #[.int .i64 d.W,.int .i64 d.H,.int .i64 d.T,.int .i64 d.R] 33)).heap.size (w.alloc (.cells #[.int .i64 d.W,.int .i64 d.H,.int .i64 d.T,.int .i64 d.R] 33))) _) b1)
 have B1:=Lib.hid (below_tr (below_new hB0 _) b1)
 clear b1
 cases hf:framesOk d fs with
 | false =>
  have HF:=Lib.hid hf
  clear hf
  go_wp2_with fail
  go_ret
  exact ⟨_,0,0,rfl,by rw [readF,HF.out];exact N1.out.widen (by omega) (by omega),B1.out⟩
 | true =>
  have hdv:=(framesOk_iff hf).1
  have hfb:=fwI_bd hdv
  obtain ⟨F,hF⟩:∃F:Nat,fwI d=(F:Int):=⟨(fwI d).toNat,by omega⟩
  rw [hF] at hfb
  have hn36:=(frames_n hf).2
  rw [HX.out] at hn36
  have HFW:=Lib.hid hF
  have HD:=Lib.hid hdv
  have HF:=Lib.hid hf
  obtain ⟨_,hAr⟩:=HI.out
  clear hf hdv hF
  go_wp2_with fail
  go_loopw [5,6] (fun v i wr=>∃(k:Nat) (A':Option Addr) (c':Nat),k≤n∧i = .int .i64 k∧v = .slice A' k c'∧OwnT (w.alloc (.cells #[.int .i64 d.W,.int .i64 d.H,.int .i64 d.T,.int .i64 d.R] 33)).heap.size wr.heap.size wr (celT (tilesOf d (fs.take k))) (.slice A' k c')∧Below (w.alloc (.cells #[.int .i64 d.W,.int .i64 d.H,.int .i64 d.T,.int .i64 d.R] 33)).heap.size (w.alloc (.cells #[.int .i64 d.W,.int .i64 d.H,.int .i64 d.T,.int .i64 d.R] 33)) wr) (fun _ i _=>n - (intOf i).toNat)
  case atStart=>exact ⟨0,_,0,Nat.zero_le _,rfl,rfl,N1.out.widen (by simp) (by omega),HBX1.out⟩
  case round =>
   obtain ⟨k,A',c',hk,rfl,rfl,ho,hbx⟩:=hrel
   have HO:=Lib.hid ho
   have HBX:=Lib.hid hbx
   have hbe:=below_tr hB0 hbx
   have HE:=Lib.hid hbe
   have hsx:=hbx.size
   simp only [World.size_alloc] at hsx
   clear ho
   by_cases hlt:k<n
   ·obtain ⟨b,o,rfl,hb,hc⟩:=hAr (by omega)
    obtain ⟨A1,m1,c1,hck,hI1⟩:=hc k hlt
    rw [←hbe.cell (p:=⟨b,o+k,none⟩) hb] at hck
    have hfr:=frames_in HF.out (j:=k) (by rw [HX.out];exact hlt)
    have hm1:m1=F:=by have:=hfr.2;rw [hI1.1,HFW.out] at this;omega
    subst hm1
    have HIN:=Lib.hid hfr.1
    have J1:=Lib.hid (hI1.below hbe)
    have HXF:=Lib.hid hI1.1
    have hsw:=hbe.size
    have HT:=Lib.hid (tiles_take (d:=d) (fs:=fs) (k:=k) (by rw [HX.out];exact hlt))
    have hbw:b<wr.heap.size:=by omega
    obtain ⟨hcc,hff⟩:=bcell hbx
    have q0:wr.cell? ⟨w.heap.size,0,none⟩=some (.int .i64 d.W):=(hcc _ _ (by simp)).trans (cell_heap (heap_new w _) rfl)
    have q1:wr.cell? ⟨w.heap.size,1,none⟩=some (.int .i64 d.H):=(hcc _ _ (by simp)).trans (cell_heap (heap_new w _) rfl)
    have q2:wr.cell? ⟨w.heap.size,2,none⟩=some (.int .i64 d.T):=(hcc _ _ (by simp)).trans (cell_heap (heap_new w _) rfl)
    have q3:wr.cell? ⟨w.heap.size,3,none⟩=some (.int .i64 d.R):=(hcc _ _ (by simp)).trans (cell_heap (heap_new w _) rfl)
    have hww:w.heap.size<wr.heap.size:=by omega
    clear hc hI1 hfr hbe hbx hcc hff
    generalize fs[k]?.getD []=f at *
    go_wp2_with fail
    have hD:=Below.refl wr.heap.size wr
    have HQ:=Lib.hid (And.intro q0 (And.intro q1 (And.intro q2 (And.intro q3 hck))))
    clear q0 q1 q2 q3 hck
    go_cut [7] (fun s7 wx=>CutR (decT d (dataOf f)) wr s7 wx)
    case first =>
     go_region_held3 (fun w'=>w'.cell? ⟨w.heap.size,0,none⟩=some (.int .i64 d.W)∧w'.cell? ⟨w.heap.size,1,none⟩=some (.int .i64 d.H)∧w'.cell? ⟨w.heap.size,2,none⟩=some (.int .i64 d.T)∧w'.cell? ⟨w.heap.size,3,none⟩=some (.int .i64 d.R)∧w'.cell? ⟨b,o+k,none⟩=some (.slice A1 m1 c1))
      (first
       | with_reducible exact keep5 hD hww hbw HQ.out
       | with_reducible exact keep5 hD.drew hww hbw HQ.out
       | with_reducible exact keep5 (below_new hD _) hww hbw HQ.out
       | with_reducible exact keep5 (below_new hD _).drew hww hbw HQ.out
       | (with_reducible refine keep5 (sets4 hD ?_) hww hbw HQ.out;omega))
      (first
       | (go_at_call 41;(first|(with_reducible refine (l40Data_any A1 m1 c1 f _ (J1.out.below hD.drew) HIN.out (by omega)).mono ?_)|(with_reducible refine (l40Data_any A1 m1 c1 f _ (J1.out.below (below_new hD _).drew) HIN.out (by omega)).mono ?_));rintro e w2 ⟨A2,c2,rfl,o2,b2⟩;have hs2:=b2.size;(first|(with_reducible have hD2:=below_tr hD.drew b2)|(with_reducible have hD2:=below_tr (below_new hD _).drew b2;have hx2:=Lib.hid (heap_tr b2 (heap_dr (heap_new _ _)))));have O2:=Lib.hid o2;(try simp only [World.size_alloc,size_drew4] at hs2);replace hD:=hD2;clear b2 o2)
       | (go_at_call 40;(first|(with_reducible refine (sdecodeTile_any d A2 m1 c2 (dataOf f) _ HD.out O2.out.ints HFW.out.symm (data_16 f)).mono ?_)|(with_reducible refine (sdecodeTile_any d A2 m1 c2 (dataOf f) _ HD.out (O2.out.ints.below (below_new (Below.refl _ _) _)) HFW.out.symm (data_16 f)).mono ?_));rintro e w5 ⟨v,rfl,ht,b5⟩;obtain ⟨A3,n3,c3,A4,n4,c4,rfl,hown⟩:=ht.slices;clear ht;have hs5:=b5.size;(first|(with_reducible have hD2:=below_tr hD b5;(try have hx5:=heap_tr b5 hx2.out))|(with_reducible have hD2:=below_tr (below_new hD _) b5;have hx5:=heap_tr b5 (heap_new _ _)));have OW:=Lib.hid hown;(try simp only [World.size_alloc] at hs5);replace hD:=hD2;(try (have a0:=cell_heap (k:=0) hx5 rfl;have a1:=cell_heap (k:=1) hx5 rfl;have a2:=cell_heap (k:=2) hx5 rfl;have a3:=cell_heap (k:=3) hx5 rfl;have y0:=frozen_heap hx5 0;have y1:=frozen_heap hx5 1;have y2:=frozen_heap hx5 2;have y3:=frozen_heap hx5 3;have HX5:=Lib.hid hx5;clear hx5));clear b5 hown))
     all_goals
      go_wp2_with fail
      go_meet
      first
       | (with_reducible refine cutR_mk (box_sets HX5.out) (OW.out.set4 (.inl ?_)) ?_ ?_ (sets4 hD ?_))
       | (with_reducible refine cutR_mk (heap_new _ _) (OW.out.al_ _) ?_ ?_ (below_new hD _))
      all_goals
       (try simp only [size_set4,World.size_alloc])
       omega
    case rest =>
     obtain ⟨gx,v0,v1,rfl,hx,hown,hb2⟩:=hcut
     have x0:=cell_heap (k:=0) hx rfl
     have x1:=cell_heap (k:=1) hx rfl
     have x2:=cell_heap (k:=2) hx rfl
     have x3:=cell_heap (k:=3) hx rfl
     have OO:=Lib.hid (HO.out.below hb2)
     have OW:=Lib.hid hown
     have E5:=Lib.hid (below_tr HBX.out hb2)
     have hs5:=hb2.size
     clear hx hown hb2 hD
     go_wp2_with (at_builtin;refine wpList_pushC (W:=(w.alloc (.cells #[.int .i64 d.W,.int .i64 d.H,.int .i64 d.T,.int .i64 d.R] 33))) rfl _ _ 42 49 rfl i0 _ 4 64 Try.underlying42 HI0.out HZ0.out HZ1.out HZ2.out rfl (by omega) (by omega) (w.alloc (.cells #[.int .i64 d.W,.int .i64 d.H,.int .i64 d.T,.int .i64 d.R] 33)).heap.size wr.heap.size A' k c' _ wr.heap.size _ #[v0,v1,.int .i64 (decT d (dataOf f)).pad,.int .i64 (decT d (dataOf f)).ram] rfl OO.out OW.out rfl rfl (by omega) (by omega) (by simp only [World.size_alloc];omega) (by omega) (by simp only [World.size_alloc];omega) E5.out ?_;rintro g6 cap w6 o6 b6 _ hs6)
     go_roundw
     case rel =>
      refine ⟨k+1,_,_,by omega,by go_num,rfl,?_,b6⟩
      rw [HT.out]
      unfold celT
      rw [cells_snoc]
      exact o6
     case measure=>simp [intOf];omega
   ·have hkn:n=k:=by omega
    subst hkn
    go_wp2_with fail
    go_ret
    exact ⟨_,_,_,rfl,by have:=HO.out;rw [List.take_of_length_le (by rw [HX.out];exact Nat.le_refl _)] at this;rw [readF,HF.out,if_pos rfl];exact this.widen (by simp) (Nat.le_refl _),HE.out⟩
end Go.Proofs.Ytignkfhdkcgkgaa

namespace Go.Proofs.Ytignkfhdkcgkgaa
set_option maxRecDepth 100000
open Go.RowKit


theorem keep4 {W W':World} {g:Nat} {v0 v1 v2 v3:Value} (hb:Below W.heap.size W W') (hg:g<W.heap.size)
  (h:W.cell? ⟨g,0,none⟩=some v0∧W.cell? ⟨g,1,none⟩=some v1∧W.cell? ⟨g,2,none⟩=some v2∧W.cell? ⟨g,3,none⟩=some v3) :
  W'.cell? ⟨g,0,none⟩=some v0∧W'.cell? ⟨g,1,none⟩=some v1∧W'.cell? ⟨g,2,none⟩=some v2∧W'.cell? ⟨g,3,none⟩=some v3 :=
 ⟨(hb.cell (p:=⟨g,0,none⟩) hg).trans h.1,(hb.cell (p:=⟨g,1,none⟩) hg).trans h.2.1,(hb.cell (p:=⟨g,2,none⟩) hg).trans h.2.2.1,(hb.cell (p:=⟨g,3,none⟩) hg).trans h.2.2.2⟩
theorem box4 (w:World) (d:Dev):(w.alloc (.cells #[.int .i64 d.W,.int .i64 d.H,.int .i64 d.T,.int .i64 d.R] 33)).cell? ⟨w.heap.size,0,none⟩=some (.int .i64 d.W)∧(w.alloc (.cells #[.int .i64 d.W,.int .i64 d.H,.int .i64 d.T,.int .i64 d.R] 33)).cell? ⟨w.heap.size,1,none⟩=some (.int .i64 d.H)∧(w.alloc (.cells #[.int .i64 d.W,.int .i64 d.H,.int .i64 d.T,.int .i64 d.R] 33)).cell? ⟨w.heap.size,2,none⟩=some (.int .i64 d.T)∧(w.alloc (.cells #[.int .i64 d.W,.int .i64 d.H,.int .i64 d.T,.int .i64 d.R] 33)).cell? ⟨w.heap.size,3,none⟩=some (.int .i64 d.R) :=
 ⟨cell_heap (heap_new w _) rfl,cell_heap (heap_new w _) rfl,cell_heap (heap_new w _) rfl,cell_heap (heap_new w _) rfl⟩
end Go.Proofs.Ytignkfhdkcgkgaa
