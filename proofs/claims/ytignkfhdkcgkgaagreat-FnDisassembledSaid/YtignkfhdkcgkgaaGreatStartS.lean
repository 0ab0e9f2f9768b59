/- ReadFrames: the program's and the reference's read the same configurations. ReadFrames of the program; the initial state of a device. append of several integers to a row of the call's own. The initial state of a device, by the reference. -/
import Derived.Deep.DeepCutAuto
import Derived.Test.YtignkfhdkcgkgaaGreatCopy
import Derived.Test.YtignkfhdkcgkgaaGreatDecoS
import Derived.Test.YtignkfhdkcgkgaaGreatEmu
import Derived.Test.YtignkfhdkcgkgaaGreatPush
import Derived.Test.YtignkfhdkcgkgaaGreatTileRd
namespace Go.Proofs.YtignkfhdkcgkgaaGreat
set_option maxRecDepth 100000
open Go.RowKit

theorem tile_info:(Tryz.prog.info? 103).map (fun i=>(i.zero,i.size,i.bytes))=some (some (.agg #[.slice none 0 0,.slice none 0 0,.int .i64 0,.int .i64 0]),4,64):=by kernel_rfl
theorem data_16 (f:List Int):In16 (dataOf f):=by
 intro j hj
 rw [dataOf_length] at hj
 unfold dataOf
 rw [List.getElem?_map,List.getElem?_eq_getElem hj]
 have:=dataW_lt (f[j]).toNat
 simp only [Option.map_some,Option.getD_some,dataI]
 omega
theorem cells_snoc (ts:List Tile) (t:Tile):(ts++[t]).flatMap Tile.cells=ts.flatMap Tile.cells++t.cells:=by simp
theorem tilesOf_length (d:Dev) (fs:List (List Int)):(tilesOf d fs).length=fs.length:=by simp [tilesOf]
theorem tiles_take {d:Dev} {fs:List (List Int)} {k:Nat} (h:k<fs.length):tilesOf d (fs.take (k+1))=tilesOf d (fs.take k)++[decT d (dataOf (fs[k]?.getD []))]:=by
 unfold tilesOf
 rw [List.take_succ_eq_append_getElem h,List.map_append,List.getElem?_eq_getElem h]
 rfl
def readF (d:Dev) (fs:List (List Int)):List Tile:=if framesOk d fs=true then tilesOf d fs else []
theorem frames_n {d:Dev} {fs:List (List Int)} (h:framesOk d fs=true):fs.length=tiles d∧fs.length≤36:=by
 have h1:=framesOk_iff h
 have:=(tiles_eq h1.1).2.2
 exact ⟨h1.2.1,by omega⟩

set_option maxHeartbeats 2000000 in
theorem readFrames_any (d:Dev) (A:Option Addr) (n c:Nat) (fs:List (List Int)) (w:World) (hA:Rows2 w A n fs) (hf:framesOk d fs=true) :
  Calls Tryz.prog 139 #[.agg #[.int .i64 d.W,.int .i64 d.H,.int .i64 d.T,.int .i64 d.R],.slice A n c] w fun e w'=>∃A' c',e = .returned (.slice A' n c')∧OwnT w.heap.size w'.heap.size w' (celT (tilesOf d fs)) (.slice A' n c')∧Below w.heap.size w w':=by
 have hB0:Below w.heap.size w (w.alloc (.cells #[.int .i64 d.W,.int .i64 d.H,.int .i64 d.T,.int .i64 d.R] 25)):=below_new (Below.refl _ _) _
 have hdv:=(framesOk_iff hf).1
 have hfb:=fwI_bd hdv
 obtain ⟨F,hF⟩:∃F:Nat,fwI d=(F:Int):=⟨(fwI d).toNat,by omega⟩
 rw [hF] at hfb
 have hn36:=(frames_n hf).2
 rw [hA.1] at hn36
 have HFW:=Lib.hid hF
 have HD:=Lib.hid hdv
 have HF:=Lib.hid hf
 obtain ⟨hX,hAr⟩:=hA
 have HX:=Lib.hid hX
 obtain ⟨i0,hi,hz0,hz1,hz2⟩:=info_parts tile_info
 have HI0:=Lib.hid hi
 have HZ0:=Lib.hid hz0
 have HZ1:=Lib.hid hz1
 have HZ2:=Lib.hid hz2
 clear hX hf hdv hF hi hz0 hz1 hz2
 go_enter Tryz.func139,Tryz.ntmps139
 go_wp2_with fail
 have HB0:=Lib.hid hB0
 clear hB0
 go_loopw [5,13] (fun v i wr=>∃(k:Nat) (A':Option Addr) (c':Nat),k≤n∧i = .int .i64 k∧v = .slice A' k c'∧OwnT (w.alloc (.cells #[.int .i64 d.W,.int .i64 d.H,.int .i64 d.T,.int .i64 d.R] 25)).heap.size wr.heap.size wr (celT (tilesOf d (fs.take k))) (.slice A' k c')∧Below (w.alloc (.cells #[.int .i64 d.W,.int .i64 d.H,.int .i64 d.T,.int .i64 d.R] 25)).heap.size (w.alloc (.cells #[.int .i64 d.W,.int .i64 d.H,.int .i64 d.T,.int .i64 d.R] 25)) wr) (fun _ i _=>n - (intOf i).toNat)
 case atStart=>exact ⟨0,none,0,Nat.zero_le _,rfl,rfl,ownT_nil _ _,Below.refl _ _⟩
 case round =>
  obtain ⟨k,A',c',hk,rfl,rfl,ho,hbx⟩:=hrel
  have HO:=Lib.hid ho
  have HBX:=Lib.hid hbx
  have hbe:=below_tr HB0.out hbx
  have HE:=Lib.hid hbe
  have hsx:=hbx.size
  simp only [World.size_alloc] at hsx
  clear ho
  by_cases hlt:k<n
  ·obtain ⟨b,o,rfl,hb,hc⟩:=hAr (by omega)
   obtain ⟨A1,m1,c1,hck,hI1⟩:=hc k hlt
   rw [←hbe.cell (p:=⟨b,o+k,none⟩) hb] at hck
   have hfr:=frames_in HF.out (j:=k) (by rw [HX.out];exact hlt)
   have hm1:m1=F:=by have:=hfr.2;rw [hI1.1,HFW.out] at this;omega
   subst hm1
   have HIN:=Lib.hid hfr.1
   have HXF:=Lib.hid hI1.1
   have J1:=Lib.hid (hI1.below hbe)
   have hsw:=hbe.size
   have HT:=Lib.hid (tiles_take (d:=d) (fs:=fs) (k:=k) (by rw [HX.out];exact hlt))
   clear hc hI1 hfr hbe hbx
   generalize fs[k]?.getD []=f at *
   go_wp2_with fail
   clear hck
   obtain ⟨w0,hw0⟩:∃w0,w0=wr:=⟨_,rfl⟩
   rw [←hw0] at HO HE HBX J1 hsw hsx ⊢
   clear hw0
   go_loopw [8,19] (fun v i wr=>∃(j:Nat) (A2:Option Addr) (c2:Nat),j≤m1∧i = .int .i64 j∧v = .slice A2 j c2∧Own w0.heap.size wr A2 j c2 (dataOf (f.take j))∧Below w0.heap.size w0 wr) (fun _ i _=>m1 - (intOf i).toNat)
   case atStart=>exact ⟨0,none,0,Nat.zero_le _,rfl,rfl,Own.nil,Below.refl _ _⟩
   case round =>
    obtain ⟨j,A2,c2,hj,rfl,rfl,ho2,hbe2⟩:=hrel
    have HO2:=Lib.hid ho2
    have HE2:=Lib.hid hbe2
    have hs2:=hbe2.size
    clear ho2
    by_cases hlj:j<m1
    ·obtain ⟨b3,o3,rfl,hb3,hc3⟩:=J1.out.2 (by omega)
     have hck3:=hc3 j hlj
     rw [←hbe2.cell (p:=⟨b3,o3+j,none⟩) hb3] at hck3
     have hx:=HIN.out j (by rw [HXF.out];exact hlj)
     have HT2:=Lib.hid (dataOf_take (f:=f) (k:=j) (by rw [HXF.out];exact hlj))
     clear hc3 hbe2
     generalize f[j]?.getD 0=x at *
     obtain ⟨x,rfl⟩:=Int.eq_ofNat_of_zero_le hx.1
     have HDI:=Lib.hid (dataI_nat (c:=(x:Int)) rfl)
     go_wp2_with (first
      | ((with_reducible refine (dataBits_any x _ (by omega)).mono ?_);rintro e w' ⟨rfl,rfl⟩)
      | (at_builtin;refine wpList_push rfl _ _ rfl w0.heap.size A2 j c2 (dataOf (f.take j)) _ rfl HO2.out rfl (by omega) hs2 HE2.out ?_;rintro g4 cap w4 o4 b4 gr4 hat4))
     go_roundw
     case rel=>exact ⟨j+1,_,_,by omega,by go_num,rfl,by rw [HT2.out,HDI.out];exact o4,b4⟩
     case measure=>simp [intOf];omega
    ·have hjn:m1=j:=by omega
     subst hjn
     have hO2:=HO2.out
     rw [List.take_of_length_le (by rw [HXF.out];exact Nat.le_refl _)] at hO2
     have HO3:=Lib.hid hO2
     obtain ⟨hcc,hff⟩:=bcell (below_tr HBX.out hbe2)
     clear hO2 hbe2
     go_wp2_with fail
     refine (decodeTile_any d A2 m1 c2 (dataOf f) _ HD.out HO3.out.ints HFW.out.symm (data_16 f)).mono ?_
     rintro e w5 ⟨v,rfl,⟨v0,v1,rfl,hown⟩,b5⟩
     have hs5:=b5.size
     have B5:=Lib.hid b5
     have OW:=Lib.hid hown
     have OO:=Lib.hid ((HO.out.below (below_tr HE2.out b5)))
     have E5:=Lib.hid (below_tr HBX.out (below_tr HE2.out b5))
     clear hcc hff b5 hown
     go_wp2_with (at_builtin;refine wpList_pushC (W:=(w.alloc (.cells #[.int .i64 d.W,.int .i64 d.H,.int .i64 d.T,.int .i64 d.R] 25))) rfl _ _ 96 103 rfl i0 _ 4 64 Tryz.underlying96 HI0.out HZ0.out HZ1.out HZ2.out rfl (by omega) (by omega) (w.alloc (.cells #[.int .i64 d.W,.int .i64 d.H,.int .i64 d.T,.int .i64 d.R] 25)).heap.size w0.heap.size A' k c' _ wr.heap.size _ #[v0,v1,.int .i64 (decT d (dataOf f)).pad,.int .i64 (decT d (dataOf f)).ram] rfl OO.out OW.out rfl rfl (by omega) (by omega) (by simp only [World.size_alloc];omega) (by omega) (by simp only [World.size_alloc];omega) E5.out ?_;rintro g6 cap w6 o6 b6 _ hs6)
     go_roundw
     case rel =>
      refine ⟨k+1,_,_,by omega,by go_num,rfl,?_,b6⟩
      rw [HT.out]
      unfold celT
      rw [cells_snoc]
      exact o6
     case measure=>simp [intOf];omega
  ·have hkn:n=k:=by omega
   subst hkn
   go_wp2_with fail
   go_ret
   exact ⟨_,_,rfl,by have:=HO.out;rw [List.take_of_length_le (by rw [HX.out];exact Nat.le_refl _)] at this;exact this.widen (by simp) (Nat.le_refl _),HE.out⟩
theorem OwnsL.set_ {lo hi:Nat} {w:World} {cs:List Cel} {vs:List Value} (h:OwnsL lo hi w cs vs) {p:Addr} (hp:p.block<lo∨hi≤p.block) (v:Value):OwnsL lo hi (w.setCell p v) cs vs :=
 h.keep fun _ h1 h2 _=>Below.heap_setCell _ _ _ _ (by omega)
theorem OwnsL.al_ {lo hi:Nat} {w:World} {cs:List Cel} {vs:List Value} (h:OwnsL lo hi w cs vs) (o:Obj):OwnsL lo hi (w.alloc o) cs vs :=
 h.keep fun _ _ _ h3=>Below.heap_alloc _ _ _ h3
theorem ownC_slice {w:World} {e s:Nat} {cs:List Cel} {v:Value} {F:List Nat} (h:OwnC w (.row e s cs) v F):∃A n c,v = .slice A n c:=by
 rw [ownC_row] at h
 obtain ⟨A,n,cap,vs,F',rfl,_⟩:=h
 exact ⟨A,n,cap,rfl⟩
theorem TileAt.slices {lo hi:Nat} {w:World} {t:Tile} {v:Value} (h:TileAt lo hi w t v):∃(A0:Option Addr) (n0 c0:Nat) (A1:Option Addr) (n1 c1:Nat),v = .agg #[.slice A0 n0 c0,.slice A1 n1 c1,.int .i64 t.pad,.int .i64 t.ram]∧OwnsL lo hi w t.cells [.slice A0 n0 c0,.slice A1 n1 c1,.int .i64 t.pad,.int .i64 t.ram]:=by
 obtain ⟨v0,v1,rfl,F,h1,h2,h3⟩:=h
 have h1':=h1
 unfold Tile.cells at h1
 rw [ownL_cons] at h1
 obtain ⟨u,vs,F1,F2,e1,_,k1,k2⟩:=h1
 injection e1 with e1 e2
 subst e1 e2
 rw [ownL_cons] at k2
 obtain ⟨u,vs,F3,F4,e1,_,k3,_⟩:=k2
 injection e1 with e1 e2
 subst e1 e2
 obtain ⟨A0,n0,c0,rfl⟩:=ownC_slice (e:=3) (s:=1) k1
 obtain ⟨A1,n1,c1,rfl⟩:=ownC_slice (e:=107) (s:=4) k3
 exact ⟨A0,n0,c0,A1,n1,c1,rfl,F,h1',h2,h3⟩
theorem OwnsL.set4 {lo hi g:Nat} {w:World} {cs:List Cel} {vs:List Value} {u0 u1 u2 u3:Value} (h:OwnsL lo hi w cs vs) (hp:g<lo∨hi≤g) :
  OwnsL lo hi ((((w.setCell ⟨g,0,none⟩ u0).setCell ⟨g,1,none⟩ u1).setCell ⟨g,2,none⟩ u2).setCell ⟨g,3,none⟩ u3) cs vs :=
 (((h.set_ (p:=⟨g,0,none⟩) hp u0).set_ (p:=⟨g,1,none⟩) hp u1).set_ (p:=⟨g,2,none⟩) hp u2).set_ (p:=⟨g,3,none⟩) hp u3
theorem sets4 {B g:Nat} {W w:World} {u0 u1 u2 u3:Value} (h:Below B W w) (hp:B≤g):Below B W ((((w.setCell ⟨g,0,none⟩ u0).setCell ⟨g,1,none⟩ u1).setCell ⟨g,2,none⟩ u2).setCell ⟨g,3,none⟩ u3) :=
 (((h.setCell (p:=⟨g,0,none⟩) hp u0).setCell (p:=⟨g,1,none⟩) hp u1).setCell (p:=⟨g,2,none⟩) hp u2).setCell (p:=⟨g,3,none⟩) hp u3
theorem keep5 {W W':World} {g b o:Nat} {v0 v1 v2 v3 v4:Value} (hb:Below W.heap.size W W') (hg:g<W.heap.size) (hbb:b<W.heap.size)
  (h:W.cell? ⟨g,0,none⟩=some v0∧W.cell? ⟨g,1,none⟩=some v1∧W.cell? ⟨g,2,none⟩=some v2∧W.cell? ⟨g,3,none⟩=some v3∧W.cell? ⟨b,o,none⟩=some v4) :
  W'.cell? ⟨g,0,none⟩=some v0∧W'.cell? ⟨g,1,none⟩=some v1∧W'.cell? ⟨g,2,none⟩=some v2∧W'.cell? ⟨g,3,none⟩=some v3∧W'.cell? ⟨b,o,none⟩=some v4 :=
 ⟨(hb.cell (p:=⟨g,0,none⟩) hg).trans h.1,(hb.cell (p:=⟨g,1,none⟩) hg).trans h.2.1,(hb.cell (p:=⟨g,2,none⟩) hg).trans h.2.2.1,(hb.cell (p:=⟨g,3,none⟩) hg).trans h.2.2.2.1,(hb.cell (p:=⟨b,o,none⟩) hbb).trans h.2.2.2.2⟩
/-- Behind the statement that decodes: a box that holds the tile. -/
def CutR (t:Tile) (w0:World) (s7:Value) (wx:World):Prop:=∃(gx:Nat) (v0 v1:Value),s7 = .pointer (some ⟨gx,0,none⟩)∧wx.heap[gx]?=some (.cells #[v0,v1,.int .i64 t.pad,.int .i64 t.ram] 103 (0,0))∧OwnsL w0.heap.size wx.heap.size wx t.cells [v0,v1,.int .i64 t.pad,.int .i64 t.ram]∧Below w0.heap.size w0 wx
theorem cutR_mk {t:Tile} {w0 wx:World} {gx lo hi:Nat} {v0 v1:Value} (h1:wx.heap[gx]?=some (.cells #[v0,v1,.int .i64 t.pad,.int .i64 t.ram] 103 (0,0))) (h2:OwnsL lo hi wx t.cells [v0,v1,.int .i64 t.pad,.int .i64 t.ram]) (h3:w0.heap.size≤lo) (h4:hi≤wx.heap.size) (h5:Below w0.heap.size w0 wx):CutR t w0 (.pointer (some ⟨gx,0,none⟩)) wx :=
 ⟨gx,v0,v1,rfl,h1,h2.widen h3 h4,h5⟩

set_option maxHeartbeats 2000000 in
theorem sreadFrames_any (d:Dev) (A:Option Addr) (n c:Nat) (fs:List (List Int)) (w:World) (hA:Rows2 w A n fs) (hz:size2 fs≤1099511627776) :
  Calls Tryz.prog 64 #[.agg #[.int .i64 d.W,.int .i64 d.H,.int .i64 d.T,.int .i64 d.R],.slice A n c] w fun e w'=>∃A' n' c',e = .returned (.slice A' n' c')∧OwnT w.heap.size w'.heap.size w' (celT (readF d fs)) (.slice A' n' c')∧Below w.heap.size w w':=by
 have hB0:Below w.heap.size w (w.alloc (.cells #[.int .i64 d.W,.int .i64 d.H,.int .i64 d.T,.int .i64 d.R] 25)):=below_new (Below.refl _ _) _
 have HI:=Lib.hid hA
 have hX:=hA.1
 have HX:=Lib.hid hX
 obtain ⟨i0,hi,hz0,hz1,hz2⟩:=info_parts tile_info
 have HI0:=Lib.hid hi
 have HZ0:=Lib.hid hz0
 have HZ1:=Lib.hid hz1
 have HZ2:=Lib.hid hz2
 clear hA hX hi hz0 hz1 hz2
 go_enter Tryz.func64,Tryz.ntmps64
 go_wp2_with fail
 refine (sframesOk_any d A n c fs _ (HI.out.below (below_new hB0 _)) hz).mono ?_
 rintro e w1 ⟨rfl,b1⟩
 have hs1:=b1.size
 simp only [World.size_alloc] at hs1
 have N1:=Lib.hid ((ownT_new (w:=(w.alloc (.cells #[.int .i64 d.W,.int .i64 d.H,.int .i64 d.T,.int .i64 d.R] 25))) 103 4 (g:=w.heap.size+1) (by simp)).below b1)
 have HBX1:=Lib.hid (below_tr (below_new (Below.refl (w.alloc (.cells #[.int .i64 d.W,.int .i64 d.H,.int .i64 d.T,.int .i64 d.R] 25)).heap.size (w.alloc (.cells #[.int .i64 d.W,.int .i64 d.H,.int .i64 d.T,.int .i64 d.R] 25))) _) b1)
 have B1:=Lib.hid (below_tr (below_new hB0 _) b1)
 clear b1
 cases hf:framesOk d fs with
 | false =>
  have HF:=Lib.hid hf
  clear hf
  go_wp2_with fail
  go_ret
  exact ⟨_,0,0,rfl,by rw [readF,HF.out];exact N1.out.widen (by omega) (by omega),B1.out⟩
 | true =>
  have hdv:=(framesOk_iff hf).1
  have hfb:=fwI_bd hdv
  obtain ⟨F,hF⟩:∃F:Nat,fwI d=(F:Int):=⟨(fwI d).toNat,by omega⟩
  rw [hF] at hfb
  have hn36:=(frames_n hf).2
  rw [HX.out] at hn36
  have HFW:=Lib.hid hF
  have HD:=Lib.hid hdv
  have HF:=Lib.hid hf
  obtain ⟨_,hAr⟩:=HI.out
  clear hf hdv hF
  go_wp2_with fail
  go_loopw [5,6] (fun v i wr=>∃(k:Nat) (A':Option Addr) (c':Nat),k≤n∧i = .int .i64 k∧v = .slice A' k c'∧OwnT (w.alloc (.cells #[.int .i64 d.W,.int .i64 d.H,.int .i64 d.T,.int .i64 d.R] 25)).heap.size wr.heap.size wr (celT (tilesOf d (fs.take k))) (.slice A' k c')∧Below (w.alloc (.cells #[.int .i64 d.W,.int .i64 d.H,.int .i64 d.T,.int .i64 d.R] 25)).heap.size (w.alloc (.cells #[.int .i64 d.W,.int .i64 d.H,.int .i64 d.T,.int .i64 d.R] 25)) wr) (fun _ i _=>n - (intOf i).toNat)
  case atStart=>exact ⟨0,_,0,Nat.zero_le _,rfl,rfl,N1.out.widen (by simp) (by omega),HBX1.out⟩
  case round =>
   obtain ⟨k,A',c',hk,rfl,rfl,ho,hbx⟩:=hrel
   have HO:=Lib.hid ho
   have HBX:=Lib.hid hbx
   have hbe:=below_tr hB0 hbx
   have HE:=Lib.hid hbe
   have hsx:=hbx.size
   simp only [World.size_alloc] at hsx
   clear ho
   by_cases hlt:k<n
   ·obtain ⟨b,o,rfl,hb,hc⟩:=hAr (by omega)
    obtain ⟨A1,m1,c1,hck,hI1⟩:=hc k hlt
    rw [←hbe.cell (p:=⟨b,o+k,none⟩) hb] at hck
    have hfr:=frames_in HF.out (j:=k) (by rw [HX.out];exact hlt)
    have hm1:m1=F:=by have:=hfr.2;rw [hI1.1,HFW.out] at this;omega
    subst hm1
    have HIN:=Lib.hid hfr.1
    have J1:=Lib.hid (hI1.below hbe)
    have HXF:=Lib.hid hI1.1
    have hsw:=hbe.size
    have HT:=Lib.hid (tiles_take (d:=d) (fs:=fs) (k:=k) (by rw [HX.out];exact hlt))
    have hbw:b<wr.heap.size:=by omega
    obtain ⟨hcc,hff⟩:=bcell hbx
    have q0:wr.cell? ⟨w.heap.size,0,none⟩=some (.int .i64 d.W):=(hcc _ _ (by simp)).trans (cell_heap (heap_new w _) rfl)
    have q1:wr.cell? ⟨w.heap.size,1,none⟩=some (.int .i64 d.H):=(hcc _ _ (by simp)).trans (cell_heap (heap_new w _) rfl)
    have q2:wr.cell? ⟨w.heap.size,2,none⟩=some (.int .i64 d.T):=(hcc _ _ (by simp)).trans (cell_heap (heap_new w _) rfl)
    have q3:wr.cell? ⟨w.heap.size,3,none⟩=some (.int .i64 d.R):=(hcc _ _ (by simp)).trans (cell_heap (heap_new w _) rfl)
    have hww:w.heap.size<wr.heap.size:=by omega
    clear hc hI1 hfr hbe hbx hcc hff
    generalize fs[k]?.getD []=f at *
    go_wp2_with fail
    have hD:=Below.refl wr.heap.size wr
    have HQ:=Lib.hid (And.intro q0 (And.intro q1 (And.intro q2 (And.intro q3 hck))))
    clear q0 q1 q2 q3 hck
    go_cut [7] (fun s7 wx=>CutR (decT d (dataOf f)) wr s7 wx)
    case first =>
     go_region_held3 (fun w'=>w'.cell? ⟨w.heap.size,0,none⟩=some (.int .i64 d.W)∧w'.cell? ⟨w.heap.size,1,none⟩=some (.int .i64 d.H)∧w'.cell? ⟨w.heap.size,2,none⟩=some (.int .i64 d.T)∧w'.cell? ⟨w.heap.size,3,none⟩=some (.int .i64 d.R)∧w'.cell? ⟨b,o+k,none⟩=some (.slice A1 m1 c1))
      (first
       | with_reducible exact keep5 hD hww hbw HQ.out
       | with_reducible exact keep5 hD.drew hww hbw HQ.out
       | with_reducible exact keep5 (below_new hD _) hww hbw HQ.out
       | with_reducible exact keep5 (below_new hD _).drew hww hbw HQ.out
       | (with_reducible refine keep5 (sets4 hD ?_) hww hbw HQ.out;omega))
      (first
       | (go_at_call 136;(first|(with_reducible refine (l40Data_any A1 m1 c1 f _ (J1.out.below hD.drew) HIN.out (by omega)).mono ?_)|(with_reducible refine (l40Data_any A1 m1 c1 f _ (J1.out.below (below_new hD _).drew) HIN.out (by omega)).mono ?_));rintro e w2 ⟨A2,c2,rfl,o2,b2⟩;have hs2:=b2.size;(first|(with_reducible have hD2:=below_tr hD.drew b2)|(with_reducible have hD2:=below_tr (below_new hD _).drew b2;have hx2:=Lib.hid (heap_tr b2 (heap_dr (heap_new _ _)))));have O2:=Lib.hid o2;(try simp only [World.size_alloc,size_drew4] at hs2);replace hD:=hD2;clear b2 o2)
       | (go_at_call 135;(first|(with_reducible refine (sdecodeTile_any d A2 m1 c2 (dataOf f) _ HD.out O2.out.ints HFW.out.symm (data_16 f)).mono ?_)|(with_reducible refine (sdecodeTile_any d A2 m1 c2 (dataOf f) _ HD.out (O2.out.ints.below (below_new (Below.refl _ _) _)) HFW.out.symm (data_16 f)).mono ?_));rintro e w5 ⟨v,rfl,ht,b5⟩;obtain ⟨A3,n3,c3,A4,n4,c4,rfl,hown⟩:=ht.slices;clear ht;have hs5:=b5.size;(first|(with_reducible have hD2:=below_tr hD b5;(try have hx5:=heap_tr b5 hx2.out))|(with_reducible have hD2:=below_tr (below_new hD _) b5;have hx5:=heap_tr b5 (heap_new _ _)));have OW:=Lib.hid hown;(try simp only [World.size_alloc] at hs5);replace hD:=hD2;(try (have a0:=cell_heap (k:=0) hx5 rfl;have a1:=cell_heap (k:=1) hx5 rfl;have a2:=cell_heap (k:=2) hx5 rfl;have a3:=cell_heap (k:=3) hx5 rfl;have y0:=frozen_heap hx5 0;have y1:=frozen_heap hx5 1;have y2:=frozen_heap hx5 2;have y3:=frozen_heap hx5 3;have HX5:=Lib.hid hx5;clear hx5));clear b5 hown))
     all_goals
      go_wp2_with fail
      go_meet
      first
       | (with_reducible refine cutR_mk (box_sets HX5.out) (OW.out.set4 (.inl ?_)) ?_ ?_ (sets4 hD ?_))
       | (with_reducible refine cutR_mk (heap_new _ _) (OW.out.al_ _) ?_ ?_ (below_new hD _))
      all_goals
       (try simp only [size_set4,World.size_alloc])
       omega
    case rest =>
     obtain ⟨gx,v0,v1,rfl,hx,hown,hb2⟩:=hcut
     have x0:=cell_heap (k:=0) hx rfl
     have x1:=cell_heap (k:=1) hx rfl
     have x2:=cell_heap (k:=2) hx rfl
     have x3:=cell_heap (k:=3) hx rfl
     have OO:=Lib.hid (HO.out.below hb2)
     have OW:=Lib.hid hown
     have E5:=Lib.hid (below_tr HBX.out hb2)
     have hs5:=hb2.size
     clear hx hown hb2 hD
     go_wp2_with (at_builtin;refine wpList_pushC (W:=(w.alloc (.cells #[.int .i64 d.W,.int .i64 d.H,.int .i64 d.T,.int .i64 d.R] 25))) rfl _ _ 96 103 rfl i0 _ 4 64 Tryz.underlying96 HI0.out HZ0.out HZ1.out HZ2.out rfl (by omega) (by omega) (w.alloc (.cells #[.int .i64 d.W,.int .i64 d.H,.int .i64 d.T,.int .i64 d.R] 25)).heap.size wr.heap.size A' k c' _ wr.heap.size _ #[v0,v1,.int .i64 (decT d (dataOf f)).pad,.int .i64 (decT d (dataOf f)).ram] rfl OO.out OW.out rfl rfl (by omega) (by omega) (by simp only [World.size_alloc];omega) (by omega) (by simp only [World.size_alloc];omega) E5.out ?_;rintro g6 cap w6 o6 b6 _ hs6)
     go_roundw
     case rel =>
      refine ⟨k+1,_,_,by omega,by go_num,rfl,?_,b6⟩
      rw [HT.out]
      unfold celT
      rw [cells_snoc]
      exact o6
     case measure=>simp [intOf];omega
   ·have hkn:n=k:=by omega
    subst hkn
    go_wp2_with fail
    go_ret
    exact ⟨_,_,_,rfl,by have:=HO.out;rw [List.take_of_length_le (by rw [HX.out];exact Nat.le_refl _)] at this;rw [readF,HF.out,if_pos rfl];exact this.widen (by simp) (Nat.le_refl _),HE.out⟩
end Go.Proofs.YtignkfhdkcgkgaaGreat

namespace Go.Proofs.YtignkfhdkcgkgaaGreat
set_option maxRecDepth 100000
open Go.RowKit


def startOf (d:Dev) (k:Nat) (t:Tile):List Int :=
 if kindOf d (k:Int)=1 then [(t.les[0]?.getD Le.zero).init,(t.les[1]?.getD Le.zero).init] else if kindOf d (k:Int)=2 then [t.ram,0] else [0,0]
def startTo (d:Dev) (ts:List Tile):Nat→List Int
 | 0=>[]
 | k+1=>startTo d ts k++startOf d k (ts[k]?.getD Tile.zero)
theorem startOf_length (d:Dev) (k:Nat) (t:Tile):(startOf d k t).length=2:=by unfold startOf;split <;> (try split) <;> rfl
theorem startTo_length (d:Dev) (ts:List Tile) (k:Nat):(startTo d ts k).length=2 * k:=by
 induction k with
 | zero=>rfl
 | succ k ih=>rw [startTo,List.length_append,ih,startOf_length];omega
def startP (d:Dev) (ts:List Tile) (m k:Nat):List Int:=startTo d ts k++List.replicate (2 * (m - k)) 0
theorem startP_length {d:Dev} {ts:List Tile} {m k:Nat} (h:k≤m):(startP d ts m k).length=2 * m:=by simp [startP,startTo_length];omega
theorem startP_zero (d:Dev) (ts:List Tile) (m:Nat):startP d ts m 0=List.replicate (2 * m) 0:=by simp [startP,startTo]
theorem startP_full (d:Dev) (ts:List Tile) (m:Nat):startP d ts m m=startTo d ts m:=by simp [startP]
theorem startP_split {d:Dev} {ts:List Tile} {m k:Nat} (h:k<m):startP d ts m k=startTo d ts k++0 :: 0 :: List.replicate (2 * (m - (k+1))) 0:=by
 rw [startP,show 2 * (m - k)=2 * (m - (k+1))+1+1 by omega]
 rfl
theorem startP_set {d:Dev} {ts:List Tile} {m k:Nat} (h:k<m) (a b:Int) (hs:startOf d k (ts[k]?.getD Tile.zero)=[a,b]):((startP d ts m k).set (2 * k) a).set (2 * k+1) b=startP d ts m (k+1):=by
 have hl:=startTo_length d ts k
 rw [startP_split h,List.set_append,if_neg (by omega),hl,Nat.sub_self,List.set_cons_zero,List.set_append,if_neg (by omega),hl,show 2 * k+1 - 2 * k=0+1 by omega,List.set_cons_succ,List.set_cons_zero,startP,startTo,hs,List.append_assoc]
 rfl
theorem startP_set1 {d:Dev} {ts:List Tile} {m k:Nat} (h:k<m) (a:Int) (hs:startOf d k (ts[k]?.getD Tile.zero)=[a,0]):(startP d ts m k).set (2 * k) a=startP d ts m (k+1):=by
 have hl:=startTo_length d ts k
 rw [startP_split h,List.set_append,if_neg (by omega),hl,Nat.sub_self,List.set_cons_zero,startP,startTo,hs,List.append_assoc]
 rfl
theorem startP_same {d:Dev} {ts:List Tile} {m k:Nat} (h:k<m) (hs:startOf d k (ts[k]?.getD Tile.zero)=[0,0]):startP d ts m k=startP d ts m (k+1):=by
 rw [startP_split h,startP,startTo,hs,List.append_assoc]
 rfl
def startF (d:Dev) (fs:List (List Int)):List Int:=startTo d (readF d fs) (readF d fs).length
def Les2 (ts:List Tile):Prop:=∀k,k<ts.length→(ts[k]?.getD Tile.zero).les.length=2

set_option maxHeartbeats 2000000 in
theorem emuStart_any (d:Dev) (A:Option Addr) (m c:Nat) (ts:List Tile) (w:World) (hA:RdC w w.heap.size (celT ts) (.slice A m c)) (hd:devOk d=true) (hm:m≤36) (hl:Les2 ts) :
  Calls Tryz.prog 148 #[.agg #[.int .i64 d.W,.int .i64 d.H,.int .i64 d.T,.int .i64 d.R],.slice A m c] w fun e w'=>∃A',e = .returned (.slice A' (2 * m) (2 * m))∧Own w.heap.size w' A' (2 * m) (2 * m) (startTo d ts m)∧Below w.heap.size w w':=by
 have hB0:Below w.heap.size w (w.alloc (.cells #[.int .i64 d.W,.int .i64 d.H,.int .i64 d.T,.int .i64 d.R] 25)):=below_new (Below.refl _ _) _
 have HA:=Lib.hid hA
 have HD:=Lib.hid hd
 have HL:=Lib.hid hl
 have HTL:=Lib.hid hA.tlen
 obtain ⟨i0,hi,hz0,hz1,hz2⟩:=info_parts int_info
 have hmk:=fun W=>run_make_rowN (P:=Tryz.prog) 27 3 i0 _ Tryz.underlying27 hi hz0 .i64 .i64 (2 * m) (2 * m) (Nat.le_refl _) (by rw [hz2];omega) (by omega) W
 rw [hz1,Nat.mul_one,show (Value.int .i64 0).cells=#[Value.int .i64 0] from rfl,arr_made] at hmk
 have e2m:((2 * m:Nat):Int)=2 * (m:Int):=by omega
 rw [e2m] at hmk
 clear hA hd hl hi hz0 hz1 hz2 e2m
 go_enter Tryz.func148,Tryz.ntmps148
 go_wp2_with fail
 clear hmk
 have HB0:=Lib.hid hB0
 have H0:Hid (((w.alloc (.cells #[.int .i64 d.W,.int .i64 d.H,.int .i64 d.T,.int .i64 d.R] 25)).alloc (.cells (arr (List.replicate (2 * m) 0)) 3)).heap[w.heap.size+1]?=some (.cells (arr (startP d ts m 0)) 3 (0,0))):=by
  rw [startP_zero]
  exact heap_newAt (by simp)
 clear hB0
 go_loopw [14] (fun i wr=>∃k:Nat,k≤m∧i = .int .i64 k∧wr.heap[w.heap.size+1]?=some (.cells (arr (startP d ts m k)) 3 (0,0))∧Below (w.alloc (.cells #[.int .i64 d.W,.int .i64 d.H,.int .i64 d.T,.int .i64 d.R] 25)).heap.size (w.alloc (.cells #[.int .i64 d.W,.int .i64 d.H,.int .i64 d.T,.int .i64 d.R] 25)) wr) (fun i _=>m - (intOf i).toNat)
 case atStart=>exact ⟨0,Nat.zero_le _,rfl,H0.out,below_new (Below.refl _ _) _⟩
 case round =>
  obtain ⟨k,hk,rfl,hg,hbx⟩:=hrel
  have HG:=Lib.hid hg
  have HBX:=Lib.hid hbx
  have hbe:=below_tr HB0.out hbx
  have HE:=Lib.hid hbe
  have hsx:=hbx.size
  simp only [World.size_alloc] at hsx
  have hgl:=heap_lt0 hg
  obtain ⟨hcc,hff⟩:=bcell hbx
  clear hg hbx
  by_cases hlt:k<m
  ·obtain ⟨b,o,S,m3,p,L,l,q,rfl,hb,c0,c1,c2,c3,r0,r1⟩:=HA.out.tile (k:=k) (by rw [HTL.out];exact hlt)
   have hll:=HL.out k (by rw [HTL.out];exact hlt)
   have HLE:=Lib.hid r1
   have HSO:Hid (startOf d k (ts[k]?.getD Tile.zero)=if kindOf d (k:Int)=1 then [((ts[k]?.getD Tile.zero).les[0]?.getD Le.zero).init,((ts[k]?.getD Tile.zero).les[1]?.getD Le.zero).init] else if kindOf d (k:Int)=2 then [(ts[k]?.getD Tile.zero).ram,0] else [0,0]):=rfl
   have HSET:=fun a b'=>Lib.hid (startP_set (d:=d) (ts:=ts) hlt a b')
   have HONE:=fun a=>Lib.hid (startP_set1 (d:=d) (ts:=ts) hlt a)
   have HSAME:=Lib.hid (startP_same (d:=d) (ts:=ts) hlt)
   have HPL:=Lib.hid (startP_length (d:=d) (ts:=ts) (m:=m) (k:=k) hk)
   generalize ts[k]?.getD Tile.zero=t at *
   have HLL:=Lib.hid hll
   have hww:w.heap.size<wr.heap.size:=by omega
   have i0:(0:Int)≤(k:Int):=by omega
   have i1:(k:Int)<(m:Int):=by omega
   clear r0 r1 hbe hll
   go_wp2_with fail
   refine (tileKind_any d k _ HD.out (by omega) (by omega)).mono ?_
   rintro e w2 ⟨rfl,b2⟩
   have hs2:=b2.size
   simp only [World.size_alloc] at hs2
   have G2:=Lib.hid (heap_tr b2 (heap_al _ HG.out))
   have T2:=Lib.hid (heap_tr b2 (heap_new _ _))
   have E2:=Lib.hid (below_tr (below_new HBX.out _) b2)
   have LE2:=Lib.hid (HLE.out.keep (w':=w2) (Nat.le_refl _) (below_tr HB0.out E2.out).block)
   clear b2 hcc hff
   have hk3:=kindOf_bd d (k:Int)
   generalize kindOf d (k:Int)=kd at *
   rcases hk3 with h|h|h
   ·subst h
    have HS1:=Lib.hid (HSAME.out (by rw [HSO.out];simp))
    go_wp2_with fail
    go_roundw
    case rel=>exact ⟨k+1,by omega,by go_num,by rw [←HS1.out];exact G2.out,E2.out⟩
    case measure=>simp [intOf];omega
   ·subst h
    obtain ⟨b3,o3,S3,m4,p3,rfl,hb3,_,_,_,d3,_⟩:=LE2.out.le (k:=0) (by rw [HLL.out];omega)
    obtain ⟨b4,o4,S4,m5,p4,hbo,_,_,_,_,d4,_⟩:=LE2.out.le (k:=1) (by rw [HLL.out];omega)
    injection hbo with hbo
    injection hbo with hb4 ho4
    subst hb4 ho4
    obtain rfl:2=l:=by have hl2:=LE2.out.elen;rw [HLL.out] at hl2;exact hl2
    have hne3:b3≠w.heap.size+1:=by omega
    have HS1:=HSET (((t.les)[0]?.getD Le.zero).init) (((t.les)[1]?.getD Le.zero).init)
    have HS2:=Lib.hid (HS1.out (by rw [HSO.out,if_pos rfl]))
    generalize ((t.les)[0]?.getD Le.zero).init=x at *
    generalize ((t.les)[1]?.getD Le.zero).init=y at *
    have d3':w2.cell? ⟨b3,o3+3,none⟩=some (.int .i64 x):=by have h:=d3;rw [Nat.zero_mul,Nat.add_zero] at h;exact h
    have d4':w2.cell? ⟨b3,o3+4+3,none⟩=some (.int .i64 y):=by have h:=d4;rw [Nat.one_mul] at h;exact h
    have t1:=cell_heap (k:=1) T2.out rfl
    have g1:=cell_heap (k:=2 * k) G2.out (arr_get (by rw [HPL.out];omega))
    have f1:=frozen_heap G2.out (2 * k)
    have g2:=cell_heap (k:=2 * k+1) G2.out (arr_get (by rw [HPL.out];omega))
    have f2:=frozen_heap G2.out (2 * k+1)
    clear d3 d4 HSET HSAME HS1
    go_wp2_with fail
    go_roundw
    case rel =>
     refine ⟨k+1,by omega,by go_num,?_,(E2.out.setCell (p:=⟨w.heap.size+1,2 * k,none⟩) (by simp) _).setCell (p:=⟨w.heap.size+1,2 * k+1,none⟩) (by simp) _⟩
     rw [heap_set (heap_set G2.out (2 * k) _) (2 * k+1),arr_set,arr_set,HS2.out]
    case measure=>simp [intOf];omega
   ·subst h
    have HS1:=HONE t.ram
    have HS2:=Lib.hid (HS1.out (by rw [HSO.out,if_neg (by omega),if_pos rfl]))
    have t3:=cell_heap (k:=3) T2.out rfl
    have g1:=cell_heap (k:=2 * k) G2.out (arr_get (by rw [HPL.out];omega))
    have f1:=frozen_heap G2.out (2 * k)
    clear HSET HSAME HS1 HONE
    go_wp2_with fail
    go_roundw
    case rel =>
     refine ⟨k+1,by omega,by go_num,?_,E2.out.setCell (p:=⟨w.heap.size+1,2 * k,none⟩) (by simp) _⟩
     rw [heap_set G2.out (2 * k),arr_set,HS2.out]
    case measure=>simp [intOf];omega
  ·have hkm:m=k:=by omega
   subst hkm
   go_wp2_with fail
   go_ret
   exact ⟨_,rfl,by rw [←startP_full];exact Own.arr HG.out (by omega) (by unfold maxLen;omega) (startP_length (Nat.le_refl _)),HE.out⟩
theorem les2_tilesOf (d:Dev) (fs:List (List Int)):Les2 (tilesOf d fs):=by
 intro k hk
 rw [tilesOf_length] at hk
 unfold tilesOf
 rw [List.getElem?_map,List.getElem?_eq_getElem hk]
 rfl
theorem keep4 {W W':World} {g:Nat} {v0 v1 v2 v3:Value} (hb:Below W.heap.size W W') (hg:g<W.heap.size)
  (h:W.cell? ⟨g,0,none⟩=some v0∧W.cell? ⟨g,1,none⟩=some v1∧W.cell? ⟨g,2,none⟩=some v2∧W.cell? ⟨g,3,none⟩=some v3) :
  W'.cell? ⟨g,0,none⟩=some v0∧W'.cell? ⟨g,1,none⟩=some v1∧W'.cell? ⟨g,2,none⟩=some v2∧W'.cell? ⟨g,3,none⟩=some v3 :=
 ⟨(hb.cell (p:=⟨g,0,none⟩) hg).trans h.1,(hb.cell (p:=⟨g,1,none⟩) hg).trans h.2.1,(hb.cell (p:=⟨g,2,none⟩) hg).trans h.2.2.1,(hb.cell (p:=⟨g,3,none⟩) hg).trans h.2.2.2⟩
theorem box4 (w:World) (d:Dev):(w.alloc (.cells #[.int .i64 d.W,.int .i64 d.H,.int .i64 d.T,.int .i64 d.R] 25)).cell? ⟨w.heap.size,0,none⟩=some (.int .i64 d.W)∧(w.alloc (.cells #[.int .i64 d.W,.int .i64 d.H,.int .i64 d.T,.int .i64 d.R] 25)).cell? ⟨w.heap.size,1,none⟩=some (.int .i64 d.H)∧(w.alloc (.cells #[.int .i64 d.W,.int .i64 d.H,.int .i64 d.T,.int .i64 d.R] 25)).cell? ⟨w.heap.size,2,none⟩=some (.int .i64 d.T)∧(w.alloc (.cells #[.int .i64 d.W,.int .i64 d.H,.int .i64 d.T,.int .i64 d.R] 25)).cell? ⟨w.heap.size,3,none⟩=some (.int .i64 d.R) :=
 ⟨cell_heap (heap_new w _) rfl,cell_heap (heap_new w _) rfl,cell_heap (heap_new w _) rfl,cell_heap (heap_new w _) rfl⟩
theorem startF_good {d:Dev} {fs:List (List Int)} (h:framesOk d fs=true):startF d fs=startTo d (tilesOf d fs) fs.length:=by unfold startF;rw [readF,h,if_pos rfl,tilesOf_length]
end Go.Proofs.YtignkfhdkcgkgaaGreat

namespace Go.Proofs.YtignkfhdkcgkgaaGreat
set_option maxRecDepth 100000
open Go.RowKit

theorem pushN_news {w:World} {news:List Int} (j:Nat) (u:Value) (hu:(news.map (Value.int .i64))[j]?=some u):(w.alloc (.cells (arr news) 3)).cell? ((⟨w.heap.size,0,none⟩:Addr).add j)=some u:=by
 have e1:(⟨w.heap.size,0,none⟩:Addr).add j=⟨w.heap.size,j,none⟩:=by rw [Addr.add_lit];simp
 rw [e1]
 unfold World.cell?
 rw [heap_new]
 simpa [arr] using hu
theorem pushN_one {news:List Int} (u:Value) (hu:u∈news.map (Value.int .i64)):u.oneCell'=true:=by
 simp at hu
 obtain ⟨y,_,rfl⟩:=hu
 rfl
theorem pushN_below {base:Nat} {A:Option Addr} {n c:Nat} {xs news:List Int} {w w' W:World} (hown:Own base w A n c xs) (hbase:base≤w.heap.size) (hB:Below base W w) (h2:(w.alloc (.cells (arr news) 3)).grownBy w' (Value.slice A n c).ownBlock):Below base W w':=by
 rw [ownBlock_slice] at h2
 refine (hB.alloc hbase _).grown h2 (by simp;omega) ?_
 intro k hk
 cases A with
 | none=>cases hk
 | some a' =>
  injection hk with hk
  subst hk
  exact (hown.lt a' rfl).1
theorem wpList_pushN {ops:Array Oper} {rest:List Oper} {o:Oper} {a:Act} {Q:Exit→Act→World→Prop} {w W:World} (hgd:o.guard=none) (s x:Operand)
  (ho:o.op = .call { callee := .builtin .append,args:=#[s,x],argTypes:=#[27,27] })
  (base:Nat) (A:Option Addr) (n c:Nat) (xs news:List Int) (m:Nat) (hs:a.eval s = .slice A n c) (hown:Own base w A n c xs) (hx:a.eval x = .slice (some ⟨w.heap.size,0,none⟩) m m) (hm:news.length=m) (hm0:0<m)
  (hn:n+m≤1099511627776) (hbase:base≤w.heap.size) (hB:Below base W w)
  (h:∀g cap w',Own base w' (some ⟨g,0,none⟩) (n+m) cap (xs++news)→Below base W w'→(w.alloc (.cells (arr news) 3)).grownBy w' (A.map (·.block))→(A.map (·.block)=some g∨g=w.heap.size+1) →
   wpList Tryz.prog ops Q rest (a.put o.dst (.slice (some ⟨g,0,none⟩) (n+m) cap)) w'):wpList Tryz.prog ops Q (o :: rest) a (w.alloc (.cells (arr news) 3)):=by
 obtain ⟨i0,hi,hz0,hz1,hz2⟩:=info_parts int_info
 have hl:=hown.lt
 refine wpList_append_lies (w.alloc (.cells (arr news) 3)) hgd s x 27 ho base 3 i0 (.int .i64 0) 1 8 Tryz.underlying27 hi hz0 hz1 hz2 rfl (by omega) (.slice A n c) n (xs.map (Value.int .i64)) hs
  (ownsRow_block hown fun a ha=>Below.heap_alloc _ _ _ (hl a ha).2) ⟨w.heap.size,0,none⟩ m m (news.map (Value.int .i64)) hx (by simp [hm])
  pushN_news pushN_one hm0 (by unfold maxLen;omega) (by omega) (by simp;omega) (w.heap.size+1) (by simp) ?_
 intro g cap w' h1 h2 h3 _
 have h2':=h2
 rw [ownBlock_slice] at h2' h3
 exact h g cap w' (by simpa [Own] using h1) (pushN_below hown hbase hB h2) h2' h3
end Go.Proofs.YtignkfhdkcgkgaaGreat

namespace Go.Proofs.YtignkfhdkcgkgaaGreat
set_option maxRecDepth 100000
open Go.RowKit
/-- What lies from lo up to the world w1 is kept; the row A is not among it. -/
def KeptIn (w1 wr:World) (lo:Nat) (A:Option Addr):Prop:=(∀k,lo≤k→k<w1.heap.size→wr.heap[k]?=w1.heap[k]?)∧w1.heap.size≤wr.heap.size∧∀a,A=some a→a.block<lo∨w1.heap.size≤a.block
theorem KeptIn.below {w1 wr w2:World} {lo:Nat} {A:Option Addr} (h:KeptIn w1 wr lo A) (hb:Below wr.heap.size wr w2):KeptIn w1 w2 lo A :=
 ⟨fun k h1 h2=>(hb.block k (by have:=h.2.1;omega)).trans (h.1 k h1 h2),by have:=h.2.1;have:=hb.size;omega,h.2.2⟩
end Go.Proofs.YtignkfhdkcgkgaaGreat
