/- How large the parts of a layout are; layouts in memory. -/
import Derived.Test.YtofihjoanjkdmaaGreatLayArg
namespace Go.Proofs.YtofihjoanjkdmaaGreat
set_option maxRecDepth 100000
open Go.RowKit
theorem qY {α:Type} {cells:α→List Cel} {xs:List α} {b:α} (h:b∈xs):ae (cells b)<=ae (xs.flatMap cells):=by
 obtain ⟨j,hj,rfl⟩:=List.getElem_of_mem h
 have h1:=gU (cells:=cells) (z:=xs[j]) hj
 rwa [List.getElem?_eq_getElem hj] at h1
structure zY (x:Lay) (m:Nat):Prop where
 blocks:x.blocks.length<=m
 conns:x.conns.length<=m
 place:x.place.length<=m
 routes:x.routes.length<=m
 les:∀b∈x.blocks,b.les.length<=m
 sinks:∀c∈x.conns,c.sinks.length<=m
 nodes:∀r∈x.routes,r.nodes.length<=m/\r.from_.length<=m
theorem yg {x:Lay} {m:Nat} (h:ae x.cells<=m):zY x m:=by
 have h0:ae x.cells=ae x.net.cells+(szC (bE x.blocks)+(szC (bD x.conns)+(szC (aJ x.place)+(szC (bR x.routes)+0)))):=by
  unfold Lay.cells
  rw [fo,az,az,az,az,bK]
 have h1:szC (bE x.blocks)=x.blocks.length+ae (x.blocks.flatMap Blk.cells):=cK (cells:=Blk.cells) (s:=3) (e:=89) (fun _=>rfl) (by omega) _
 have h2:szC (bD x.conns)=x.conns.length+ae (x.conns.flatMap Cn.cells):=cK (cells:=Cn.cells) (s:=4) (e:=158) (fun _=>rfl) (by omega) _
 have h3:szC (aJ x.place)=x.place.length:=lu _
 have h4:szC (bR x.routes)=x.routes.length+ae (x.routes.flatMap Rou.cells):=cK (cells:=Rou.cells) (s:=2) (e:=114) (fun _=>rfl) (by omega) _
 refine ⟨by omega,by omega,by omega,by omega,fun b hb=>?_,fun c hc=>?_,fun r hr=>?_⟩
 ·have k1:=qY (cells:=Blk.cells) hb
  have k2:szC (dF b.les)=b.les.length+ae (b.les.flatMap LeT.cells):=cK (cells:=LeT.cells) (s:=2) (e:=94) (fun _=>rfl) (by omega) _
  unfold Blk.cells at k1
  rw [az,az,az] at k1
  unfold Blk.cells at h1
  omega
 ·have k1:=qY (cells:=Cn.cells) hc
  have k2:szC (bM c.sinks)=c.sinks.length+ae (c.sinks.flatMap bQ.cells):=cK (cells:=bQ.cells) (s:=2) (e:=100) (fun _=>rfl) (by omega) _
  unfold Cn.cells at k1
  rw [az,az,az,az] at k1
  unfold Cn.cells at h2
  omega
 ·have k1:=qY (cells:=Rou.cells) hr
  unfold Rou.cells at k1
  rw [az,az,lu,lu] at k1
  unfold Rou.cells at h4
  omega
structure jy (w:World) (x:Lay) (SA LA OA BA CA PA RA:Option Addr) (sn sc ln lc on oc bn bc cn cc pn pc rn rc:Nat):Prop where
 sq:RdC w w.heap.size (dE x.net.seqs) (.slice SA sn sc)
 lt:RdC w w.heap.size (dR x.net.luts) (.slice LA ln lc)
 ou:RdC w w.heap.size (aJ x.net.outs) (.slice OA on oc)
 bl:RdC w w.heap.size (bE x.blocks) (.slice BA bn bc)
 cn:RdC w w.heap.size (bD x.conns) (.slice CA cn cc)
 pl:RdC w w.heap.size (aJ x.place) (.slice PA pn pc)
 ro:RdC w w.heap.size (bR x.routes) (.slice RA rn rc)
theorem jy.below {w w':World} {x:Lay} {SA LA OA BA CA PA RA:Option Addr} {sn sc ln lc on oc bn bc cn cc pn pc rn rc:Nat} (h:jy w x SA LA OA BA CA PA RA sn sc ln lc on oc bn bc cn cc pn pc rn rc) (hb:Below w.heap.size w w'):jy w' x SA LA OA BA CA PA RA sn sc ln lc on oc bn bc cn cc pn pc rn rc :=
 ⟨h.sq.below hb,h.lt.below hb,h.ou.below hb,h.bl.below hb,h.cn.below hb,h.pl.below hb,h.ro.below hb⟩
theorem jy.net {w:World} {x:Lay} {SA LA OA BA CA PA RA:Option Addr} {sn sc ln lc on oc bn bc cn cc pn pc rn rc:Nat} (h:jy w x SA LA OA BA CA PA RA sn sc ln lc on oc bn bc cn cc pn pc rn rc):fI w x.net SA LA OA sn sc ln lc on oc:=⟨h.sq,h.lt,h.ou⟩
theorem jy.own {lo hi:Nat} {w:World} {x:Lay} {B0 B1 B2 B3 B4 B5 B6:Option Addr} {n0 n1 n2 n3 n4 n5 n6 c0 c1 c2 c3 c4 c5 c6:Nat}
  (h:dL lo hi w x.cells [.int .i64 x.net.inputs,.slice B0 n0 c0,.slice B1 n1 c1,.slice B2 n2 c2,.slice B3 n3 c3,.slice B4 n4 c4,.slice B5 n5 c5,.slice B6 n6 c6]):jy w x B0 B1 B2 B3 B4 B5 B6 n0 c0 n1 c1 n2 c2 n3 c3 n4 c4 n5 c5 n6 c6:=by
 obtain ⟨_,k1,_⟩:=h.part (j:=1) (c:=dE x.net.seqs) rfl rfl
 obtain ⟨_,k2,_⟩:=h.part (j:=2) (c:=dR x.net.luts) rfl rfl
 obtain ⟨_,k3,_⟩:=h.part (j:=3) (c:=aJ x.net.outs) rfl rfl
 obtain ⟨_,k4,_⟩:=h.part (j:=4) (c:=bE x.blocks) rfl rfl
 obtain ⟨_,k5,_⟩:=h.part (j:=5) (c:=bD x.conns) rfl rfl
 obtain ⟨_,k6,_⟩:=h.part (j:=6) (c:=aJ x.place) rfl rfl
 obtain ⟨_,k7,_⟩:=h.part (j:=7) (c:=bR x.routes) rfl rfl
 exact ⟨k1.rd,k2.rd,k3.rd,k4.rd,k5.rd,k6.rd,k7.rd⟩
theorem jy.lens {w:World} {x:Lay} {SA LA OA BA CA PA RA:Option Addr} {sn sc ln lc on oc bn bc cn cc pn pc rn rc:Nat} (h:jy w x SA LA OA BA CA PA RA sn sc ln lc on oc bn bc cn cc pn pc rn rc):x.blocks.length=bn/\x.conns.length=cn/\x.place.length=pn/\x.routes.length=rn:=⟨h.bl.blkN,h.cn.cnN,h.pl.ints.1,h.ro.rouN⟩
end Go.Proofs.YtofihjoanjkdmaaGreat
