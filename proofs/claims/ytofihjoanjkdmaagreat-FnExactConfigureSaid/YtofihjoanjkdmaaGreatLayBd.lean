/- How large the parts of a layout are; layouts in memory. -/
import Derived.Test.YtofihjoanjkdmaaGreatLayArg
namespace Go.Proofs.YtofihjoanjkdmaaGreat
set_option maxRecDepth 100000
open Go.RowKit
theorem vQ {α:Type} {cells:α→List Cel} {xs:List α} {b:α} (h:b∈xs):af (cells b)<=af (xs.flatMap cells):=by
 obtain ⟨j,hj,rfl⟩:=List.getElem_of_mem h
 have h1:=jD (cells:=cells) (z:=xs[j]) hj
 rwa [List.getElem?_eq_getElem hj] at h1
structure EY (x:Lay) (m:Nat):Prop where
 blocks:x.blocks.length<=m
 conns:x.conns.length<=m
 place:x.place.length<=m
 routes:x.routes.length<=m
 les:∀b∈x.blocks,b.les.length<=m
 sinks:∀c∈x.conns,c.sinks.length<=m
 nodes:∀r∈x.routes,r.nodes.length<=m/\r.from_.length<=m
theorem EZ {x:Lay} {m:Nat} (h:af x.cells<=m):EY x m:=by
 have h0:af x.cells=af x.net.cells+(szC (aa x.blocks)+(szC (ah x.conns)+(szC (aH x.place)+(szC (bH x.routes)+0)))):=by
  unfold Lay.cells
  rw [iD,au,au,au,au,bP]
 have h1:szC (aa x.blocks)=x.blocks.length+af (x.blocks.flatMap Blk.cells):=cK (cells:=Blk.cells) (s:=3) (e:=89) (fun _=>rfl) (by omega) _
 have h2:szC (ah x.conns)=x.conns.length+af (x.conns.flatMap Cn.cells):=cK (cells:=Cn.cells) (s:=4) (e:=158) (fun _=>rfl) (by omega) _
 have h3:szC (aH x.place)=x.place.length:=nZ _
 have h4:szC (bH x.routes)=x.routes.length+af (x.routes.flatMap Rou.cells):=cK (cells:=Rou.cells) (s:=2) (e:=114) (fun _=>rfl) (by omega) _
 refine ⟨by omega,by omega,by omega,by omega,fun b q=>?_,fun c hc=>?_,fun r hr=>?_⟩
 ·have g:=vQ (cells:=Blk.cells) q
  have j:szC (cZ b.les)=b.les.length+af (b.les.flatMap LeT.cells):=cK (cells:=LeT.cells) (s:=2) (e:=94) (fun _=>rfl) (by omega) _
  unfold Blk.cells at g
  rw [au,au,au] at g
  unfold Blk.cells at h1
  omega
 ·have g:=vQ (cells:=Cn.cells) hc
  have j:szC (bR c.sinks)=c.sinks.length+af (c.sinks.flatMap bS.cells):=cK (cells:=bS.cells) (s:=2) (e:=100) (fun _=>rfl) (by omega) _
  unfold Cn.cells at g
  rw [au,au,au,au] at g
  unfold Cn.cells at h2
  omega
 have g:=vQ (cells:=Rou.cells) hr
 unfold Rou.cells at g
 rw [au,au,nZ,nZ] at g
 unfold Rou.cells at h4
 omega
abbrev vR (x:Lay) (SA LA OA BA CA PA RA:Option Addr) (sn sc ln lc on oc bn bc cn cc pn pc rn rc:Nat):Value := .agg #[.int .i64 x.net.inputs,.slice SA sn sc,.slice LA ln lc,.slice OA on oc,.slice BA bn bc,.slice CA cn cc,.slice PA pn pc,.slice RA rn rc]
structure lK (w:World) (x:Lay) (SA LA OA BA CA PA RA:Option Addr) (sn sc ln lc on oc bn bc cn cc pn pc rn rc:Nat):Prop where
 sq:RdC w w.heap.size (bD x.net.seqs) (.slice SA sn sc)
 lt:RdC w w.heap.size (bM x.net.luts) (.slice LA ln lc)
 ou:RdC w w.heap.size (aH x.net.outs) (.slice OA on oc)
 bl:RdC w w.heap.size (aa x.blocks) (.slice BA bn bc)
 cn:RdC w w.heap.size (ah x.conns) (.slice CA cn cc)
 pl:RdC w w.heap.size (aH x.place) (.slice PA pn pc)
 ro:RdC w w.heap.size (bH x.routes) (.slice RA rn rc)
theorem lK.below {w w':World} {x:Lay} {SA LA OA BA CA PA RA:Option Addr} {sn sc ln lc on oc bn bc cn cc pn pc rn rc:Nat} (h:lK w x SA LA OA BA CA PA RA sn sc ln lc on oc bn bc cn cc pn pc rn rc) (g:Below w.heap.size w w'):lK w' x SA LA OA BA CA PA RA sn sc ln lc on oc bn bc cn cc pn pc rn rc :=
 ⟨h.sq.below g,h.lt.below g,h.ou.below g,h.bl.below g,h.cn.below g,h.pl.below g,h.ro.below g⟩
theorem lK.net {w:World} {x:Lay} {SA LA OA BA CA PA RA:Option Addr} {sn sc ln lc on oc bn bc cn cc pn pc rn rc:Nat} (h:lK w x SA LA OA BA CA PA RA sn sc ln lc on oc bn bc cn cc pn pc rn rc):fU w x.net SA LA OA sn sc ln lc on oc:=⟨h.sq,h.lt,h.ou⟩
theorem lK.own {lo hi:Nat} {w:World} {x:Lay} {G J z I D V Q:Option Addr} {U n1 n2 n3 B u R g c1 c2 c3 H K q:Nat}
  (h:dh lo hi w x.cells [.int .i64 x.net.inputs,.slice G U g,.slice J n1 c1,.slice z n2 c2,.slice I n3 c3,.slice D B H,.slice V u K,.slice Q R q]):lK w x G J z I D V Q U g n1 c1 n2 c2 n3 c3 B H u K R q:=by
 obtain ⟨_,k1,_⟩:=h.part (j:=1) (c:=bD x.net.seqs) rfl rfl
 obtain ⟨_,W,_⟩:=h.part (j:=2) (c:=bM x.net.luts) rfl rfl
 obtain ⟨_,k3,_⟩:=h.part (j:=3) (c:=aH x.net.outs) rfl rfl
 obtain ⟨_,k4,_⟩:=h.part (j:=4) (c:=aa x.blocks) rfl rfl
 obtain ⟨_,Y,_⟩:=h.part (j:=5) (c:=ah x.conns) rfl rfl
 obtain ⟨_,Z,_⟩:=h.part (j:=6) (c:=aH x.place) rfl rfl
 obtain ⟨_,k7,_⟩:=h.part (j:=7) (c:=bH x.routes) rfl rfl
 exact ⟨k1.rd,W.rd,k3.rd,k4.rd,Y.rd,Z.rd,k7.rd⟩
theorem lK.lens {w:World} {x:Lay} {SA LA OA BA CA PA RA:Option Addr} {sn sc ln lc on oc bn bc cn cc pn pc rn rc:Nat} (h:lK w x SA LA OA BA CA PA RA sn sc ln lc on oc bn bc cn cc pn pc rn rc):x.blocks.length=bn/\x.conns.length=cn/\x.place.length=pn/\x.routes.length=rn:=⟨h.bl.blkN,h.cn.cnN,h.pl.ints.1,h.ro.rouN⟩
end Go.Proofs.YtofihjoanjkdmaaGreat
