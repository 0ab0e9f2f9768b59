/- How large the parts of a layout are; layouts in memory. -/
import Derived.Test.YtofihjoanjkdmaaGreatLayArg
namespace Go.Proofs.YtofihjoanjkdmaaGreat
set_option maxRecDepth 100000
open Go.RowKit
theorem vX {α:Type} {cells:α→List Cel} {xs:List α} {b:α} (h:b∈xs):af (cells b)<=af (xs.flatMap cells):=by
 obtain ⟨j,hj,rfl⟩:=List.getElem_of_mem h
 have h1:=iw (cells:=cells) (z:=xs[j]) hj
 rwa [List.getElem?_eq_getElem hj] at h1
structure xG (x:Lay) (m:Nat):Prop where
 blocks:x.blocks.length<=m
 conns:x.conns.length<=m
 place:x.place.length<=m
 routes:x.routes.length<=m
 les:∀b∈x.blocks,b.les.length<=m
 sinks:∀c∈x.conns,c.sinks.length<=m
 nodes:∀r∈x.routes,r.nodes.length<=m/\r.from_.length<=m
theorem EO {x:Lay} {m:Nat} (h:af x.cells<=m):xG x m:=by
 have h0:af x.cells=af x.net.cells+(szC (aa x.blocks)+(szC (ag x.conns)+(szC (aG x.place)+(szC (bE x.routes)+0)))):=by
  unfold Lay.cells
  rw [iA,au,au,au,au,bM]
 have h1:szC (aa x.blocks)=x.blocks.length+af (x.blocks.flatMap Blk.cells):=bv (cells:=Blk.cells) (s:=3) (e:=89) (fun _=>rfl) (by omega) _
 have h2:szC (ag x.conns)=x.conns.length+af (x.conns.flatMap Cn.cells):=bv (cells:=Cn.cells) (s:=4) (e:=158) (fun _=>rfl) (by omega) _
 have h3:szC (aG x.place)=x.place.length:=nO _
 have h4:szC (bE x.routes)=x.routes.length+af (x.routes.flatMap Rou.cells):=bv (cells:=Rou.cells) (s:=2) (e:=114) (fun _=>rfl) (by omega) _
 refine ⟨by omega,by omega,by omega,by omega,fun b j=>?_,fun c hc=>?_,fun r hr=>?_⟩
 ·have g:=vX (cells:=Blk.cells) j
  have q:szC (cO b.les)=b.les.length+af (b.les.flatMap LeT.cells):=bv (cells:=LeT.cells) (s:=2) (e:=94) (fun _=>rfl) (by omega) _
  unfold Blk.cells at g
  rw [au,au,au] at g
  unfold Blk.cells at h1
  omega
 ·have g:=vX (cells:=Cn.cells) hc
  have q:szC (bL c.sinks)=c.sinks.length+af (c.sinks.flatMap ah.cells):=bv (cells:=ah.cells) (s:=2) (e:=100) (fun _=>rfl) (by omega) _
  unfold Cn.cells at g
  rw [au,au,au,au] at g
  unfold Cn.cells at h2
  omega
 have g:=vX (cells:=Rou.cells) hr
 unfold Rou.cells at g
 rw [au,au,nO,nO] at g
 unfold Rou.cells at h4
 omega
abbrev sZ (x:Lay) (SA LA OA BA CA PA RA:Option Addr) (sn sc ln lc on oc bn bc cn cc pn pc rn rc:Nat):Value := .agg #[.int .i64 x.net.inputs,.slice SA sn sc,.slice LA ln lc,.slice OA on oc,.slice BA bn bc,.slice CA cn cc,.slice PA pn pc,.slice RA rn rc]
structure j5 (w:World) (x:Lay) (SA LA OA BA CA PA RA:Option Addr) (sn sc ln lc on oc bn bc cn cc pn pc rn rc:Nat):Prop where
 sq:RdC w w.heap.size (bD x.net.seqs) (.slice SA sn sc)
 lt:RdC w w.heap.size (bK x.net.luts) (.slice LA ln lc)
 ou:RdC w w.heap.size (aG x.net.outs) (.slice OA on oc)
 bl:RdC w w.heap.size (aa x.blocks) (.slice BA bn bc)
 cn:RdC w w.heap.size (ag x.conns) (.slice CA cn cc)
 pl:RdC w w.heap.size (aG x.place) (.slice PA pn pc)
 ro:RdC w w.heap.size (bE x.routes) (.slice RA rn rc)
theorem j5.below {w w':World} {x:Lay} {SA LA OA BA CA PA RA:Option Addr} {sn sc ln lc on oc bn bc cn cc pn pc rn rc:Nat} (h:j5 w x SA LA OA BA CA PA RA sn sc ln lc on oc bn bc cn cc pn pc rn rc) (g:Below w.heap.size w w'):j5 w' x SA LA OA BA CA PA RA sn sc ln lc on oc bn bc cn cc pn pc rn rc :=
 ⟨h.sq.below g,h.lt.below g,h.ou.below g,h.bl.below g,h.cn.below g,h.pl.below g,h.ro.below g⟩
theorem j5.net {w:World} {x:Lay} {SA LA OA BA CA PA RA:Option Addr} {sn sc ln lc on oc bn bc cn cc pn pc rn rc:Nat} (h:j5 w x SA LA OA BA CA PA RA sn sc ln lc on oc bn bc cn cc pn pc rn rc):fo w x.net SA LA OA sn sc ln lc on oc:=⟨h.sq,h.lt,h.ou⟩
theorem j5.own {lo hi:Nat} {w:World} {x:Lay} {J B Q g K I U:Option Addr} {R n1 n2 n3 D u z G c1 c2 c3 H V q:Nat}
  (h:di lo hi w x.cells [.int .i64 x.net.inputs,.slice J R G,.slice B n1 c1,.slice Q n2 c2,.slice g n3 c3,.slice K D H,.slice I u V,.slice U z q]):j5 w x J B Q g K I U R G n1 c1 n2 c2 n3 c3 D H u V z q:=by
 obtain ⟨_,k1,_⟩:=h.part (j:=1) (c:=bD x.net.seqs) rfl rfl
 obtain ⟨_,k2,_⟩:=h.part (j:=2) (c:=bK x.net.luts) rfl rfl
 obtain ⟨_,k3,_⟩:=h.part (j:=3) (c:=aG x.net.outs) rfl rfl
 obtain ⟨_,k4,_⟩:=h.part (j:=4) (c:=aa x.blocks) rfl rfl
 obtain ⟨_,W,_⟩:=h.part (j:=5) (c:=ag x.conns) rfl rfl
 obtain ⟨_,Y,_⟩:=h.part (j:=6) (c:=aG x.place) rfl rfl
 obtain ⟨_,Z,_⟩:=h.part (j:=7) (c:=bE x.routes) rfl rfl
 exact ⟨k1.rd,k2.rd,k3.rd,k4.rd,W.rd,Y.rd,Z.rd⟩
theorem j5.lens {w:World} {x:Lay} {SA LA OA BA CA PA RA:Option Addr} {sn sc ln lc on oc bn bc cn cc pn pc rn rc:Nat} (h:j5 w x SA LA OA BA CA PA RA sn sc ln lc on oc bn bc cn cc pn pc rn rc):x.blocks.length=bn/\x.conns.length=cn/\x.place.length=pn/\x.routes.length=rn:=⟨h.bl.blkN,h.cn.cnN,h.pl.ints.1,h.ro.rouN⟩
end Go.Proofs.YtofihjoanjkdmaaGreat
