/- Layouts that come in: how they read (printed by mkarg.py). -/
import Derived.Test.YtofihjoanjkdmaaGreatLayRd
import Derived.Test.YtofihjoanjkdmaaGreatSzc
namespace Go.Proofs.YtofihjoanjkdmaaGreat
set_option maxRecDepth 100000
open Go.RowKit Go.ChangeShapes Go.WideShapes Go.ChangeAt
def ag.cells (l:ag):List Cel:=[.int l.inputs,bD l.seqs,bM l.luts,aH l.outs]
def Lay.cells (x:Lay):List Cel:=x.net.cells++[aa x.blocks,ah x.conns,aH x.place,bH x.routes]
def yn:List Shp:=[.row 3 [.int],.int]
theorem Eg:Typ Tryz.prog 184 yn := .of_flds Tryz.underlying184 (by kernel_rfl) (.cons (g:=[.row 3 [.int]]) rfl (by kernel_rfl) pR (.cons (g:=[.int]) rfl (by kernel_rfl) kH .nil))
theorem Du:Typ Tryz.prog 25 [.row 96 yn] := .slice Tryz.underlying25 (by kernel_rfl) (by decide) Eg
theorem Eh {g:List Cel} (h:je yn g):∃x:Lt,g=x.cells:=by
 obtain ⟨z,_,rfl,k0,h⟩:=bT.1 h
 obtain ⟨c1,_,rfl,q,h⟩:=bT.1 h
 obtain rfl:=gZ.1 h
 obtain ⟨u,rfl,_⟩:=pQ k0
 obtain ⟨j,rfl⟩:=iw.1 q
 exact ⟨⟨u,j⟩,rfl⟩
def yo:List Shp:=[.int,.int,.row 3 [.int]]
theorem Ei:Typ Tryz.prog 182 yo := .of_flds Tryz.underlying182 (by kernel_rfl) (.cons (g:=[.int]) rfl (by kernel_rfl) kH (.cons (g:=[.int]) rfl (by kernel_rfl) kH (.cons (g:=[.row 3 [.int]]) rfl (by kernel_rfl) pR .nil)))
theorem Dv:Typ Tryz.prog 24 [.row 91 yo] := .slice Tryz.underlying24 (by kernel_rfl) (by decide) Ei
theorem Ej {g:List Cel} (h:je yo g):∃x:Sq,g=x.cells:=by
 obtain ⟨D,_,rfl,k0,h⟩:=bT.1 h
 obtain ⟨c1,_,rfl,z,h⟩:=bT.1 h
 obtain ⟨c2,_,rfl,q,h⟩:=bT.1 h
 obtain rfl:=gZ.1 h
 obtain ⟨B,rfl⟩:=iw.1 k0
 obtain ⟨j,rfl⟩:=iw.1 z
 obtain ⟨u,rfl,_⟩:=pQ q
 exact ⟨⟨B,j,u⟩,rfl⟩
def uf:List Shp:=[.int,.row 91 yo,.row 96 yn,.row 3 [.int]]
theorem AU:Typ Tryz.prog 28 uf := .of_flds Tryz.underlying28 (by kernel_rfl) (.cons (g:=[.int]) rfl (by kernel_rfl) kH (.cons (g:=[.row 91 yo]) rfl (by kernel_rfl) Dv (.cons (g:=[.row 96 yn]) rfl (by kernel_rfl) Du (.cons (g:=[.row 3 [.int]]) rfl (by kernel_rfl) pR .nil))))
def Dw:List Shp:=[.int,.int]
theorem FV:Typ Tryz.prog 245 Dw := .of_flds Tryz.underlying245 (by kernel_rfl) (.cons (g:=[.int]) rfl (by kernel_rfl) kH (.cons (g:=[.int]) rfl (by kernel_rfl) kH .nil))
theorem Em:Typ Tryz.prog 145 [.row 94 Dw] := .slice Tryz.underlying145 (by kernel_rfl) (by decide) FV
theorem FW {g:List Cel} (h:je Dw g):∃x:LeT,g=x.cells:=by
 obtain ⟨z,_,rfl,k0,h⟩:=bT.1 h
 obtain ⟨c1,_,rfl,q,h⟩:=bT.1 h
 obtain rfl:=gZ.1 h
 obtain ⟨u,rfl⟩:=iw.1 k0
 obtain ⟨j,rfl⟩:=iw.1 q
 exact ⟨⟨u,j⟩,rfl⟩
def sD:List Shp:=[.int,.int,.row 94 Dw]
theorem CW:Typ Tryz.prog 147 sD := .of_flds Tryz.underlying147 (by kernel_rfl) (.cons (g:=[.int]) rfl (by kernel_rfl) kH (.cons (g:=[.int]) rfl (by kernel_rfl) kH (.cons (g:=[.row 94 Dw]) rfl (by kernel_rfl) Em .nil)))
theorem AV:Typ Tryz.prog 29 [.row 89 sD] := .slice Tryz.underlying29 (by kernel_rfl) (by decide) CW
theorem CX {g:List Cel} (h:je sD g):∃x:Blk,g=x.cells:=by
 obtain ⟨D,_,rfl,k0,h⟩:=bT.1 h
 obtain ⟨c1,_,rfl,z,h⟩:=bT.1 h
 obtain ⟨c2,_,rfl,q,h⟩:=bT.1 h
 obtain rfl:=gZ.1 h
 obtain ⟨B,rfl⟩:=iw.1 k0
 obtain ⟨j,rfl⟩:=iw.1 z
 obtain ⟨u,rfl,_⟩:=oQ (cells:=LeT.cells) (fun g hg=>FW hg) q
 exact ⟨⟨B,j,u⟩,rfl⟩
def ug:List Shp:=[.int,.int]
theorem Bg:Typ Tryz.prog 149 ug := .of_flds Tryz.underlying149 (by kernel_rfl) (.cons (g:=[.int]) rfl (by kernel_rfl) kH (.cons (g:=[.int]) rfl (by kernel_rfl) kH .nil))
theorem Dx:Typ Tryz.prog 150 [.row 100 ug] := .slice Tryz.underlying150 (by kernel_rfl) (by decide) Bg
theorem En {g:List Cel} (h:je ug g):∃x:bS,g=x.cells:=by
 obtain ⟨z,_,rfl,k0,h⟩:=bT.1 h
 obtain ⟨c1,_,rfl,q,h⟩:=bT.1 h
 obtain rfl:=gZ.1 h
 obtain ⟨u,rfl⟩:=iw.1 k0
 obtain ⟨j,rfl⟩:=iw.1 q
 exact ⟨⟨u,j⟩,rfl⟩
def uh:List Shp:=[.int]++ug++[.row 100 ug]
theorem Dy:Typ Tryz.prog 152 uh := .of_flds Tryz.underlying152 (by kernel_rfl) (.cons (g:=[.int]) rfl (by kernel_rfl) kH (.cons (g:=ug) rfl (by kernel_rfl) Bg (.cons (g:=[.row 100 ug]) rfl (by kernel_rfl) Dx .nil)))
theorem CY:Typ Tryz.prog 30 [.row 158 uh] := .slice Tryz.underlying30 (by kernel_rfl) (by decide) Dy
theorem Dz {g:List Cel} (h:je uh g):∃x:Cn,g=x.cells:=by
 obtain ⟨H,_,rfl,k0,h⟩:=bT.1 h
 obtain ⟨c1,_,rfl,D,h⟩:=bT.1 h
 obtain ⟨c2,_,rfl,q,h⟩:=bT.1 h
 obtain ⟨c3,_,rfl,u,h⟩:=bT.1 h
 obtain rfl:=gZ.1 h
 obtain ⟨G,rfl⟩:=iw.1 k0
 obtain ⟨j,rfl⟩:=iw.1 D
 obtain ⟨z,rfl⟩:=iw.1 q
 obtain ⟨B,rfl,_⟩:=oQ (cells:=bS.cells) (fun g hg=>En hg) u
 exact ⟨⟨G,⟨j,z⟩,B⟩,rfl⟩
def sF:List Shp:=[.row 3 [.int],.row 3 [.int]]
theorem CZ:Typ Tryz.prog 154 sF := .of_flds Tryz.underlying154 (by kernel_rfl) (.cons (g:=[.row 3 [.int]]) rfl (by kernel_rfl) pR (.cons (g:=[.row 3 [.int]]) rfl (by kernel_rfl) pR .nil))
theorem AX:Typ Tryz.prog 31 [.row 114 sF] := .slice Tryz.underlying31 (by kernel_rfl) (by decide) CZ
theorem Cb {g:List Cel} (h:je sF g):∃x:Rou,g=x.cells:=by
 obtain ⟨z,_,rfl,k0,h⟩:=bT.1 h
 obtain ⟨c1,_,rfl,q,h⟩:=bT.1 h
 obtain rfl:=gZ.1 h
 obtain ⟨u,rfl,_⟩:=pQ k0
 obtain ⟨j,rfl,_⟩:=pQ q
 exact ⟨⟨u,j⟩,rfl⟩
def yt:List Shp:=uf++[.row 89 sD,.row 158 uh,.row 3 [.int],.row 114 sF]
theorem AY:Typ Tryz.prog 33 yt := .of_flds Tryz.underlying33 (by kernel_rfl) (.cons (g:=uf) rfl (by kernel_rfl) AU (.cons (g:=[.row 89 sD]) rfl (by kernel_rfl) AV (.cons (g:=[.row 158 uh]) rfl (by kernel_rfl) CY (.cons (g:=[.row 3 [.int]]) rfl (by kernel_rfl) pR (.cons (g:=[.row 114 sF]) rfl (by kernel_rfl) AX .nil)))))
theorem AZ {g:List Cel} (h:je yt g):∃x:Lay,g=x.cells:=by
 obtain ⟨W,_,rfl,k0,h⟩:=bT.1 h
 obtain ⟨c1,_,rfl,U,h⟩:=bT.1 h
 obtain ⟨c2,_,rfl,j,h⟩:=bT.1 h
 obtain ⟨c3,_,rfl,Q,h⟩:=bT.1 h
 obtain ⟨c4,_,rfl,V,h⟩:=bT.1 h
 obtain ⟨c5,_,rfl,z,h⟩:=bT.1 h
 obtain ⟨Z,_,rfl,H,h⟩:=bT.1 h
 obtain ⟨Y,_,rfl,J,h⟩:=bT.1 h
 obtain rfl:=gZ.1 h
 obtain ⟨B,rfl⟩:=iw.1 k0
 obtain ⟨I,rfl,_⟩:=oQ (cells:=Sq.cells) (fun g hg=>Ej hg) U
 obtain ⟨u,rfl,_⟩:=oQ (cells:=Lt.cells) (fun g hg=>Eh hg) j
 obtain ⟨R,rfl,_⟩:=pQ Q
 obtain ⟨G,rfl,_⟩:=oQ (cells:=Blk.cells) (fun g hg=>CX hg) V
 obtain ⟨q,rfl,_⟩:=oQ (cells:=Cn.cells) (fun g hg=>Dz hg) z
 obtain ⟨D,rfl,_⟩:=pQ H
 obtain ⟨K,rfl,_⟩:=oQ (cells:=Rou.cells) (fun g hg=>Cb hg) J
 exact ⟨⟨⟨B,I,u,R⟩,G,q,D,K⟩,rfl⟩
section
variable {H:Type} {enc:TypeId × Value→H} {W:World} {b0 base:Nat} {held:Bool}
theorem D5 {v:Value} {d:DataW H} {p:List MemPlace} (I:Value.okWide Tryz.prog W .any b0 33 v) (h:DataW.Trod enc Tryz.prog W base (fun _=>true) held 33 v d p) :
  ∃(x:Lay) (SA LA OA BA CA PA RA:Option Addr) (sn sc ln lc on oc bn bc cn cc pn pc rn rc:Nat),v = .agg #[.int .i64 x.net.inputs,.slice SA sn sc,.slice LA ln lc,.slice OA on oc,.slice BA bn bc,.slice CA cn cc,.slice PA pn pc,.slice RA rn rc] /\
   fU W x.net SA LA OA sn sc ln lc on oc/\RdC W W.heap.size (aa x.blocks) (.slice BA bn bc)/\RdC W W.heap.size (ah x.conns) (.slice CA cn cc)/\RdC W W.heap.size (aH x.place) (.slice PA pn pc)/\RdC W W.heap.size (bH x.routes) (.slice RA rn rc)/\BdL x.cells:=by
 obtain ⟨cs,ces,rfl,h1,h2⟩:=Ec Tryz.underlying33 AY I h
 have J:=h1.bd
 obtain ⟨x,rfl⟩:=AZ h1
 unfold Lay.cells ag.cells at h2
 obtain ⟨v0,_,rfl,G,h2⟩:=fG.1 h2
 obtain ⟨U,_,rfl,z,h2⟩:=fG.1 h2
 obtain ⟨Q,_,rfl,q,h2⟩:=fG.1 h2
 obtain ⟨K,_,rfl,B,h2⟩:=fG.1 h2
 obtain ⟨Z,_,rfl,g,h2⟩:=fG.1 h2
 obtain ⟨Y,_,rfl,j,h2⟩:=fG.1 h2
 obtain ⟨V,_,rfl,D,h2⟩:=fG.1 h2
 obtain ⟨R,_,rfl,u,h2⟩:=fG.1 h2
 obtain rfl:=kY.1 h2
 rw [jV] at G
 subst G
 obtain ⟨SA,sn,sc,rfl⟩:=eu (e:=91) (s:=3) z
 obtain ⟨LA,ln,lc,rfl⟩:=eu (e:=96) (s:=2) q
 obtain ⟨OA,on,oc,rfl⟩:=eu (e:=3) (s:=1) B
 obtain ⟨BA,bn,bc,rfl⟩:=eu (e:=89) (s:=3) g
 obtain ⟨CA,cn,cc,rfl⟩:=eu (e:=158) (s:=4) j
 obtain ⟨PA,pn,pc,rfl⟩:=eu (e:=3) (s:=1) D
 obtain ⟨RA,rn,rc,rfl⟩:=eu (e:=114) (s:=2) u
 exact ⟨x,SA,LA,OA,BA,CA,PA,RA,sn,sc,ln,lc,on,oc,bn,bc,cn,cc,pn,pc,rn,rc,rfl,⟨z,q,B⟩,g,j,D,u,J⟩
end
end Go.Proofs.YtofihjoanjkdmaaGreat
