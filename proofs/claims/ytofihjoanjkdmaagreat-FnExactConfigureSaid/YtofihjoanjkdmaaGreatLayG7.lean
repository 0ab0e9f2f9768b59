/- Legal layouts in the program: LayoutOk (printed by mklok.py). -/
import Derived.Test.YtofihjoanjkdmaaGreatHeldW
import Derived.Test.YtofihjoanjkdmaaGreatLayBd
import Derived.Test.YtofihjoanjkdmaaGreatLayG6
namespace Go.Proofs.YtofihjoanjkdmaaGreat
set_option maxHeartbeats 8000000
set_option maxRecDepth 100000
open Go.RowKit
theorem xf (d:Dev) (x:Lay) (SA LA OA BA CA PA RA:Option Addr) (sn sc ln lc on oc bn bc cn cc pn pc rn rc:Nat) (w:World) (hN:fU w x.net SA LA OA sn sc ln lc on oc) (hB:RdC w w.heap.size (aa x.blocks) (.slice BA bn bc)) (hC:RdC w w.heap.size (ah x.conns) (.slice CA cn cc)) (hP:RdC w w.heap.size (aH x.place) (.slice PA pn pc)) (hR:RdC w w.heap.size (bH x.routes) (.slice RA rn rc))
  (aV:bn<=1048576) (aL:cn<=1048576) (aU:pn<=pc) (aP:pc<=1048576) (aZ:∀b∈x.blocks,b.les.length<=1048576) (a6:∀c∈x.conns,c.sinks.length<=1048576) (a7:∀r∈x.routes,r.nodes.length<=1048576/\r.from_.length<=1048576) :
  Calls Tryz.prog 11 #[.agg (dv d),vR x SA LA OA BA CA PA RA sn sc ln lc on oc bn bc cn cc pn pc rn rc] w fun e w'=>e = .returned (.bool (tb (jB d x)))/\Below w.heap.size w w':=by
 obtain ⟨HN,HB,HC,HP,a4,ax,aq,a0⟩:=hd8 hN hB hC hP hR aZ a6 a7
 clear hN hB hC hP hR aZ a6 a7
 have u:=Hd (aB (aB (Below.refl w.heap.size w) (.cells (dv d) 36)) (.cells #[.int .i64 x.net.inputs,.slice SA sn sc,.slice LA ln lc,.slice OA on oc,.slice BA bn bc,.slice CA cn cc,.slice PA pn pc,.slice RA rn rc] 46))
 have hx:=aW (.cells #[.int .i64 x.net.inputs,.slice SA sn sc,.slice LA ln lc,.slice OA on oc,.slice BA bn bc,.slice CA cn cc,.slice PA pn pc,.slice RA rn rc] 46) (aI w (.cells (dv d) 36))
 have hy:=aI (w.alloc (.cells (dv d) 36)) (.cells #[.int .i64 x.net.inputs,.slice SA sn sc,.slice LA ln lc,.slice OA on oc,.slice BA bn bc,.slice CA cn cc,.slice PA pn pc,.slice RA rn rc] 46)
 simp only [World.size_alloc] at hy
 obtain ⟨ay,av⟩:=hd2 hx hy
 clear hx hy
 by_cases aK:fq x.net x.blocks
 ·have I:=Hd aK
  clear aK
  by_cases aJ:x.conns=eY x.net x.blocks
  ·have Q:=Hd aJ
   clear aJ
   by_cases aj:eG d (x.blocks.map Blk.kind) x.place
   ·have ap:=Hd aj
    clear aj
    by_cases aE:fA d x.place x.conns x.routes
    ·have az:=Hd aE
     have HR:Hid (jB d x):=⟨I.out,Q.out,ap.out,az.out⟩
     clear aE
     go_enter Tryz.func11,Tryz.ntmps11
     go_upto_region 1 with fail
     generalize (w.alloc (.cells (dv d) 36)).alloc (.cells #[.int .i64 x.net.inputs,.slice SA sn sc,.slice LA ln lc,.slice OA on oc,.slice BA bn bc,.slice CA cn cc,.slice PA pn pc,.slice RA rn rc] 46)=z at *
     obtain ⟨x0,x1,V,x3,H⟩:=cO ay.out
     obtain ⟨y0,y1,W,y3,y4,y5,Z,Y,D⟩:=mK av.out
     have j:Hid (∀w',Below z.heap.size z w'→(KD w' w.heap.size d (K8e w' (w.heap.size+1) (.int .i64 x.net.inputs) (.slice SA sn sc) (.slice LA ln lc) (.slice OA on oc) (.slice BA bn bc) (.slice CA cn cc) (.slice PA pn pc) (.slice RA rn rc)))):=fun v g=>⟨(g.cell (p:=⟨w.heap.size,0,none⟩) H).trans x0,(g.cell (p:=⟨w.heap.size,1,none⟩) H).trans x1,(g.cell (p:=⟨w.heap.size,2,none⟩) H).trans V,(g.cell (p:=⟨w.heap.size,3,none⟩) H).trans x3,(g.cell (p:=⟨w.heap.size+1,0,none⟩) D).trans y0,(g.cell (p:=⟨w.heap.size+1,1,none⟩) D).trans y1,(g.cell (p:=⟨w.heap.size+1,2,none⟩) D).trans W,(g.cell (p:=⟨w.heap.size+1,3,none⟩) D).trans y3,(g.cell (p:=⟨w.heap.size+1,4,none⟩) D).trans y4,(g.cell (p:=⟨w.heap.size+1,5,none⟩) D).trans y5,(g.cell (p:=⟨w.heap.size+1,6,none⟩) D).trans Z,(g.cell (p:=⟨w.heap.size+1,7,none⟩) D).trans Y⟩
     have q:=(Below.refl z.heap.size z).drew
     have J:=Hd (fun (v:World) (g:Below z.heap.size z v)=>(by have h:=lM x.net SA LA OA sn sc ln lc on oc x.blocks BA bn bc v (HN.out.below (aA u.out g)) (HB.out.below (aA u.out g)) ax.out;rwa [ae I.out] at h:Calls Tryz.prog 45 #[jE x.net SA LA OA sn sc ln lc on oc,.slice BA bn bc] v fun e w'=>e = .returned (.bool true)/\Below v.heap.size v w'))
     have U:=Hd (fun (v:World) (g:Below z.heap.size z v)=>oV x.net SA LA OA sn sc ln lc on oc x.blocks BA bn bc v (HN.out.below (aA u.out g)) (HB.out.below (aA u.out g)) I.out)
     have R:=Hd (fun (v:World) (g:Below z.heap.size z v) (A:Option Addr) (n c:Nat) (h:RdC v v.heap.size (ah (eY x.net x.blocks)) (.slice A n c))=>(by have h:=l5 x.conns (eY x.net x.blocks) CA A cn cc n c v (HC.out.below (aA u.out g)) h aL aq.out;rwa [ae Q.out] at h:Calls Tryz.prog 46 #[.slice CA cn cc,.slice A n c] v fun e w'=>e = .returned (.bool true)/\Below v.heap.size v w'))
     have aw:=Hd (fun (v:World) (g:Below z.heap.size z v)=>qX x.blocks BA bn bc v (HB.out.below (aA u.out g)) aV)
     have aC:=Hd (fun (v:World) (g:Below z.heap.size z v) (A:Option Addr) (c:Nat) (h:dP v A bn (x.blocks.map Blk.kind))=>(by have h:=qY d (x.blocks.map Blk.kind) x.place A PA bn c pn pc v h (HP.out.ints.below (aA u.out g)) aU aP;rwa [ae ap.out] at h:Calls Tryz.prog 48 #[.agg (dv d),.slice A bn c,.slice PA pn pc] v fun e w'=>e = .returned (.bool true)/\Below v.heap.size v w'))
     have aX:=Hd (fun (v:World) (g:Below z.heap.size z v)=>(by have h:=si d x.place x.conns x.routes PA CA RA pn pc cn cc rn rc v (HP.out.ints.below (aA u.out g)) (HC.out.below (aA u.out g)) (a4.out.below (aA u.out g)) (by omega) aq.out a0.out;rwa [ae az.out] at h:Calls Tryz.prog 50 #[.agg (dv d),.slice PA pn pc,.slice CA cn cc,.slice RA rn rc] v fun e w'=>e = .returned (.bool true)/\Below v.heap.size v w'))
     go_region_held3 (fun w'=>KD w' w.heap.size d (K8e w' (w.heap.size+1) (.int .i64 x.net.inputs) (.slice SA sn sc) (.slice LA ln lc) (.slice OA on oc) (.slice BA bn bc) (.slice CA cn cc) (.slice PA pn pc) (.slice RA rn rc)))
      (first|exact j.out _ q)
      ((first
      | (go_at_call 45;(with_reducible refine (J.out _ q).mono ?_);rintro _ w5 ⟨rfl,B⟩;replace q:=aA q B;clear B)
      | (go_at_call 47;(with_reducible refine (U.out _ q).mono ?_);rintro e5 w5 ⟨A5,n5,c5,rfl,o5,B⟩;have O5:=Hd o5.rd;clear o5;replace q:=aA q B;clear B)
      | (go_at_call 46;(with_reducible refine (R.out _ q A5 n5 c5 O5.out).mono ?_);rintro _ w6 ⟨rfl,B⟩;replace q:=aA q B;clear B)
      | (go_at_call 49;(with_reducible refine (aw.out _ q).mono ?_);rintro e7 w7 ⟨A7,c7,rfl,o7,B⟩;have O7:=Hd o7.ints;clear o7;replace q:=aA q B;clear B)
      | (go_at_call 48;(with_reducible refine (aC.out _ q A7 c7 O7.out).mono ?_);rintro _ w8 ⟨rfl,B⟩;replace q:=aA q B;clear B)
      | (go_at_call 50;(with_reducible refine (aX.out _ q).mono ?_);rintro _ w4 ⟨rfl,B⟩;replace q:=aA q B;clear B)))
     have HD:=Hd (aA u.out q)
     clear q x0 x1 V x3 H y0 y1 W y3 y4 y5 Z Y D j
     go_wp2_with fail
     go_ret
     exact ⟨dU HR.out,HD.out⟩
    have az:=Hd aE
    have HR:Hid (¬jB d x):=fun h=>az.out h.routes
    clear aE
    go_enter Tryz.func11,Tryz.ntmps11
    go_upto_region 1 with fail
    generalize (w.alloc (.cells (dv d) 36)).alloc (.cells #[.int .i64 x.net.inputs,.slice SA sn sc,.slice LA ln lc,.slice OA on oc,.slice BA bn bc,.slice CA cn cc,.slice PA pn pc,.slice RA rn rc] 46)=z at *
    obtain ⟨x0,x1,V,x3,H⟩:=cO ay.out
    obtain ⟨y0,y1,W,y3,y4,y5,Z,Y,D⟩:=mK av.out
    have j:Hid (∀w',Below z.heap.size z w'→(KD w' w.heap.size d (K8e w' (w.heap.size+1) (.int .i64 x.net.inputs) (.slice SA sn sc) (.slice LA ln lc) (.slice OA on oc) (.slice BA bn bc) (.slice CA cn cc) (.slice PA pn pc) (.slice RA rn rc)))):=fun v g=>⟨(g.cell (p:=⟨w.heap.size,0,none⟩) H).trans x0,(g.cell (p:=⟨w.heap.size,1,none⟩) H).trans x1,(g.cell (p:=⟨w.heap.size,2,none⟩) H).trans V,(g.cell (p:=⟨w.heap.size,3,none⟩) H).trans x3,(g.cell (p:=⟨w.heap.size+1,0,none⟩) D).trans y0,(g.cell (p:=⟨w.heap.size+1,1,none⟩) D).trans y1,(g.cell (p:=⟨w.heap.size+1,2,none⟩) D).trans W,(g.cell (p:=⟨w.heap.size+1,3,none⟩) D).trans y3,(g.cell (p:=⟨w.heap.size+1,4,none⟩) D).trans y4,(g.cell (p:=⟨w.heap.size+1,5,none⟩) D).trans y5,(g.cell (p:=⟨w.heap.size+1,6,none⟩) D).trans Z,(g.cell (p:=⟨w.heap.size+1,7,none⟩) D).trans Y⟩
    have q:=(Below.refl z.heap.size z).drew
    have J:=Hd (fun (v:World) (g:Below z.heap.size z v)=>(by have h:=lM x.net SA LA OA sn sc ln lc on oc x.blocks BA bn bc v (HN.out.below (aA u.out g)) (HB.out.below (aA u.out g)) ax.out;rwa [ae I.out] at h:Calls Tryz.prog 45 #[jE x.net SA LA OA sn sc ln lc on oc,.slice BA bn bc] v fun e w'=>e = .returned (.bool true)/\Below v.heap.size v w'))
    have U:=Hd (fun (v:World) (g:Below z.heap.size z v)=>oV x.net SA LA OA sn sc ln lc on oc x.blocks BA bn bc v (HN.out.below (aA u.out g)) (HB.out.below (aA u.out g)) I.out)
    have R:=Hd (fun (v:World) (g:Below z.heap.size z v) (A:Option Addr) (n c:Nat) (h:RdC v v.heap.size (ah (eY x.net x.blocks)) (.slice A n c))=>(by have h:=l5 x.conns (eY x.net x.blocks) CA A cn cc n c v (HC.out.below (aA u.out g)) h aL aq.out;rwa [ae Q.out] at h:Calls Tryz.prog 46 #[.slice CA cn cc,.slice A n c] v fun e w'=>e = .returned (.bool true)/\Below v.heap.size v w'))
    have aw:=Hd (fun (v:World) (g:Below z.heap.size z v)=>qX x.blocks BA bn bc v (HB.out.below (aA u.out g)) aV)
    have aC:=Hd (fun (v:World) (g:Below z.heap.size z v) (A:Option Addr) (c:Nat) (h:dP v A bn (x.blocks.map Blk.kind))=>(by have h:=qY d (x.blocks.map Blk.kind) x.place A PA bn c pn pc v h (HP.out.ints.below (aA u.out g)) aU aP;rwa [ae ap.out] at h:Calls Tryz.prog 48 #[.agg (dv d),.slice A bn c,.slice PA pn pc] v fun e w'=>e = .returned (.bool true)/\Below v.heap.size v w'))
    have aX:=Hd (fun (v:World) (g:Below z.heap.size z v)=>(by have h:=si d x.place x.conns x.routes PA CA RA pn pc cn cc rn rc v (HP.out.ints.below (aA u.out g)) (HC.out.below (aA u.out g)) (a4.out.below (aA u.out g)) (by omega) aq.out a0.out;rwa [bJ az.out] at h:Calls Tryz.prog 50 #[.agg (dv d),.slice PA pn pc,.slice CA cn cc,.slice RA rn rc] v fun e w'=>e = .returned (.bool false)/\Below v.heap.size v w'))
    go_region_held3 (fun w'=>KD w' w.heap.size d (K8e w' (w.heap.size+1) (.int .i64 x.net.inputs) (.slice SA sn sc) (.slice LA ln lc) (.slice OA on oc) (.slice BA bn bc) (.slice CA cn cc) (.slice PA pn pc) (.slice RA rn rc)))
     (first|exact j.out _ q)
     ((first
     | (go_at_call 45;(with_reducible refine (J.out _ q).mono ?_);rintro _ w5 ⟨rfl,B⟩;replace q:=aA q B;clear B)
     | (go_at_call 47;(with_reducible refine (U.out _ q).mono ?_);rintro e5 w5 ⟨A5,n5,c5,rfl,o5,B⟩;have O5:=Hd o5.rd;clear o5;replace q:=aA q B;clear B)
     | (go_at_call 46;(with_reducible refine (R.out _ q A5 n5 c5 O5.out).mono ?_);rintro _ w6 ⟨rfl,B⟩;replace q:=aA q B;clear B)
     | (go_at_call 49;(with_reducible refine (aw.out _ q).mono ?_);rintro e7 w7 ⟨A7,c7,rfl,o7,B⟩;have O7:=Hd o7.ints;clear o7;replace q:=aA q B;clear B)
     | (go_at_call 48;(with_reducible refine (aC.out _ q A7 c7 O7.out).mono ?_);rintro _ w8 ⟨rfl,B⟩;replace q:=aA q B;clear B)
     | (go_at_call 50;(with_reducible refine (aX.out _ q).mono ?_);rintro _ w4 ⟨rfl,B⟩;replace q:=aA q B;clear B)))
    have HD:=Hd (aA u.out q)
    clear q x0 x1 V x3 H y0 y1 W y3 y4 y5 Z Y D j
    go_wp2_with fail
    go_ret
    exact ⟨aO HR.out,HD.out⟩
   have ap:=Hd aj
   have HR:Hid (¬jB d x):=fun h=>ap.out h.place
   clear aj
   go_enter Tryz.func11,Tryz.ntmps11
   go_upto_region 1 with fail
   generalize (w.alloc (.cells (dv d) 36)).alloc (.cells #[.int .i64 x.net.inputs,.slice SA sn sc,.slice LA ln lc,.slice OA on oc,.slice BA bn bc,.slice CA cn cc,.slice PA pn pc,.slice RA rn rc] 46)=z at *
   obtain ⟨x0,x1,V,x3,H⟩:=cO ay.out
   obtain ⟨y0,y1,W,y3,y4,y5,Z,Y,D⟩:=mK av.out
   have j:Hid (∀w',Below z.heap.size z w'→(KD w' w.heap.size d (K8e w' (w.heap.size+1) (.int .i64 x.net.inputs) (.slice SA sn sc) (.slice LA ln lc) (.slice OA on oc) (.slice BA bn bc) (.slice CA cn cc) (.slice PA pn pc) (.slice RA rn rc)))):=fun v g=>⟨(g.cell (p:=⟨w.heap.size,0,none⟩) H).trans x0,(g.cell (p:=⟨w.heap.size,1,none⟩) H).trans x1,(g.cell (p:=⟨w.heap.size,2,none⟩) H).trans V,(g.cell (p:=⟨w.heap.size,3,none⟩) H).trans x3,(g.cell (p:=⟨w.heap.size+1,0,none⟩) D).trans y0,(g.cell (p:=⟨w.heap.size+1,1,none⟩) D).trans y1,(g.cell (p:=⟨w.heap.size+1,2,none⟩) D).trans W,(g.cell (p:=⟨w.heap.size+1,3,none⟩) D).trans y3,(g.cell (p:=⟨w.heap.size+1,4,none⟩) D).trans y4,(g.cell (p:=⟨w.heap.size+1,5,none⟩) D).trans y5,(g.cell (p:=⟨w.heap.size+1,6,none⟩) D).trans Z,(g.cell (p:=⟨w.heap.size+1,7,none⟩) D).trans Y⟩
   have q:=(Below.refl z.heap.size z).drew
   have J:=Hd (fun (v:World) (g:Below z.heap.size z v)=>(by have h:=lM x.net SA LA OA sn sc ln lc on oc x.blocks BA bn bc v (HN.out.below (aA u.out g)) (HB.out.below (aA u.out g)) ax.out;rwa [ae I.out] at h:Calls Tryz.prog 45 #[jE x.net SA LA OA sn sc ln lc on oc,.slice BA bn bc] v fun e w'=>e = .returned (.bool true)/\Below v.heap.size v w'))
   have U:=Hd (fun (v:World) (g:Below z.heap.size z v)=>oV x.net SA LA OA sn sc ln lc on oc x.blocks BA bn bc v (HN.out.below (aA u.out g)) (HB.out.below (aA u.out g)) I.out)
   have R:=Hd (fun (v:World) (g:Below z.heap.size z v) (A:Option Addr) (n c:Nat) (h:RdC v v.heap.size (ah (eY x.net x.blocks)) (.slice A n c))=>(by have h:=l5 x.conns (eY x.net x.blocks) CA A cn cc n c v (HC.out.below (aA u.out g)) h aL aq.out;rwa [ae Q.out] at h:Calls Tryz.prog 46 #[.slice CA cn cc,.slice A n c] v fun e w'=>e = .returned (.bool true)/\Below v.heap.size v w'))
   have aw:=Hd (fun (v:World) (g:Below z.heap.size z v)=>qX x.blocks BA bn bc v (HB.out.below (aA u.out g)) aV)
   have aC:=Hd (fun (v:World) (g:Below z.heap.size z v) (A:Option Addr) (c:Nat) (h:dP v A bn (x.blocks.map Blk.kind))=>(by have h:=qY d (x.blocks.map Blk.kind) x.place A PA bn c pn pc v h (HP.out.ints.below (aA u.out g)) aU aP;rwa [bJ ap.out] at h:Calls Tryz.prog 48 #[.agg (dv d),.slice A bn c,.slice PA pn pc] v fun e w'=>e = .returned (.bool false)/\Below v.heap.size v w'))
   refine wp_region_held_drew (S:=(fun w'=>KD w' w.heap.size d (K8e w' (w.heap.size+1) (.int .i64 x.net.inputs) (.slice SA sn sc) (.slice LA ln lc) (.slice OA on oc) (.slice BA bn bc) (.slice CA cn cc) (.slice PA pn pc) (.slice RA rn rc)))) (by kernel_rfl) ?_ (fun hHeld=>?_)
   ·(try dsimp only)
    first|exact j.out _ q
   refine onW 0 opA hHeld ?_
   refine onW 1 (opB opA) hHeld ?_
   refine onW 2 (opB (opB opA)) hHeld ?_
   refine onW 3 (opB (opB (opB opA))) hHeld ?_
   refine ig (i:=4) (opC opA) (fun K G=>?_)
   go_simp
   (go_at_call 45;(with_reducible refine (J.out _ q).mono ?_);rintro _ w5 ⟨rfl,B⟩;replace q:=aA q B;clear B)
   first|refine G.out _ _ ?_ (fun hHeld=>?_)|(go_wp2_with fail;refine G.out _ _ ?_ (fun hHeld=>?_))
   ·(try dsimp only)
    first|exact j.out _ q
   clear G K
   try simp only [Act.put,List.setIfInBounds_toArray,List.set_cons_zero,List.set_cons_succ]
   refine onW 5 (opC (opB opA)) hHeld ?_
   refine onW 6 (opC (opB (opB opA))) hHeld ?_
   refine onW 7 (opC (opB (opB (opB opA)))) hHeld ?_
   refine onW 8 (opC (opC opA)) hHeld ?_
   refine onW 9 (opC (opC (opB opA))) hHeld ?_
   refine onW 10 (opC (opC (opB (opB opA)))) hHeld ?_
   refine onW 11 (opC (opC (opB (opB (opB opA))))) hHeld ?_
   refine ig (i:=12) (opC (opC (opC opA))) (fun K G=>?_)
   go_simp
   (go_at_call 47;(with_reducible refine (U.out _ q).mono ?_);rintro e5 w5 ⟨A5,n5,c5,rfl,o5,B⟩;have O5:=Hd o5.rd;clear o5;replace q:=aA q B;clear B)
   first|refine G.out _ _ ?_ (fun hHeld=>?_)|(go_wp2_with fail;refine G.out _ _ ?_ (fun hHeld=>?_))
   ·(try dsimp only)
    first|exact j.out _ q
   clear G K
   try simp only [Act.put,List.setIfInBounds_toArray,List.set_cons_zero,List.set_cons_succ]
   refine ig (i:=13) (opC (opC (opC (opB opA)))) (fun K G=>?_)
   go_simp
   (go_at_call 46;(with_reducible refine (R.out _ q A5 n5 c5 O5.out).mono ?_);rintro _ w6 ⟨rfl,B⟩;replace q:=aA q B;clear B)
   first|refine G.out _ _ ?_ (fun hHeld=>?_)|(go_wp2_with fail;refine G.out _ _ ?_ (fun hHeld=>?_))
   ·(try dsimp only)
    first|exact j.out _ q
   clear G K
   try simp only [Act.put,List.setIfInBounds_toArray,List.set_cons_zero,List.set_cons_succ]
   refine onW 14 (opC (opC (opC (opB (opB opA))))) hHeld ?_
   refine onW 15 (opC (opC (opC (opB (opB (opB opA)))))) hHeld ?_
   refine onW 16 (opD opA) hHeld ?_
   refine onW 17 (opD (opB opA)) hHeld ?_
   refine onW 18 (opD (opB (opB opA))) hHeld ?_
   refine onW 20 (opD (opC opA)) hHeld ?_
   refine onW 21 (opD (opC (opB opA))) hHeld ?_
   refine ig (i:=19) (opD (opB (opB (opB opA)))) (fun K G=>?_)
   go_simp
   (go_at_call 49;(with_reducible refine (aw.out _ q).mono ?_);rintro e7 w7 ⟨A7,c7,rfl,o7,B⟩;have O7:=Hd o7.ints;clear o7;replace q:=aA q B;clear B)
   first|refine G.out _ _ ?_ (fun hHeld=>?_)|(go_wp2_with fail;refine G.out _ _ ?_ (fun hHeld=>?_))
   ·(try dsimp only)
    first|exact j.out _ q
   clear G K
   try simp only [Act.put,List.setIfInBounds_toArray,List.set_cons_zero,List.set_cons_succ]
   refine ig (i:=22) (opD (opC (opB (opB opA)))) (fun K G=>?_)
   go_simp
   (go_at_call 48;(with_reducible refine (aC.out _ q A7 c7 O7.out).mono ?_);rintro _ w8 ⟨rfl,B⟩;replace q:=aA q B;clear B)
   first|refine G.out _ _ ?_ (fun hHeld=>?_)|(go_wp2_with fail;refine G.out _ _ ?_ (fun hHeld=>?_))
   ·(try dsimp only)
    first|exact j.out _ q
   clear G K
   try simp only [Act.put,List.setIfInBounds_toArray,List.set_cons_zero,List.set_cons_succ]
   refine onW 23 (opD (opC (opB (opB (opB opA))))) hHeld ?_
   refine onW 24 (opD (opC (opC opA))) hHeld ?_
   refine bZ 25 (opD (opC (opC (opB opA)))) hHeld ?_
   refine bZ 26 (opD (opC (opC (opB (opB opA))))) hHeld ?_
   refine bZ 27 (opD (opC (opC (opB (opB (opB opA)))))) hHeld ?_
   refine bZ 28 (opD (opC (opC (opC opA)))) hHeld ?_
   refine bZ 29 (opD (opC (opC (opC (opB opA))))) hHeld ?_
   refine bZ 30 (opD (opC (opC (opC (opB (opB opA)))))) hHeld ?_
   refine bZ 31 (opD (opC (opC (opC (opB (opB (opB opA))))))) hHeld ?_
   refine bZ 32 (opD (opD opA)) hHeld ?_
   refine onW 33 (opD (opD (opB opA))) hHeld ?_
   refine onW 34 (opD (opD (opB (opB opA)))) hHeld ?_
   refine wpAnyH_done (by kernel_rfl) ?_ _
   have HD:=Hd (aA u.out q)
   clear q x0 x1 V x3 H y0 y1 W y3 y4 y5 Z Y D j
   go_wp2_with fail
   go_ret
   exact ⟨aO HR.out,HD.out⟩
  have Q:=Hd aJ
  have HR:Hid (¬jB d x):=fun h=>Q.out h.conns
  clear aJ
  go_enter Tryz.func11,Tryz.ntmps11
  go_upto_region 1 with fail
  generalize (w.alloc (.cells (dv d) 36)).alloc (.cells #[.int .i64 x.net.inputs,.slice SA sn sc,.slice LA ln lc,.slice OA on oc,.slice BA bn bc,.slice CA cn cc,.slice PA pn pc,.slice RA rn rc] 46)=z at *
  obtain ⟨x0,x1,V,x3,H⟩:=cO ay.out
  obtain ⟨y0,y1,W,y3,y4,y5,Z,Y,D⟩:=mK av.out
  have j:Hid (∀w',Below z.heap.size z w'→(KD w' w.heap.size d (K8e w' (w.heap.size+1) (.int .i64 x.net.inputs) (.slice SA sn sc) (.slice LA ln lc) (.slice OA on oc) (.slice BA bn bc) (.slice CA cn cc) (.slice PA pn pc) (.slice RA rn rc)))):=fun v g=>⟨(g.cell (p:=⟨w.heap.size,0,none⟩) H).trans x0,(g.cell (p:=⟨w.heap.size,1,none⟩) H).trans x1,(g.cell (p:=⟨w.heap.size,2,none⟩) H).trans V,(g.cell (p:=⟨w.heap.size,3,none⟩) H).trans x3,(g.cell (p:=⟨w.heap.size+1,0,none⟩) D).trans y0,(g.cell (p:=⟨w.heap.size+1,1,none⟩) D).trans y1,(g.cell (p:=⟨w.heap.size+1,2,none⟩) D).trans W,(g.cell (p:=⟨w.heap.size+1,3,none⟩) D).trans y3,(g.cell (p:=⟨w.heap.size+1,4,none⟩) D).trans y4,(g.cell (p:=⟨w.heap.size+1,5,none⟩) D).trans y5,(g.cell (p:=⟨w.heap.size+1,6,none⟩) D).trans Z,(g.cell (p:=⟨w.heap.size+1,7,none⟩) D).trans Y⟩
  have q:=(Below.refl z.heap.size z).drew
  have J:=Hd (fun (v:World) (g:Below z.heap.size z v)=>(by have h:=lM x.net SA LA OA sn sc ln lc on oc x.blocks BA bn bc v (HN.out.below (aA u.out g)) (HB.out.below (aA u.out g)) ax.out;rwa [ae I.out] at h:Calls Tryz.prog 45 #[jE x.net SA LA OA sn sc ln lc on oc,.slice BA bn bc] v fun e w'=>e = .returned (.bool true)/\Below v.heap.size v w'))
  have U:=Hd (fun (v:World) (g:Below z.heap.size z v)=>oV x.net SA LA OA sn sc ln lc on oc x.blocks BA bn bc v (HN.out.below (aA u.out g)) (HB.out.below (aA u.out g)) I.out)
  have R:=Hd (fun (v:World) (g:Below z.heap.size z v) (A:Option Addr) (n c:Nat) (h:RdC v v.heap.size (ah (eY x.net x.blocks)) (.slice A n c))=>(by have h:=l5 x.conns (eY x.net x.blocks) CA A cn cc n c v (HC.out.below (aA u.out g)) h aL aq.out;rwa [bJ Q.out] at h:Calls Tryz.prog 46 #[.slice CA cn cc,.slice A n c] v fun e w'=>e = .returned (.bool false)/\Below v.heap.size v w'))
  refine wp_region_held_drew (S:=(fun w'=>KD w' w.heap.size d (K8e w' (w.heap.size+1) (.int .i64 x.net.inputs) (.slice SA sn sc) (.slice LA ln lc) (.slice OA on oc) (.slice BA bn bc) (.slice CA cn cc) (.slice PA pn pc) (.slice RA rn rc)))) (by kernel_rfl) ?_ (fun hHeld=>?_)
  ·(try dsimp only)
   first|exact j.out _ q
  refine onW 0 opA hHeld ?_
  refine onW 1 (opB opA) hHeld ?_
  refine onW 2 (opB (opB opA)) hHeld ?_
  refine onW 3 (opB (opB (opB opA))) hHeld ?_
  refine ig (i:=4) (opC opA) (fun K G=>?_)
  go_simp
  (go_at_call 45;(with_reducible refine (J.out _ q).mono ?_);rintro _ w5 ⟨rfl,B⟩;replace q:=aA q B;clear B)
  first|refine G.out _ _ ?_ (fun hHeld=>?_)|(go_wp2_with fail;refine G.out _ _ ?_ (fun hHeld=>?_))
  ·(try dsimp only)
   first|exact j.out _ q
  clear G K
  try simp only [Act.put,List.setIfInBounds_toArray,List.set_cons_zero,List.set_cons_succ]
  refine onW 5 (opC (opB opA)) hHeld ?_
  refine onW 6 (opC (opB (opB opA))) hHeld ?_
  refine onW 7 (opC (opB (opB (opB opA)))) hHeld ?_
  refine onW 8 (opC (opC opA)) hHeld ?_
  refine onW 9 (opC (opC (opB opA))) hHeld ?_
  refine onW 10 (opC (opC (opB (opB opA)))) hHeld ?_
  refine onW 11 (opC (opC (opB (opB (opB opA))))) hHeld ?_
  refine ig (i:=12) (opC (opC (opC opA))) (fun K G=>?_)
  go_simp
  (go_at_call 47;(with_reducible refine (U.out _ q).mono ?_);rintro e5 w5 ⟨A5,n5,c5,rfl,o5,B⟩;have O5:=Hd o5.rd;clear o5;replace q:=aA q B;clear B)
  first|refine G.out _ _ ?_ (fun hHeld=>?_)|(go_wp2_with fail;refine G.out _ _ ?_ (fun hHeld=>?_))
  ·(try dsimp only)
   first|exact j.out _ q
  clear G K
  try simp only [Act.put,List.setIfInBounds_toArray,List.set_cons_zero,List.set_cons_succ]
  refine ig (i:=13) (opC (opC (opC (opB opA)))) (fun K G=>?_)
  go_simp
  (go_at_call 46;(with_reducible refine (R.out _ q A5 n5 c5 O5.out).mono ?_);rintro _ w6 ⟨rfl,B⟩;replace q:=aA q B;clear B)
  first|refine G.out _ _ ?_ (fun hHeld=>?_)|(go_wp2_with fail;refine G.out _ _ ?_ (fun hHeld=>?_))
  ·(try dsimp only)
   first|exact j.out _ q
  clear G K
  try simp only [Act.put,List.setIfInBounds_toArray,List.set_cons_zero,List.set_cons_succ]
  refine onW 14 (opC (opC (opC (opB (opB opA))))) hHeld ?_
  refine onW 15 (opC (opC (opC (opB (opB (opB opA)))))) hHeld ?_
  refine bZ 16 (opD opA) hHeld ?_
  refine bZ 17 (opD (opB opA)) hHeld ?_
  refine bZ 18 (opD (opB (opB opA))) hHeld ?_
  refine bZ 19 (opD (opB (opB (opB opA)))) hHeld ?_
  refine bZ 20 (opD (opC opA)) hHeld ?_
  refine bZ 21 (opD (opC (opB opA))) hHeld ?_
  refine bZ 22 (opD (opC (opB (opB opA)))) hHeld ?_
  refine onW 23 (opD (opC (opB (opB (opB opA))))) hHeld ?_
  refine onW 24 (opD (opC (opC opA))) hHeld ?_
  refine bZ 25 (opD (opC (opC (opB opA)))) hHeld ?_
  refine bZ 26 (opD (opC (opC (opB (opB opA))))) hHeld ?_
  refine bZ 27 (opD (opC (opC (opB (opB (opB opA)))))) hHeld ?_
  refine bZ 28 (opD (opC (opC (opC opA)))) hHeld ?_
  refine bZ 29 (opD (opC (opC (opC (opB opA))))) hHeld ?_
  refine bZ 30 (opD (opC (opC (opC (opB (opB opA)))))) hHeld ?_
  refine bZ 31 (opD (opC (opC (opC (opB (opB (opB opA))))))) hHeld ?_
  refine bZ 32 (opD (opD opA)) hHeld ?_
  refine onW 33 (opD (opD (opB opA))) hHeld ?_
  refine onW 34 (opD (opD (opB (opB opA)))) hHeld ?_
  refine wpAnyH_done (by kernel_rfl) ?_ _
  have HD:=Hd (aA u.out q)
  clear q x0 x1 V x3 H y0 y1 W y3 y4 y5 Z Y D j
  go_wp2_with fail
  go_ret
  exact ⟨aO HR.out,HD.out⟩
 have I:=Hd aK
 have HR:Hid (¬jB d x):=fun h=>I.out h.pack
 clear aK
 go_enter Tryz.func11,Tryz.ntmps11
 go_upto_region 1 with fail
 generalize (w.alloc (.cells (dv d) 36)).alloc (.cells #[.int .i64 x.net.inputs,.slice SA sn sc,.slice LA ln lc,.slice OA on oc,.slice BA bn bc,.slice CA cn cc,.slice PA pn pc,.slice RA rn rc] 46)=z at *
 obtain ⟨x0,x1,V,x3,H⟩:=cO ay.out
 obtain ⟨y0,y1,W,y3,y4,y5,Z,Y,D⟩:=mK av.out
 have j:Hid (∀w',Below z.heap.size z w'→(KD w' w.heap.size d (K8e w' (w.heap.size+1) (.int .i64 x.net.inputs) (.slice SA sn sc) (.slice LA ln lc) (.slice OA on oc) (.slice BA bn bc) (.slice CA cn cc) (.slice PA pn pc) (.slice RA rn rc)))):=fun v g=>⟨(g.cell (p:=⟨w.heap.size,0,none⟩) H).trans x0,(g.cell (p:=⟨w.heap.size,1,none⟩) H).trans x1,(g.cell (p:=⟨w.heap.size,2,none⟩) H).trans V,(g.cell (p:=⟨w.heap.size,3,none⟩) H).trans x3,(g.cell (p:=⟨w.heap.size+1,0,none⟩) D).trans y0,(g.cell (p:=⟨w.heap.size+1,1,none⟩) D).trans y1,(g.cell (p:=⟨w.heap.size+1,2,none⟩) D).trans W,(g.cell (p:=⟨w.heap.size+1,3,none⟩) D).trans y3,(g.cell (p:=⟨w.heap.size+1,4,none⟩) D).trans y4,(g.cell (p:=⟨w.heap.size+1,5,none⟩) D).trans y5,(g.cell (p:=⟨w.heap.size+1,6,none⟩) D).trans Z,(g.cell (p:=⟨w.heap.size+1,7,none⟩) D).trans Y⟩
 have q:=(Below.refl z.heap.size z).drew
 have J:=Hd (fun (v:World) (g:Below z.heap.size z v)=>(by have h:=lM x.net SA LA OA sn sc ln lc on oc x.blocks BA bn bc v (HN.out.below (aA u.out g)) (HB.out.below (aA u.out g)) ax.out;rwa [bJ I.out] at h:Calls Tryz.prog 45 #[jE x.net SA LA OA sn sc ln lc on oc,.slice BA bn bc] v fun e w'=>e = .returned (.bool false)/\Below v.heap.size v w'))
 refine wp_region_held_drew (S:=(fun w'=>KD w' w.heap.size d (K8e w' (w.heap.size+1) (.int .i64 x.net.inputs) (.slice SA sn sc) (.slice LA ln lc) (.slice OA on oc) (.slice BA bn bc) (.slice CA cn cc) (.slice PA pn pc) (.slice RA rn rc)))) (by kernel_rfl) ?_ (fun hHeld=>?_)
 ·(try dsimp only)
  first|exact j.out _ q
 refine onW 0 opA hHeld ?_
 refine onW 1 (opB opA) hHeld ?_
 refine onW 2 (opB (opB opA)) hHeld ?_
 refine onW 3 (opB (opB (opB opA))) hHeld ?_
 refine ig (i:=4) (opC opA) (fun K G=>?_)
 go_simp
 (go_at_call 45;(with_reducible refine (J.out _ q).mono ?_);rintro _ w5 ⟨rfl,B⟩;replace q:=aA q B;clear B)
 first|refine G.out _ _ ?_ (fun hHeld=>?_)|(go_wp2_with fail;refine G.out _ _ ?_ (fun hHeld=>?_))
 ·(try dsimp only)
  first|exact j.out _ q
 clear G K
 try simp only [Act.put,List.setIfInBounds_toArray,List.set_cons_zero,List.set_cons_succ]
 refine onW 5 (opC (opB opA)) hHeld ?_
 refine bZ 6 (opC (opB (opB opA))) hHeld ?_
 refine bZ 7 (opC (opB (opB (opB opA)))) hHeld ?_
 refine bZ 8 (opC (opC opA)) hHeld ?_
 refine bZ 9 (opC (opC (opB opA))) hHeld ?_
 refine bZ 10 (opC (opC (opB (opB opA)))) hHeld ?_
 refine bZ 11 (opC (opC (opB (opB (opB opA))))) hHeld ?_
 refine bZ 12 (opC (opC (opC opA))) hHeld ?_
 refine bZ 13 (opC (opC (opC (opB opA)))) hHeld ?_
 refine onW 14 (opC (opC (opC (opB (opB opA))))) hHeld ?_
 refine onW 15 (opC (opC (opC (opB (opB (opB opA)))))) hHeld ?_
 refine bZ 16 (opD opA) hHeld ?_
 refine bZ 17 (opD (opB opA)) hHeld ?_
 refine bZ 18 (opD (opB (opB opA))) hHeld ?_
 refine bZ 19 (opD (opB (opB (opB opA)))) hHeld ?_
 refine bZ 20 (opD (opC opA)) hHeld ?_
 refine bZ 21 (opD (opC (opB opA))) hHeld ?_
 refine bZ 22 (opD (opC (opB (opB opA)))) hHeld ?_
 refine onW 23 (opD (opC (opB (opB (opB opA))))) hHeld ?_
 refine onW 24 (opD (opC (opC opA))) hHeld ?_
 refine bZ 25 (opD (opC (opC (opB opA)))) hHeld ?_
 refine bZ 26 (opD (opC (opC (opB (opB opA))))) hHeld ?_
 refine bZ 27 (opD (opC (opC (opB (opB (opB opA)))))) hHeld ?_
 refine bZ 28 (opD (opC (opC (opC opA)))) hHeld ?_
 refine bZ 29 (opD (opC (opC (opC (opB opA))))) hHeld ?_
 refine bZ 30 (opD (opC (opC (opC (opB (opB opA)))))) hHeld ?_
 refine bZ 31 (opD (opC (opC (opC (opB (opB (opB opA))))))) hHeld ?_
 refine bZ 32 (opD (opD opA)) hHeld ?_
 refine onW 33 (opD (opD (opB opA))) hHeld ?_
 refine onW 34 (opD (opD (opB (opB opA)))) hHeld ?_
 refine wpAnyH_done (by kernel_rfl) ?_ _
 have HD:=Hd (aA u.out q)
 clear q x0 x1 V x3 H y0 y1 W y3 y4 y5 Z Y D j
 go_wp2_with fail
 go_ret
 exact ⟨aO HR.out,HD.out⟩
end Go.Proofs.YtofihjoanjkdmaaGreat
