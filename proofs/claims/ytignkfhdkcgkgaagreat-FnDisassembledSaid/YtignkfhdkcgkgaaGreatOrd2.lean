/- The program's order of the look-up tables: the walk. -/
import Derived.Test.YtignkfhdkcgkgaaGreatOrdP
namespace Go.Proofs.YtignkfhdkcgkgaaGreat
set_option maxRecDepth 100000
open Go.RowKit

theorem ints_cell {w:World} {g n j:Nat} {xs:List Int} {x:Int} (h:Ints w (some ⟨g,0,none⟩) n xs) (hx:xs[j]?=some x):w.cell? ⟨g,j,none⟩=some (.int .i64 x):=by
 have hj:j<n:=by rw [←h.1];exact (List.getElem?_eq_some_iff.1 hx).1
 obtain ⟨b,o,e,_,hc⟩:=h.2 (by omega)
 injection e with e
 injection e with e1 e2
 subst e1 e2
 have:=hc j hj
 rwa [Nat.zero_add,hx] at this
def lenOf:Value→Nat
 | .slice _ n _=>n
 | _=>0
theorem ordF_none {d:Dev} {ts:List Tile} {k:Nat} {pl:List Int} {lt:List Lt} (h:pick d ts pl=none):ordF d ts (k+1) pl lt=none:=by rw [ordF,h]
theorem ordF_some {d:Dev} {ts:List Tile} {k:Nat} {pl:List Int} {lt:List Lt} {x:Int} (h:pick d ts pl=some x):ordF d ts (k+1) pl lt=ordF d ts k (pl++[x]) (lt++[ltOf d ts pl x]):=by rw [ordF,h]
def OrdPost (W:World) (gT g gI gF gM gL:Nat) (d:Dev) (ts:List Tile) (In:Int) (S O:Value) (rs:List Pc) (e:Ending) (w':World):Prop:=match ordA d ts with
 | none=>e = .returned (.bool false)∧Below W.heap.size W w'
 | some (pl,lt)=>∃LA lc,e = .returned (.bool true)∧pl.length=lt.length∧Sepa W w' (trBlk gT g gI gF gM :: numPc gI 1 (insL d ts) :: numPc gF (sqB d ts) (owL d ts) :: numPc gM (ltB d ts) pl :: lnBlk gL In S (.slice LA lt.length lc) O :: .cel (celLt lt) (.slice LA lt.length lc) :: rs)
theorem ordPost_no {W w':World} {gT g gI gF gM gL:Nat} {d:Dev} {ts:List Tile} {In:Int} {S O:Value} {rs:List Pc} (h:ordA d ts=none) (hb:Below W.heap.size W w'):OrdPost W gT g gI gF gM gL d ts In S O rs (.returned (.bool false)) w':=by
 unfold OrdPost;rw [h];exact ⟨rfl,hb⟩
theorem ordPost_yes {W w':World} {gT g gI gF gM gL:Nat} {d:Dev} {ts:List Tile} {In:Int} {S O:Value} {rs:List Pc} {pl:List Int} {lt:List Lt} {LA:Option Addr} {ln lc:Nat} (h:ordA d ts=some (pl,lt)) (hp:pl.length=ln) (hl:lt.length=ln)
  (hs:Sepa W w' (trBlk gT g gI gF gM :: numPc gI 1 (insL d ts) :: numPc gF (sqB d ts) (owL d ts) :: numPc gM (ltB d ts) pl :: lnBlk gL In S (.slice LA ln lc) O :: .cel (celLt lt) (.slice LA ln lc) :: rs)):OrdPost W gT g gI gF gM gL d ts In S O rs (.returned (.bool true)) w':=by
 subst hl;unfold OrdPost;rw [h];exact ⟨LA,lc,rfl,hp,hs⟩
set_option maxHeartbeats 8000000 in
theorem order_any (W:World) (gT g gI gF gM gL:Nat) (d:Dev) (ts:List Tile) (TA:Option Addr) (m tc:Nat) (EA DA:Option Addr) (N:Nat) (In:Int) (SA:Option Addr) (sn sc:Nat) (O:Value) (OA:Option Addr) (on oc:Nat) (rs:List Pc) (w:World)
  (hO:O = .slice OA on oc) (hE:EmuAt W g d ts TA m tc EA DA N) (hN:(N:Int)=nodesOf d) (hc:CfgOk d ts) (hIn:In=((insL d ts).length:Int)) (hsn:sn=(owL d ts).length)
  (S:Sepa W w (trBlk gT g gI gF gM :: numPc gI 1 (insL d ts) :: numPc gF (sqB d ts) (owL d ts) :: numPc gM (ltB d ts) [] :: lnBlk gL In (.slice SA sn sc) (.slice none 0 0) O :: .cel (celLt []) (.slice none 0 0) :: rs)) :
  Calls Tryz.prog 74 #[.pointer (some ⟨gT,0,none⟩),.pointer (some ⟨gL,0,none⟩)] w (OrdPost W gT g gI gF gM gL d ts In (.slice SA sn sc) O rs):=by
 subst hO
 obtain ⟨b,o,_,_,_,rfl,hbW,-⟩:=emu_le (t:=0) (p:=0) hE hc (tileIn_iff.2 ⟨hc.dev,by omega,by have:=(dev_WH hc.dev).1;omega⟩) (by omega)
 have htm:=hE.tiles.tlen
 obtain ⟨hWH,hWH1,hWH2⟩:=tiles_eq hc.dev
 have hml:=hc.len
 have HE:=Lib.hid hE
 have HC:=Lib.hid hc
 have HD:=Lib.hid hc.dev
 have HS:=Lib.hid S
 have HNE:=Lib.hid hN
 have HTT:Hid (∀k:Nat,k<m→tileIn d (k:Int)=true):=fun k hk=>tileIn_iff.2 ⟨hc.dev,by omega,by omega⟩
 have hinl:(insL d ts).length≤36:=by have:=padTo_length d ts 1 ts.length;unfold insL;omega
 have howl:(owL d ts).length≤72:=by have:=owTo_length d ts ts.length;unfold owL;omega
 have hlgl:(lgL d ts).length≤72:=by have:=lgTo_length d ts.length;unfold lgL;omega
 have HLG:Hid (lgL d ts=lgTo d m):=by show _=_;unfold lgL;rw [htm]
 have HLT:Hid (ltB d ts=1+In+(sn:Int)):=by show _=_;unfold ltB;omega
 have HOA:Hid (ordA d ts=ordF d ts (lgL d ts).length [] []):=rfl
 have HTD:=Lib.hid (todo_nil d ts)
 have z0:=cell_heap (k:=0) (S.blk 0 rfl).1 rfl
 have lT:=heap_lt0 (S.blk 0 rfl).1
 have hEw:=hE.below S.bel
 have x0:=cell_heap (k:=0) hEw.box rfl
 have x1:=cell_heap (k:=1) hEw.box rfl
 have x2:=cell_heap (k:=2) hEw.box rfl
 have x3:=cell_heap (k:=3) hEw.box rfl
 have x4:=cell_heap (k:=4) hEw.box rfl
 have lE:=heap_lt0 hEw.box
 have hIn0:0≤In:=by omega
 have hIn1:In≤36:=by omega
 have hsn1:sn≤72:=by omega
 have hm36:m≤36:=by omega
 clear S hE hc hN hEw htm hml hIn hsn hWH hWH1 hWH2 hinl howl
 go_enter Tryz.func74,Tryz.ntmps74
 go_wp2_with fail
 go_loopw [5,20] (fun td i wr=>∃(k:Nat) (A:Option Addr) (n c:Nat),k≤m∧i = .int .i64 k∧td = .slice A n c∧Own w.heap.size wr A n c (lgTo d k)∧Below w.heap.size w wr) (fun _ i _=>m - (intOf i).toNat)
 case atStart=>exact ⟨0,none,0,0,by omega,rfl,rfl,Own.nil,Below.refl _ _⟩
 case round =>
  obtain ⟨k,A,n,c,hk,rfl,rfl,ho,hb⟩:=hrel
  have HO:=Lib.hid ho
  have HB:=Lib.hid hb
  have hn:n≤72:=by have h1:=lgTo_length d k;have h2:=ho.len;omega
  have hsz:=hb.size
  obtain ⟨hcc,hff⟩:=bcell hb
  clear ho hb
  by_cases hlt:k<m
  ·have hdk:decide ((k:Int)<(m:Int))=true:=by simp;omega
   have HTK:=Lib.hid (fun w'=>tileKind_any d (k:Int) w' HD.out (by omega) (by omega))
   have HG:Hid (lgTo d (k+1)=lgTo d k++if kindOf d (k:Int)=1 then [2 * (k:Int),2 * (k:Int)+1] else []):=rfl
   have i0:(0:Int)≤(k:Int):=by omega
   have i1:(k:Int)≤36:=by omega
   generalize kindOf d (k:Int)=K at *
   go_wp2_with fail
   refine (HTK.out _).mono ?_
   rintro e w1 ⟨rfl,b1⟩
   have HB1:=Lib.hid (below_tr HB.out b1)
   have HO1:=Lib.hid (HO.out.below b1)
   have hsz1:w.heap.size≤w1.heap.size:=by have:=b1.size;omega
   clear b1 hcc hff
   by_cases hK:K=1
   ·have hK1:(K==1)=true:=by simpa using hK
    have HG2:Hid (lgTo d (k+1)=lgTo d k++[2 * (k:Int),2 * (k:Int)+1]):=by show _=_;rw [HG.out,if_pos hK]
    clear hK
    go_wp2_with (at_builtin;refine wpList_pushN rfl _ _ rfl w.heap.size A n c (lgTo d k) [2 * (k:Int),2 * (k:Int)+1] 2 rfl HO1.out rfl rfl (by omega) (by omega) hsz1 HB1.out ?_;rintro g9 cap w9 o9 b9 - -)
    have R9:=Lib.hid (And.intro o9 b9)
    clear o9 b9
    go_roundw
    case rel=>exact ⟨k+1,_,_,_,by omega,by go_num,rfl,by rw [HG2.out];exact R9.out.1,R9.out.2⟩
    case measure=>simp [intOf];omega
   ·have hK1:(K==1)=false:=by simpa using hK
    have HG2:Hid (lgTo d (k+1)=lgTo d k):=by show _=_;rw [HG.out,if_neg hK,List.append_nil]
    clear hK
    go_wp2_with fail
    go_roundw
    case rel=>exact ⟨k+1,_,_,_,by omega,by go_num,rfl,by rw [HG2.out];exact HO1.out,HB1.out⟩
    case measure=>simp [intOf];omega
  ·have hkm:k=m:=by omega
   have hdk:decide ((k:Int)<(m:Int))=false:=by simp;omega
   have HSS:=Lib.hid (show Sepa W wr (.cel (celI (todoF d ts [])) (.slice A n c) :: trBlk gT g gI gF gM :: numPc gI 1 (insL d ts) :: numPc gF (sqB d ts) (owL d ts) :: numPc gM (ltB d ts) [] :: lnBlk gL In (.slice SA sn sc) (.slice none 0 0) (.slice OA on oc) :: .cel (celLt []) (.slice none 0 0) :: rs) from by rw [HTD.out,HLG.out,←hkm];exact HS.out.consOwn HB.out HO.out)
   have HNL:Hid (0+n=(lgL d ts).length):=by show _=_;rw [HLG.out,←hkm];have:=HO.out.len;omega
   clear hkm
   go_wp2_with fail
   go_loopw [5] (fun td wr=>∃(q:Nat) (A:Option Addr) (n c:Nat) (pl:List Int) (lt:List Lt) (LA:Option Addr) (lc:Nat),td = .slice A n c∧pl.length=q∧lt.length=q∧q+n=(lgL d ts).length∧ordA d ts=ordF d ts n pl lt∧Sepa W wr (.cel (celI (todoF d ts pl)) (.slice A n c) :: trBlk gT g gI gF gM :: numPc gI 1 (insL d ts) :: numPc gF (sqB d ts) (owL d ts) :: numPc gM (ltB d ts) pl :: lnBlk gL In (.slice SA sn sc) (.slice LA q lc) (.slice OA on oc) :: .cel (celLt lt) (.slice LA q lc) :: rs)) (fun td _=>lenOf td)
   case atStart=>exact ⟨0,A,n,c,[],[],none,0,rfl,rfl,rfl,HNL.out,by rw [HOA.out];congr 1;have:=HNL.out;omega,HSS.out⟩
   clear HSS HNL HO HB hsz hcc hff hdk hk hlt hn
   case round =>
    obtain ⟨q,A,n,c,pl,lt,LA,lc,rfl,hpl,hlt,hqn,hord,hs⟩:=hrel
    have HPL:=Lib.hid hpl
    have HLN:=Lib.hid hlt
    have HQN:=Lib.hid hqn
    have HORD:=Lib.hid hord
    have HSS:=Lib.hid hs
    have hn72:n≤72:=by omega
    have hq72:q≤72:=by omega
    have htl:(todoF d ts pl).length=n:=(hs.ints 0 rfl).1
    clear hpl hlt hqn hord
    by_cases hn0:n=0
    ·subst hn0
     clear hs
     go_wp2_with fail
     go_ret
     exact ordPost_yes (HORD.out.trans rfl) HPL.out HLN.out HSS.out.tail
    ·obtain ⟨gt,cur,rfl,hgt,lt0,hcur,-,hnc,hcm,-⟩:=Own.block (hs.owned 0 rfl) (by omega)
     have hdn:decide (0<n)=true:=by simp;omega
     have HTL:=Lib.hid htl
     have HCELL:=Lib.hid (hs.ints 0 rfl)
     clear hs htl hcur
     obtain ⟨wo,rfl⟩:∃x,x=wr:=⟨wr,rfl⟩
     go_wp2_with fail
     go_loopw [7,47] (fun at' i wr=>∃k:Nat,k≤n∧i = .int .i64 k∧at' = .int .i64 (-1)∧(∀(j:Nat) (y:Int),j<k→(todoF d ts pl)[j]?=some y→known d ts pl y=false)∧Below wo.heap.size wo wr) (fun _ i _=>n - (intOf i).toNat)
     case atStart=>exact ⟨0,by omega,rfl,rfl,fun j y hj=>by omega,Below.refl _ _⟩
     case round =>
      obtain ⟨k,hk,rfl,rfl,hno,hb⟩:=hrel
      have HNO:=Lib.hid hno
      have HB:=Lib.hid hb
      have hsz:=hb.size
      clear hno hb
      by_cases hlt:k<n
      ·have hdk:decide ((k:Int)<(n:Int))=true:=by simp;omega
       obtain ⟨x,hx⟩:∃x,(todoF d ts pl)[k]?=some x:=⟨_,List.getElem?_eq_getElem (by rw [HTL.out];exact hlt)⟩
       have hxm:=todo_in (List.mem_of_getElem? hx)
       have hxl:=hxm.1
       rw [HLG.out] at hxl
       obtain ⟨hx0,hx1,-⟩:=lgTo_in.1 hxl
       have HXN:=Lib.hid hxm.2
       have HX:=Lib.hid hx
       have hck:=ints_cell (HCELL.out.below HB.out) hx
       obtain ⟨tn,en,hxe,hen,htn⟩:∃tn en:Nat,x=2 * (tn:Int)+(en:Int)∧en≤1∧tn<m:=⟨(x / 2).toNat,(x % 2).toNat,by omega,by omega,by omega⟩
       have hq:x / 2=(tn:Int):=by omega
       have hr:x % 2=(en:Int):=by omega
       have hq':x.tdiv 2=(tn:Int):=by rw [Int.tdiv_eq_ediv_of_nonneg hx0];exact hq
       have hr':x.tmod 2=(en:Int):=by rw [Int.tmod_eq_emod_of_nonneg hx0];exact hr
       obtain ⟨_,_,bl,ol,q4,hTA,-,hbl,-,cL,-,-,cM,-,-⟩:=emu_le HE.out HC.out (HTT.out tn htn) hen
       injection hTA with hTA
       injection hTA with e1 e2
       subst e1 e2
       have CL:=Lib.hid cL
       have CM:=Lib.hid cM
       have HLX:=Lib.hid (leX_eq ts (tn:Int) (en:Int) (by omega) (by omega))
       have hsel:=fun w' (H:TrAt w' gT g gI gF gM d ts (some ⟨b,o,none⟩) m tc EA DA N pl)=>selected_any gT g gI gF gM d ts _ m tc EA DA N pl (tn:Int) (en:Int) w' H HNE.out HC.out (HTT.out tn htn) ⟨by omega,by omega⟩
       rw [←hxe] at HLX
       simp only [←hxe] at hsel
       have HSEL:=Lib.hid hsel
       have HLO:Hid (ltOf d ts pl x=⟨selTo d ts pl x 4,(leAt ts (tn:Int) (en:Int)).mask⟩):=by show _=_;unfold ltOf;rw [HLX.out]
       have lwr:gt<wr.heap.size:=by omega
       have i0:(0:Int)≤(k:Int):=by omega
       have i1:(k:Int)<(n:Int):=by omega
       have j0:(0:Int)≤(tn:Int):=by omega
       have j1:(tn:Int)<(m:Int):=by omega
       have j2:(0:Int)≤(en:Int):=by omega
       have j3:(en:Int)<2:=by omega
       clear hx hxm hxl hxe cL cM hsel
       generalize leAt ts (tn:Int) (en:Int)=le at *
       generalize hsl:selTo d ts pl x 4=sl at *
       have HSL:Hid (sl.length=4):=by show _=_;rw [←hsl];exact selTo_length _ _ _ _ _
       clear hsl
       cases hkn:known d ts pl x with
       | false =>
        rw [hkn] at HSEL
        have HKN:=Lib.hid hkn
        clear hkn
        go_wp2_with fail
        refine (HSEL.out _ (trAt_of HE.out (HSS.out.tail.below HB.out))).mono ?_
        rintro e w2 ⟨IA,il,ic,rfl,-,b2⟩
        have HB2:=Lib.hid (below_tr HB.out b2)
        clear b2
        go_wp2_with fail
        go_roundw
        case rel =>
         refine ⟨k+1,by omega,by go_num,rfl,fun j y hj he=>?_,HB2.out⟩
         rcases Nat.lt_or_ge j k with h|h
         ·exact HNO.out j y h he
         ·obtain rfl:j=k:=by omega
          have e:=HX.out
          rw [he] at e
          injection e with e
          rw [e]
          exact HKN.out
        case measure=>simp [intOf];omega
       | true =>
        rw [hkn] at HSEL
        have HP:Hid (pick d ts pl=some x):=find_snoc (fun j y hj he=>HNO.out j y hj he) HX.out hkn
        clear hkn
        go_wp2_with fail
        refine (HSEL.out _ (trAt_of HE.out (HSS.out.tail.below HB.out))).mono ?_
        rintro e w2 ⟨IA,il,ic,rfl,hio,b2⟩
        rw [if_pos rfl] at hio
        have hil:il=4:=by have h1:=hio.len;have h2:=HSL.out;omega
        subst hil
        have HS2:=Lib.hid ((HSS.out.below HB.out).consOwn b2 hio)
        clear b2 hio
        go_upto_region 15 with fail
        clear hck
        go_cut [] (fun wx=>Sepa W wx (.cel (celI sl) (.slice IA 4 ic) :: .cel (celI (todoF d ts pl)) (.slice (some ⟨gt,0,none⟩) n c) :: trBlk gT g gI gF gM :: numPc gI 1 (insL d ts) :: numPc gF (sqB d ts) (owL d ts) :: numPc gM (ltB d ts) (pl++[x]) :: lnBlk gL In (.slice SA sn sc) (.slice LA q lc) (.slice OA on oc) :: .cel (celLt lt) (.slice LA q lc) :: rs))
        case first =>
         have y3:=cell_heap (k:=3) (HS2.out.blk 2 rfl).1 rfl
         have l0:=cell_heap (k:=0) (HS2.out.blk 6 rfl).1 rfl
         have l1:=cell_heap (k:=1) (HS2.out.blk 6 rfl).1 rfl
         have l2:=cell_heap (k:=2) (HS2.out.blk 6 rfl).1 rfl
         have l3:=cell_heap (k:=3) (HS2.out.blk 6 rfl).1 rfl
         have p3:=heap_lt0 (HS2.out.blk 2 rfl).1
         have p6:=heap_lt0 (HS2.out.blk 6 rfl).1
         go_region_with (go_at_call 146;(with_reducible refine (lutNodes_any In SA LA OA sn sc q lc on oc _ hIn0 (by omega) (by omega) (by omega)).mono ?_);rintro e w3 ⟨rfl,b3⟩;have S3:=HS2.out.drew.below b3;have r3:=cell_heap (k:=3) (S3.blk 2 rfl).1 rfl;obtain ⟨w4,hrun,S4,-⟩:=S3.numPut 5 rfl (by have:=HPL.out;omega) x (1+In+(sn:Int)+(q:Int)) ⟨by omega,by omega⟩ (by rw [HPL.out,HLT.out]) ⟨by omega,by omega⟩ HXN.out;have HS4:=Lib.hid S4;clear S3 S4 b3)
         all_goals
          go_wp2_with fail
          go_meet
          exact HS4.out
        have HS5:=Lib.hid hcut
        clear hcut
        have p0:=heap_lt0 (HE.out.below HS5.out.bel).box
        have p2:=heap_lt0 (HS5.out.blk 2 rfl).1
        have p6:=heap_lt0 (HS5.out.blk 6 rfl).1
        have p7:=below_lt HS5.out.bel hbW
        have p8:=below_lt HS5.out.bel hbl
        have l2:=cell_heap (k:=2) (HS5.out.blk 6 rfl).1 rfl
        have HK5:=Lib.hid (fun (w':World) (p0 p1:Pc) (r:List Pc) (h:Sepa W w' (p0 :: p1 :: trBlk gT g gI gF gM :: r))=>(show (fun w'=>w'.cell? ⟨b,o+tn * 4+1,none⟩=some (.slice (some ⟨bl,ol,none⟩) 2 q4)∧w'.cell? ⟨bl,ol+en * 4+1,none⟩=some (.int .i64 le.mask)∧w'.cell? ⟨g,4,none⟩=some (.slice (some ⟨b,o,none⟩) m tc)∧w'.cell? ⟨gT,0,none⟩=some (.pointer (some ⟨g,0,none⟩))) w' from ⟨(h.bel.cell (p:=⟨b,o+tn * 4+1,none⟩) hbW).trans CL.out,(h.bel.cell (p:=⟨bl,ol+en * 4+1,none⟩) hbl).trans CM.out,cell_heap (k:=4) (HE.out.below h.bel).box rfl,cell_heap (k:=0) (h.blk 2 rfl).1 rfl⟩))
        obtain ⟨ti,ht1,ht2,ht3,ht4⟩:=info_parts lut_info
        have HTI:=Lib.hid (And.intro ht1 (And.intro ht2 (And.intro ht3 ht4)))
        clear ht1 ht2 ht3 ht4
        have w1:IntKind.i64.wrap (tn:Int)=(tn:Int):=IntWalk.i64_in _ (by omega)
        have w2':IntKind.i64.wrap (en:Int)=(en:Int):=IntWalk.i64_in _ (by omega)
        go_upto_region 16 with fail
        go_cut [] (fun wy=>∃LA' lc',Sepa W wy (.cels [] [] :: .cel (celI (todoF d ts pl)) (.slice (some ⟨gt,0,none⟩) n c) :: trBlk gT g gI gF gM :: numPc gI 1 (insL d ts) :: numPc gF (sqB d ts) (owL d ts) :: numPc gM (ltB d ts) (pl++[x]) :: lnBlk gL In (.slice SA sn sc) (.slice LA' (q+1) lc') (.slice OA on oc) :: .cel (celLt (lt++[⟨sl,le.mask⟩])) (.slice LA' (q+1) lc') :: rs))
        case first =>
         have HSW:=Lib.hid ((HS5.out.alloc (.cells #[.slice IA 4 ic,.int .i64 le.mask] 110)).drew.same 0 rfl (p' := .cels [celI sl,.int le.mask] [.slice IA 4 ic,.int .i64 le.mask]) (fun F h=>ownL_cons.2 ⟨_,_,F,[],rfl,(List.append_nil _).symm,h,ownL_cons.2 ⟨_,_,[],[],rfl,rfl,ownC_int.2 ⟨rfl,rfl⟩,ownL_nil.2 ⟨rfl,rfl⟩⟩⟩))
         obtain ⟨cLx,cMx,x4',z0'⟩:=HK5.out _ _ _ _ HS5.out
         go_region_law ((refine step_sepPushG rfl _ _ _ 110 (by rfl) ti _ 2 32 Tryz.underlying59 HTI.out.1 HTI.out.2.1 HTI.out.2.2.1 HTI.out.2.2.2 rfl (by decide) (by decide) _ HSW.out 7 0 (by decide) q lc _ LA (lt.flatMap Lt.cells) _ #[.slice IA 4 ic,.int .i64 le.mask] _ rfl rfl (by rfl) (by rfl) (heap_new _ (.cells #[.slice IA 4 ic,.int .i64 le.mask] 110)) rfl (by omega) ?_);intro g9 cap w9 S9 hz9;have l9:=cell_heap (k:=2) (S9.blk 6 rfl).1 rfl;have f9:=frozen_heap (S9.blk 6 rfl).1 2;have q9:=heap_lt0 (S9.blk 6 rfl).1;have HS9:=Lib.hid S9;clear S9 hz9)
         all_goals
          go_wp2_with fail
          go_meet
          exact ⟨_,_,by rw [celLt,lts_snoc];exact HS9.out.put 6 rfl 2 _⟩
        obtain ⟨LA',lc',hS6⟩:=hcut
        have HS6:=Lib.hid hS6.tail
        clear hS6 l2 p0 p2 p6 p7 p8 w1 w2'
        go_upto_region 21 with fail
        have v0:(0:Int)≤(k:Int)+1:=by omega
        have v1:(k:Int)+1≤(n:Int):=by omega
        have v2:IntKind.i64.wrap ((k:Int)+1)=(k:Int)+1:=IntWalk.i64_in _ (by omega)
        have v3:((k:Int)+1).toNat=k+1:=by omega
        have v4:k≤c:=by omega
        have v5:k+1≤n:=by omega
        have v6:k+1≤c:=by omega
        have hcs:(c=k+1)=True∨(c=k+1)=False:=by by_cases h:c=k+1;exact .inl (by simp [h]);exact .inr (by simp [h])
        have HMM:Hid (c=k+1→n - (k+1)=0):=by intro h;omega
        rcases hcs with hcs|hcs
        all_goals
         have HCS:=Lib.hid hcs
         go_region_held3 (fun _=>True) (trivial)
          (((refine step_sepDel rfl _ _ (by rfl) _ HS6.out.drew 0 k n c (n - (k+1)) _ gt _ _ rfl hlt (by rfl) (by rfl) (by omega) (fun h=>by first|rfl|(exfalso;have e:=HMM.out (of_eq_true HCS.out);omega)) ?_);intro w9 S9 hz9;have HS9:=Lib.hid S9;clear S9 hz9))
         have HO9:Hid (ordA d ts=ordF d ts (n - 1) (pl++[x]) (lt++[⟨sl,le.mask⟩])):=by
          show _=_
          rw [HORD.out,←HLO.out,←ordF_some HP.out]
          congr 1
          omega
         go_wp2_with fail
         go_roundw
         case rel=>exact ⟨q+1,_,n - 1,c,pl++[x],lt++[⟨sl,le.mask⟩],LA',lc',rfl,by rw [List.length_append,HPL.out];rfl,by rw [List.length_append,HLN.out];rfl,by have:=HQN.out;omega,HO9.out,by rw [todo_next HX.out];exact HS9.out⟩
         case measure=>simp [lenOf];omega
      ·have hkn:k=n:=by omega
       subst hkn
       have HP:Hid (pick d ts pl=none):=find_no fun j y hj=>HNO.out j y (by have:=(List.getElem?_eq_some_iff.1 hj).1;have:=HTL.out;omega) hj
       have HF:Hid (ordA d ts=none):=by
        show _=_
        rw [HORD.out]
        obtain ⟨n',rfl⟩:∃n',k=n'+1:=⟨k - 1,by omega⟩
        exact ordF_none HP.out
       have HB2:=Lib.hid ((HSS.out.below HB.out).bel)
       go_wp2_with fail
       go_ret
       exact ordPost_no HF.out HB2.out
end Go.Proofs.YtignkfhdkcgkgaaGreat
