/- A list of numbers appended to a row of numbers among the pieces. -/
import Derived.Test.YtofihjoanjkdmaaGreatLayS3
namespace Go.Proofs.YtofihjoanjkdmaaGreat
set_option maxHeartbeats 4000000
set_option maxRecDepth 100000
open Go.RowKit
theorem pR {P:Program} (w:World) (base:Nat) (t ty e:TypeId) (i:TypeInfo) (size:Nat) (ht:P.underlying t=some (.slice e)) (hi:P.info? e=some i)
  (v:Value) (n:Nat) (xs:List Value) (hown:w.ownsRow base e size v n xs) (B:Option Addr) (c:Nat):(Builtin.append_ #[t,t] ty #[v,.slice B 0 c]).run P w = .ok v w:=by
 cases B with
 | none=>exact lN w base t ty e i size ht hi v n xs hown c
 | some ad =>
  rcases hown.2 with ⟨rfl,rfl⟩|⟨g,cap,cur,rfl,_,_,hnc,_⟩
  ·simp [Builtin.append_,run_underlying ht,sizeOf,typeInfo,hi,Builtin.lenOf,Builtin.firstCells,loadCells,loadCellsFrom]
  ·simp [Builtin.append_,run_underlying ht,sizeOf,typeInfo,hi,Builtin.lenOf,Builtin.firstCells,hnc,storeCells,loadCells,loadCellsFrom]
section
variable {ops:Array Oper} {rest:List Oper} {o:Oper} {a:Act} {Q:Exit→Act→World→Prop} {K:Act→World→Prop} {E:Prop} {w W:World}
theorem qV (s x:Operand)
  (ho:o.op = .call { callee := .builtin .append,args:=#[s,x],argTypes:=#[26,26] })
  (ps:List Pc) (S:aM W w ps) (i:Nat) (A:Option Addr) (n c:Nat) (xs:List Int) (B:Option Addr) (m d:Nat) (ys:List Int) (hi:ps[i]?=some (.cel (aJ xs) (.slice A n c))) (hs:a.eval s = .slice A n c) (hx:a.eval x = .slice B m d) (hr:dA w B m ys)
  (hn:n+m<=1099511627776)
  (h:∀A' c' w',aM W w' (ps.set i (.cel (aJ (xs++ys)) (.slice A' (n+m) c')))→w.heap.size<=w'.heap.size→K (a.put o.dst (.slice A' (n+m) c')) w'):Oper.wp Tryz.prog o a w K Q:=by
 obtain ⟨i0,hi0,hz0,hz1,hz2⟩:=info_parts jC
 rcases Nat.eq_zero_or_pos m with h0|h0
 ·subst h0
  have hy:ys=[]:=List.eq_nil_of_length_eq_zero hr.1
  subst hy
  have hrun:=pR (P:=Tryz.prog) w 0 26 o.type 3 i0 1 Tryz.underlying26 hi0 _ _ _ (lS ps S i n c A xs hi) B d
  have hset:ps.set i (.cel (aJ (xs++[])) (.slice A (n+0) c))=ps:=by
   rw [List.append_nil]
   refine List.ext_getElem? fun j=>?_
   rw [List.getElem?_set]
   split
   ·rename_i e
    subst e
    split
    ·exact hi.symm
    ·rename_i hlt;rw [List.getElem?_eq_none (by omega)]
   ·rfl
  unfold Oper.wp execOp
  simp only [ho,resolve,invoke,builtin,Sem.run_bind,Sem.run_pure,Result.andThen_ok,List.map_toArray,List.map_cons,List.map_nil,hs,hx,hrun]
  exact h A c w (by rw [hset];exact S) (Nat.le_refl _)
 ·obtain ⟨b,o',rfl,_,hc⟩:=hr.2 h0
  refine wp_append_lies w s x 26 ho 0 3 i0 (.int .i64 0) 1 8 Tryz.underlying26 hi0 hz0 hz1 hz2 rfl (by omega) (.slice A n c) n (xs.map (Value.int .i64)) hs (lS ps S i n c A xs hi) ⟨b,o',none⟩ m d (ys.map (Value.int .i64)) hx (by simp [hr.1])
   (fun j u hu=>?_) (fun u hu=>by simp at hu;obtain ⟨y,_,rfl⟩:=hu;rfl) h0 (by unfold maxLen;omega) (by omega) (Nat.zero_le _) _ rfl
   fun g cap w' g1 g2 g3 _=>by rw [fV] at g2 g3;exact h _ cap w' (mU ps S i n (n+m) c A xs ys hi g1 g2 g3) g2.size
  have hj:j<m:=by
   have:=(List.getElem?_eq_some_iff.1 hu).1
   simpa [hr.1] using this
  rw [Addr.add_lit,hc j hj]
  have:j<ys.length:=by rw [hr.1];exact hj
  simp [this] at hu
  simp [this,←hu]
theorem ja (hgd:o.guard=none) (s x:Operand)
  (ho:o.op = .call { callee := .builtin .append,args:=#[s,x],argTypes:=#[26,26] })
  (ps:List Pc) (S:aM W w ps) (i:Nat) (A:Option Addr) (n c:Nat) (xs:List Int) (B:Option Addr) (m d:Nat) (ys:List Int) (hi:ps[i]?=some (.cel (aJ xs) (.slice A n c))) (hs:a.eval s = .slice A n c) (hx:a.eval x = .slice B m d) (hr:dA w B m ys)
  (hn:n+m<=1099511627776)
  (h:∀A' c' w',aM W w' (ps.set i (.cel (aJ (xs++ys)) (.slice A' (n+m) c')))→w.heap.size<=w'.heap.size→wpList Tryz.prog ops Q rest (a.put o.dst (.slice A' (n+m) c')) w'):wpList Tryz.prog ops Q (o :: rest) a w :=
 wpList_plain hgd fun _ hK=>qV s x ho ps S i A n c xs B m d ys hi hs hx hr hn fun A' c' w' S' hz=>hK _ _ (h A' c' w' S' hz)
theorem tC (hgd:o.guard=none) (s x:Operand)
  (ho:o.op = .call { callee := .builtin .append,args:=#[s,x],argTypes:=#[26,26] })
  (ps:List Pc) (S:aM W w ps) (i:Nat) (A:Option Addr) (n c:Nat) (xs:List Int) (B:Option Addr) (m d:Nat) (ys:List Int) (hi:ps[i]?=some (.cel (aJ xs) (.slice A n c))) (hs:a.eval s = .slice A n c) (hx:a.eval x = .slice B m d) (hr:dA w B m ys)
  (hn:n+m<=1099511627776)
  (h:∀A' c' w',aM W w' (ps.set i (.cel (aJ (xs++ys)) (.slice A' (n+m) c')))→w.heap.size<=w'.heap.size→K (a.put o.dst (.slice A' (n+m) c')) w'):if Region.wanted o (yielded ops a.tmps)=true then Oper.wp Tryz.prog o a w K Q else E:=by
 have hw:Region.wanted o (yielded ops a.tmps)=true:=by simp [Region.wanted,hgd]
 rw [if_pos hw]
 exact qV s x ho ps S i A n c xs B m d ys hi hs hx hr hn h
end
theorem yZ {l:ai} (hf:bB l) {es:List LeT} (h:∀e∈es,dM l e):asc ((es.flatMap (fq l)).filter fun x=>decide (0<x/\x∉es.map (dP l)))=kX l es:=by
 unfold kX zT
 refine congrArg asc (List.filter_congr fun x hx=>?_)
 obtain ⟨e,he,hx⟩:=List.mem_flatMap.1 hx
 have:=((lW hf (h e he)).2 x hx).1
 simp [this]
theorem mr (l:ai) (SA LA OA:Option Addr) (sn sc ln lc on oc:Nat) (es:List LeT) (EA:Option Addr) (en ec:Nat) (w:World) (h:fI w l SA LA OA sn sc ln lc on oc) (hf:bB l) (hE:RdC w w.heap.size (dF es) (.slice EA en ec)) (hK:∀e∈es,dM l e) (hen:en<=100000) :
  Calls Tryz.prog 158 #[iD l SA LA OA sn sc ln lc on oc,.slice EA en ec] w fun e w'=>∃A n c,e = .returned (.slice A n c)/\Own w.heap.size w' A n c (kX l es)/\Below w.heap.size w w':=by
 have hel:=hE.esN
 have HE:=Hd hE
 have HEL:=Hd hel
 clear hE hel
 have HB0:=Hd (aF (Below.refl w.heap.size w) (.cells (av l SA LA OA sn sc ln lc on oc) 41))
 have HXB:=Hd (aK w (.cells (av l SA LA OA sn sc ln lc on oc) 41))
 have HN:=Hd h
 have HF:=Hd hf
 clear h hf
 have HKN:=Hd hK
 clear hK
 have HPL:=Hd (yZ HF.out HKN.out)
 go_enter Tryz.func158,Tryz.ntmps158
 go_upto_region 1 with fail
 generalize w.alloc (.cells (av l SA LA OA sn sc ln lc on oc) 41)=W9 at *
 go_wp2_with fail
 go_loopw [5,6,7] (fun u v i wr=>∃(k:Nat) (A1:Option Addr) (n1 c1:Nat) (A2:Option Addr) (c2:Nat),k<=en/\i = .int .i64 k/\u = .slice A1 n1 c1/\v = .slice A2 k c2/\aM W9 wr [.cel (aJ ((es.take k).flatMap (fq l))) (.slice A1 n1 c1),.cel (aJ ((es.take k).map (dP l))) (.slice A2 k c2)]) (fun _ _ i _=>en - (intOf i).toNat)
 case atStart=>exact ⟨0,_,_,_,_,_,Nat.zero_le _,rfl,rfl,rfl,by have h:=((aM.refl W9).pushNew 3 1).pushNew 3 1;rw [World.size_alloc] at h;exact h⟩
 case round =>
  obtain ⟨k,A1,n1,cA,A2,cB,hk,rfl,rfl,rfl,hs⟩:=hrel
  have HS:=Hd hs
  clear hs
  have HBD:Hid (((es.take k).flatMap (fq l)).length<=4 * k):=by
   show _<=_
   have h:=jo (f:=fq l) (m:=4) (xs:=es.take k) fun e he=>(lW HF.out (HKN.out e (List.mem_of_mem_take he))).1
   rw [List.length_take] at h
   have h2:min k es.length * 4<=k * 4:=Nat.mul_le_mul_right 4 (Nat.min_le_left _ _)
   omega
  have hn1:n1<=4 * k:=by rw [←(HS.out.ints 0 rfl).1];exact HBD.out
  by_cases hlt:k<en
  ·have hdk:decide ((k:Int)<(en:Int))=true:=by simp;omega
   have hkl:k<es.length:=by rw [HEL.out];exact hlt
   obtain ⟨be,oe,hEA,hbe,c0,c1⟩:=HE.out.es (k:=k) hkl
   have HEA:=Hd hEA
   have HEF:=Hd (HKN.out _ (List.getElem_mem hkl))
   have HTM:Hid ((es.take (k+1)).map (dP l)=(es.take k).map (dP l)++[dP l ⟨(es[k]?.getD LeT.zero).lut,(es[k]?.getD LeT.zero).ff⟩]):=by show _=_;rw [bJ (z:=LeT.zero) hkl,List.map_append];rfl
   have HTK:=Hd (show (es.take (k+1)).flatMap (fq l)=(es.take k).flatMap (fq l)++fq l ⟨(es[k]?.getD LeT.zero).lut,(es[k]?.getD LeT.zero).ff⟩ from by rw [bJ (z:=LeT.zero) hkl,List.flatMap_append,List.flatMap_singleton])
   rw [show es[k]=es[k]?.getD LeT.zero by rw [List.getElem?_eq_getElem hkl];rfl] at HEF
   clear hkl hEA
   obtain rfl:=HEA.out
   generalize es[k]?.getD LeT.zero=e at *
   have i0:(0:Int)<=(k:Int):=by omega
   have i1:(k:Int)<(en:Int):=by omega
   have HKEEP:Hid (∀w',Below W9.heap.size W9 w'→(w'.cell? ⟨w.heap.size,0,none⟩=some (.int .i64 l.inputs)/\w'.cell? ⟨w.heap.size,1,none⟩=some (.slice SA sn sc)/\w'.cell? ⟨w.heap.size,2,none⟩=some (.slice LA ln lc)/\w'.cell? ⟨w.heap.size,3,none⟩=some (.slice OA on oc)/\w'.cell? ⟨be,oe+k * 2,none⟩=some (.int .i64 e.lut)/\w'.cell? ⟨be,oe+k * 2+1,none⟩=some (.int .i64 e.ff))):=fun v hv=>⟨aA (k:=0) (aD hv HXB.out) rfl,aA (k:=1) (aD hv HXB.out) rfl,aA (k:=2) (aD hv HXB.out) rfl,aA (k:=3) (aD hv HXB.out) rfl,((aB HB0.out hv).cell (p:=⟨be,oe+k * 2,none⟩) hbe).trans c0,((aB HB0.out hv).cell (p:=⟨be,oe+k * 2+1,none⟩) hbe).trans c1⟩
   clear c0 c1
   obtain ⟨x0,x1,x2,x3,c0,c1⟩:=HKEEP.out _ HS.out.bel
   have lx:=aC (aD HS.out.bel HXB.out)
   have lbe:=aL (aB HB0.out HS.out.bel) hbe
   have HI4:=Hd (lW HF.out HEF.out).1
   have HCI:=Hd (fun (v:World) (hv:Below W9.heap.size W9 v)=>wK l SA LA OA sn sc ln lc on oc e.lut e.ff v (HN.out.below (aB HB0.out hv)) HF.out HEF.out)
   have HCO:=Hd (fun (v:World) (hv:Below W9.heap.size W9 v)=>qZ l SA LA OA sn sc ln lc on oc e.lut e.ff v (HN.out.below (aB HB0.out hv)) HF.out HEF.out)
   generalize fq l ⟨e.lut,e.ff⟩=src at *
   generalize dP l ⟨e.lut,e.ff⟩=Y at *
   generalize hXS:(es.take k).flatMap (fq l)=XS at *
   generalize hYS:(es.take k).map (dP l)=YS at *
   clear hXS hYS
   have hS:=Hd HS.out.drew
   have hD:=hS.out.bel
   go_upto_region 6 with fail
   go_region_held3 (fun w'=>w'.cell? ⟨w.heap.size,0,none⟩=some (.int .i64 l.inputs)/\w'.cell? ⟨w.heap.size,1,none⟩=some (.slice SA sn sc)/\w'.cell? ⟨w.heap.size,2,none⟩=some (.slice LA ln lc)/\w'.cell? ⟨w.heap.size,3,none⟩=some (.slice OA on oc)/\w'.cell? ⟨be,oe+k * 2,none⟩=some (.int .i64 e.lut)/\w'.cell? ⟨be,oe+k * 2+1,none⟩=some (.int .i64 e.ff))
    (first|with_reducible exact HKEEP.out _ hD)
    ((first
     | (go_at_call 241;(with_reducible refine (HCI.out _ hD).mono ?_);rintro e5 w5 ⟨A5,n5,c5,rfl,o5,b5⟩;have O5:=Hd o5.ints;replace hD:=aB hD b5;have hS5:=Hd (hS.out.below b5);clear b5 o5)
     | (refine tC rfl _ _ (by rfl) _ hS5.out 0 A1 n1 cA XS A5 n5 c5 src rfl (by rfl) (by rfl) O5.out (by have h5:=O5.out.1;have h6:=HI4.out;omega) ?_;rintro A6 c6 w6 S6 hz6;have HS6:=Hd S6;replace hD:=S6.bel;clear S6 hz6)))
   clear hS hD x0 x1 x2 x3 lx c0 c1 lbe
   obtain ⟨x0,x1,x2,x3,c0,c1⟩:=HKEEP.out _ HS6.out.bel
   have lx:=aC (aD HS6.out.bel HXB.out)
   have lbe:=aL (aB HB0.out HS6.out.bel) hbe
   have hS:=Hd HS6.out.drew
   have hD:=hS.out.bel
   go_upto_region 7 with fail
   go_region_held3 (fun w'=>w'.cell? ⟨w.heap.size,0,none⟩=some (.int .i64 l.inputs)/\w'.cell? ⟨w.heap.size,1,none⟩=some (.slice SA sn sc)/\w'.cell? ⟨w.heap.size,2,none⟩=some (.slice LA ln lc)/\w'.cell? ⟨w.heap.size,3,none⟩=some (.slice OA on oc)/\w'.cell? ⟨be,oe+k * 2,none⟩=some (.int .i64 e.lut)/\w'.cell? ⟨be,oe+k * 2+1,none⟩=some (.int .i64 e.ff))
    (first|with_reducible exact HKEEP.out _ hD|with_reducible exact HKEEP.out _ (aF hD _))
    ((first
     | (go_at_call 204;(with_reducible refine (HCO.out _ hD).mono ?_);rintro _ w7 ⟨rfl,b7⟩;replace hD:=aB hD b7;have hS7:=Hd (hS.out.below b7);clear b7)
     | (refine oQ rfl _ _ (by rfl) _ (hS7.out.alloc _) 1 A2 k cB (YS) Y _ (0,0) rfl (by rfl) (by rfl) (aK _ _) (by omega) ?_;intro g8 cap8 w8 S8 hz8;have hS8:=Hd S8;replace hD:=S8.bel;clear S8 hz8)))
   go_wp2_with fail
   go_roundw
   case rel=>exact ⟨k+1,_,_,_,_,_,by omega,by go_num,rfl,rfl,by rw [HTK.out,HTM.out];exact hS8.out⟩
   case measure=>simp [intOf];omega
  ·have hkn:k=en:=by omega
   have hdk:decide ((k:Int)<(en:Int))=false:=by simp;omega
   have HTK:Hid (es.take k=es):=by show _=_;rw [hkn];exact List.take_of_length_le (by rw [HEL.out];exact Nat.le_refl _)
   rw [HTK.out] at HS
   have O1:=Hd (HS.out.ints 0 rfl)
   have O2:=Hd (HS.out.ints 1 rfl)
   clear hkn
   go_wp2_with fail
   refine (ng A1 A2 n1 cA k cB _ _ _ O1.out O2.out (by omega) (by omega)).mono ?_
   rintro _ w9 ⟨A,n,c,rfl,o9,b9⟩
   have O9:=Hd (o9.more (Nat.le_trans HB0.out.size HS.out.bel.size))
   have B9:=Hd (aB (aB HB0.out HS.out.bel) b9)
   clear o9 b9
   go_wp2_with fail
   go_ret
   exact ⟨_,_,_,rfl,by rw [←HPL.out];exact O9.out,B9.out⟩
theorem qx (l:ai) (SA LA OA:Option Addr) (sn sc ln lc on oc:Nat) (kd it:Int) (es:List LeT) (EA:Option Addr) (en ec:Nat) (w:World) (h:fI w l SA LA OA sn sc ln lc on oc) (hf:bB l) (hE:RdC w w.heap.size (dF es) (.slice EA en ec)) (hK:dD l ⟨kd,it,es⟩) (hen:en<=1048576) :
  Calls Tryz.prog 112 #[iD l SA LA OA sn sc ln lc on oc,.agg #[.int .i64 kd,.int .i64 it,.slice EA en ec]] w fun e w'=>∃A n c,e = .returned (.slice A n c)/\Own w.heap.size w' A n c (iw l ⟨kd,it,es⟩)/\Below w.heap.size w w':=by
 have hel:=hE.esN
 have HE:=Hd hE
 have HEL:=Hd hel
 clear hE hel
 have HB0:=Hd (aF (aF (Below.refl w.heap.size w) (.cells (av l SA LA OA sn sc ln lc on oc) 41)) (.cells #[.int .i64 kd,.int .i64 it,.slice EA en ec] 89))
 have hx:=bg (.cells #[.int .i64 kd,.int .i64 it,.slice EA en ec] 89) (aK w (.cells (av l SA LA OA sn sc ln lc on oc) 41))
 have hy:=aK (w.alloc (.cells (av l SA LA OA sn sc ln lc on oc) 41)) (.cells #[.int .i64 kd,.int .i64 it,.slice EA en ec] 89)
 simp only [World.size_alloc] at hy
 have HXB:=Hd hx
 have HYB:=Hd hy
 clear hx hy
 obtain ⟨hsl,hll,hol⟩:=h.lens
 have hsn:=hf.nseq
 have hln:=hf.nlut
 have hon:=hf.nout
 have hin:=hf.inp
 rw [hsl] at hsn
 rw [hll] at hln
 rw [hol] at hon
 have HN:=Hd h
 have HF:=Hd hf
 have HSL:=Hd hsl
 have HLL:=Hd hll
 have HOL:=Hd hol
 have HFI:Hid ((l.first:Int)=1+l.inputs+(sn:Int)):=by show _=_;unfold ai.first;omega
 have HCO:Hid ((l.count:Int)=1+l.inputs+(sn:Int)+(ln:Int)):=by show _=_;unfold ai.count ai.first;omega
 clear h hf hsl hll hol
 by_cases k0:kd=0
 ·subst k0
  have HR:Hid (iw l ⟨0,it,es⟩=[1+it]):=rfl
  have hit:0<=it/\it<l.inputs:=lT.1 hK
  have HK:=Hd hK
  go_enter Tryz.func112,Tryz.ntmps112
  go_upto_region 1 with fail
  generalize (w.alloc (.cells (av l SA LA OA sn sc ln lc on oc) 41)).alloc (.cells #[.int .i64 0,.int .i64 it,.slice EA en ec] 89)=W9 at *
  have x0:=aA (k:=0) HXB.out rfl
  have x1:=aA (k:=1) HXB.out rfl
  have x2:=aA (k:=2) HXB.out rfl
  have x3:=aA (k:=3) HXB.out rfl
  have y0:=aA (k:=0) HYB.out rfl
  have y1:=aA (k:=1) HYB.out rfl
  have y2:=aA (k:=2) HYB.out rfl
  have lx:=aC HXB.out
  have ly:=aC HYB.out
  have HNW:=Hd ((aM.refl W9).pushNew 3 1)
  have hkt:=aa (show bB l/\dD l ⟨0,it,es⟩ from ⟨HF.out,HK.out⟩)
  have HKT:=Hd hkt
  clear hkt
  go_wp2_with fail
  refine (bW l SA LA OA sn sc ln lc on oc 0 it es EA en ec _ (HN.out.below (aB HB0.out HNW.out.bel)) (HE.out.below (aB HB0.out HNW.out.bel)) (by omega)).mono ?_
  rw [HKT.out]
  rintro _ w1 ⟨rfl,b1⟩
  have B1:=Hd (aB HNW.out.bel b1)
  have HB1:=Hd (aB HB0.out B1.out)
  have HS1:=Hd (HNW.out.below b1)
  clear b1
  clear x0 x1 x2 x3 y0 y1 y2 lx ly
  have x0:=aA (k:=0) (aD B1.out HXB.out) rfl
  have y0:=aA (k:=0) (aD B1.out HYB.out) rfl
  have y1:=aA (k:=1) (aD B1.out HYB.out) rfl
  have lx:=aC (aD B1.out HXB.out)
  have ly:=aC (aD B1.out HYB.out)
  go_wp2_with fail
  go_ret
  refine ⟨_,_,_,rfl,?_,aF HB1.out _⟩
  rw [HR.out]
  exact Own.made (cur:=#[.int .i64 (1+it)]) (aK w1 _) HB1.out.size (by unfold maxLen;omega) rfl rfl
 ·by_cases k1:kd=1
  ·subst k1
   have HR:Hid (iw l ⟨1,it,es⟩=[]):=rfl
   have HK:=Hd hK
   go_enter Tryz.func112,Tryz.ntmps112
   go_upto_region 1 with fail
   generalize (w.alloc (.cells (av l SA LA OA sn sc ln lc on oc) 41)).alloc (.cells #[.int .i64 1,.int .i64 it,.slice EA en ec] 89)=W9 at *
   have x0:=aA (k:=0) HXB.out rfl
   have x1:=aA (k:=1) HXB.out rfl
   have x2:=aA (k:=2) HXB.out rfl
   have x3:=aA (k:=3) HXB.out rfl
   have y0:=aA (k:=0) HYB.out rfl
   have y1:=aA (k:=1) HYB.out rfl
   have y2:=aA (k:=2) HYB.out rfl
   have lx:=aC HXB.out
   have ly:=aC HYB.out
   have HNW:=Hd ((aM.refl W9).pushNew 3 1)
   have hkt:=aa (show bB l/\dD l ⟨1,it,es⟩ from ⟨HF.out,HK.out⟩)
   have HKT:=Hd hkt
   clear hkt
   go_wp2_with fail
   refine (bW l SA LA OA sn sc ln lc on oc 1 it es EA en ec _ (HN.out.below (aB HB0.out HNW.out.bel)) (HE.out.below (aB HB0.out HNW.out.bel)) (by omega)).mono ?_
   rw [HKT.out]
   rintro _ w1 ⟨rfl,b1⟩
   have B1:=Hd (aB HNW.out.bel b1)
   have HB1:=Hd (aB HB0.out B1.out)
   have HS1:=Hd (HNW.out.below b1)
   clear b1
   clear x0 x1 x2 x3 y0 y1 y2 lx ly
   have x0:=aA (k:=0) (aD B1.out HXB.out) rfl
   have y0:=aA (k:=0) (aD B1.out HYB.out) rfl
   have y1:=aA (k:=1) (aD B1.out HYB.out) rfl
   have lx:=aC (aD B1.out HXB.out)
   have ly:=aC (aD B1.out HYB.out)
   go_wp2_with fail
   go_ret
   exact ⟨_,_,_,rfl,by rw [HR.out];exact (HS1.out.owned 0 rfl).more HB0.out.size,HB1.out⟩
  ·by_cases k2:kd=2
   ·subst k2
    have HR:Hid (iw l ⟨2,it,es⟩=[1+l.inputs+it]):=rfl
    have hit:0<=it/\it<(sn:Int):=by rw [←HSL.out];exact jG.1 hK
    have HK:=Hd hK
    go_enter Tryz.func112,Tryz.ntmps112
    go_upto_region 1 with fail
    generalize (w.alloc (.cells (av l SA LA OA sn sc ln lc on oc) 41)).alloc (.cells #[.int .i64 2,.int .i64 it,.slice EA en ec] 89)=W9 at *
    have x0:=aA (k:=0) HXB.out rfl
    have x1:=aA (k:=1) HXB.out rfl
    have x2:=aA (k:=2) HXB.out rfl
    have x3:=aA (k:=3) HXB.out rfl
    have y0:=aA (k:=0) HYB.out rfl
    have y1:=aA (k:=1) HYB.out rfl
    have y2:=aA (k:=2) HYB.out rfl
    have lx:=aC HXB.out
    have ly:=aC HYB.out
    have HNW:=Hd ((aM.refl W9).pushNew 3 1)
    have hkt:=aa (show bB l/\dD l ⟨2,it,es⟩ from ⟨HF.out,HK.out⟩)
    have HKT:=Hd hkt
    clear hkt
    go_wp2_with fail
    refine (bW l SA LA OA sn sc ln lc on oc 2 it es EA en ec _ (HN.out.below (aB HB0.out HNW.out.bel)) (HE.out.below (aB HB0.out HNW.out.bel)) (by omega)).mono ?_
    rw [HKT.out]
    rintro _ w1 ⟨rfl,b1⟩
    have B1:=Hd (aB HNW.out.bel b1)
    have HB1:=Hd (aB HB0.out B1.out)
    have HS1:=Hd (HNW.out.below b1)
    clear b1
    clear x0 x1 x2 x3 y0 y1 y2 lx ly
    have x0:=aA (k:=0) (aD B1.out HXB.out) rfl
    have y0:=aA (k:=0) (aD B1.out HYB.out) rfl
    have y1:=aA (k:=1) (aD B1.out HYB.out) rfl
    have lx:=aC (aD B1.out HXB.out)
    have ly:=aC (aD B1.out HYB.out)
    go_wp2_with fail
    go_ret
    refine ⟨_,_,_,rfl,?_,aF HB1.out _⟩
    rw [HR.out]
    exact Own.made (cur:=#[.int .i64 (1+l.inputs+it)]) (aK w1 _) HB1.out.size (by unfold maxLen;omega) rfl rfl
   ·have k3:kd=3:=by have:=gm hK;omega
    subst k3
    clear k0 k1 k2
    have HR:Hid (iw l ⟨3,it,es⟩=es.map (dP l)):=rfl
    have HKN:Hid (∀e∈es,dM l e):=jb.1 hK
    have HK:=Hd hK
    go_enter Tryz.func112,Tryz.ntmps112
    go_upto_region 1 with fail
    generalize (w.alloc (.cells (av l SA LA OA sn sc ln lc on oc) 41)).alloc (.cells #[.int .i64 3,.int .i64 it,.slice EA en ec] 89)=W9 at *
    have x0:=aA (k:=0) HXB.out rfl
    have x1:=aA (k:=1) HXB.out rfl
    have x2:=aA (k:=2) HXB.out rfl
    have x3:=aA (k:=3) HXB.out rfl
    have y0:=aA (k:=0) HYB.out rfl
    have y1:=aA (k:=1) HYB.out rfl
    have y2:=aA (k:=2) HYB.out rfl
    have lx:=aC HXB.out
    have ly:=aC HYB.out
    have HNW:=Hd ((aM.refl W9).pushNew 3 1)
    have hkt:=aa (show bB l/\dD l ⟨3,it,es⟩ from ⟨HF.out,HK.out⟩)
    have HKT:=Hd hkt
    clear hkt
    go_wp2_with fail
    refine (bW l SA LA OA sn sc ln lc on oc 3 it es EA en ec _ (HN.out.below (aB HB0.out HNW.out.bel)) (HE.out.below (aB HB0.out HNW.out.bel)) (by omega)).mono ?_
    rw [HKT.out]
    rintro _ w1 ⟨rfl,b1⟩
    have B1:=Hd (aB HNW.out.bel b1)
    have HB1:=Hd (aB HB0.out B1.out)
    have HS1:=Hd (HNW.out.below b1)
    clear b1
    clear x0 x1 x2 x3 y0 y1 y2 lx ly
    clear hK
    have y0:=aA (k:=0) (aD B1.out HYB.out) rfl
    have y2:=aA (k:=2) (aD B1.out HYB.out) rfl
    have lx:=aC (aD B1.out HXB.out)
    have ly:=aC (aD B1.out HYB.out)
    go_wp2_with fail
    clear y0 y2 lx ly
    go_loopw [5,6] (fun v i wr=>∃(k:Nat) (A':Option Addr) (c':Nat),k<=en/\i = .int .i64 k/\v = .slice A' k c'/\aM W9 wr [.cel (aJ ((es.take k).map (dP l))) (.slice A' k c')]) (fun _ i _=>en - (intOf i).toNat)
    case atStart=>exact ⟨0,_,_,Nat.zero_le _,rfl,rfl,HS1.out⟩
    case round =>
     obtain ⟨k,A2,cB,hk,rfl,rfl,hs⟩:=hrel
     have HS:=Hd hs
     clear hs
     by_cases hlt:k<en
     ·have hdk:decide ((k:Int)<(en:Int))=true:=by simp;omega
      have hkl:k<es.length:=by rw [HEL.out];exact hlt
      obtain ⟨be,oe,hEA,hbe,c0,c1⟩:=HE.out.es (k:=k) hkl
      have HEA:=Hd hEA
      have HEF:=Hd (HKN.out _ (List.getElem_mem hkl))
      have HTM:Hid ((es.take (k+1)).map (dP l)=(es.take k).map (dP l)++[dP l ⟨(es[k]?.getD LeT.zero).lut,(es[k]?.getD LeT.zero).ff⟩]):=by show _=_;rw [bJ (z:=LeT.zero) hkl,List.map_append];rfl
      rw [show es[k]=es[k]?.getD LeT.zero by rw [List.getElem?_eq_getElem hkl];rfl] at HEF
      clear hkl hEA
      obtain rfl:=HEA.out
      generalize es[k]?.getD LeT.zero=e at *
      have i0:(0:Int)<=(k:Int):=by omega
      have i1:(k:Int)<(en:Int):=by omega
      have HKEEP:Hid (∀w',Below W9.heap.size W9 w'→(w'.cell? ⟨w.heap.size,0,none⟩=some (.int .i64 l.inputs)/\w'.cell? ⟨w.heap.size,1,none⟩=some (.slice SA sn sc)/\w'.cell? ⟨w.heap.size,2,none⟩=some (.slice LA ln lc)/\w'.cell? ⟨w.heap.size,3,none⟩=some (.slice OA on oc)/\w'.cell? ⟨w.heap.size+1,2,none⟩=some (.slice (some ⟨be,oe,none⟩) en ec)/\w'.cell? ⟨be,oe+k * 2,none⟩=some (.int .i64 e.lut)/\w'.cell? ⟨be,oe+k * 2+1,none⟩=some (.int .i64 e.ff))):=fun v hv=>⟨aA (k:=0) (aD hv HXB.out) rfl,aA (k:=1) (aD hv HXB.out) rfl,aA (k:=2) (aD hv HXB.out) rfl,aA (k:=3) (aD hv HXB.out) rfl,aA (k:=2) (aD hv HYB.out) rfl,((aB HB0.out hv).cell (p:=⟨be,oe+k * 2,none⟩) hbe).trans c0,((aB HB0.out hv).cell (p:=⟨be,oe+k * 2+1,none⟩) hbe).trans c1⟩
      clear c0 c1
      obtain ⟨x0,x1,x2,x3,y2,c0,c1⟩:=HKEEP.out _ HS.out.bel
      have lx:=aC (aD HS.out.bel HXB.out)
      have ly:=aC (aD HS.out.bel HYB.out)
      have lbe:=aL (aB HB0.out HS.out.bel) hbe
      have HCO:=Hd (fun (v:World) (hv:Below W9.heap.size W9 v)=>qZ l SA LA OA sn sc ln lc on oc e.lut e.ff v (HN.out.below (aB HB0.out hv)) HF.out HEF.out)
      generalize dP l ⟨e.lut,e.ff⟩=Y at *
      generalize hYS:(es.take k).map (dP l)=YS at *
      clear hYS
      have hS:=Hd HS.out.drew
      have hD:=hS.out.bel
      go_upto_region 14 with fail
      go_region_held3 (fun w'=>w'.cell? ⟨w.heap.size,0,none⟩=some (.int .i64 l.inputs)/\w'.cell? ⟨w.heap.size,1,none⟩=some (.slice SA sn sc)/\w'.cell? ⟨w.heap.size,2,none⟩=some (.slice LA ln lc)/\w'.cell? ⟨w.heap.size,3,none⟩=some (.slice OA on oc)/\w'.cell? ⟨w.heap.size+1,2,none⟩=some (.slice (some ⟨be,oe,none⟩) en ec)/\w'.cell? ⟨be,oe+k * 2,none⟩=some (.int .i64 e.lut)/\w'.cell? ⟨be,oe+k * 2+1,none⟩=some (.int .i64 e.ff))
       (first|with_reducible exact HKEEP.out _ hD|with_reducible exact HKEEP.out _ (aF hD _))
       ((first
        | (go_at_call 204;(with_reducible refine (HCO.out _ hD).mono ?_);rintro _ w7 ⟨rfl,b7⟩;replace hD:=aB hD b7;have hS7:=Hd (hS.out.below b7);clear b7)
        | (refine oQ rfl _ _ (by rfl) _ (hS7.out.alloc _) 0 A2 k cB (YS) Y _ (0,0) rfl (by rfl) (by rfl) (aK _ _) (by omega) ?_;intro g8 cap8 w8 S8 hz8;have hS8:=Hd S8;replace hD:=S8.bel;clear S8 hz8)))
      go_wp2_with fail
      go_roundw
      case rel=>exact ⟨k+1,_,_,by omega,by go_num,rfl,by rw [HTM.out];exact hS8.out⟩
      case measure=>simp [intOf];omega
     ·have hkm:k=en:=by omega
      have hdk:decide ((k:Int)<(en:Int))=false:=by simp;omega
      have y2:=aA (k:=2) (aD HS.out.bel HYB.out) rfl
      have ly:=aC (aD HS.out.bel HYB.out)
      have HTK:Hid (es.take k=es):=by show _=_;rw [hkm];exact List.take_of_length_le (by rw [HEL.out];exact Nat.le_refl _)
      rw [HTK.out] at HS
      clear hkm
      go_wp2_with fail
      go_ret
      exact ⟨_,_,_,rfl,by rw [HR.out];exact (HS.out.owned 0 rfl).more HB0.out.size,aB HB0.out HS.out.bel⟩
theorem qy (l:ai) (SA LA OA:Option Addr) (sn sc ln lc on oc:Nat) (kd it:Int) (es:List LeT) (EA:Option Addr) (en ec:Nat) (w:World) (h:fI w l SA LA OA sn sc ln lc on oc) (hf:bB l) (hE:RdC w w.heap.size (dF es) (.slice EA en ec)) (hK:dD l ⟨kd,it,es⟩) (hen:en<=100000) :
  Calls Tryz.prog 111 #[iD l SA LA OA sn sc ln lc on oc,.agg #[.int .i64 kd,.int .i64 it,.slice EA en ec]] w fun e w'=>∃A n c,e = .returned (.slice A n c)/\Own w.heap.size w' A n c (gV l ⟨kd,it,es⟩)/\Below w.heap.size w w':=by
 have hel:=hE.esN
 have HE:=Hd hE
 have HEL:=Hd hel
 clear hE hel
 have HB0:=Hd (aF (aF (Below.refl w.heap.size w) (.cells (av l SA LA OA sn sc ln lc on oc) 41)) (.cells #[.int .i64 kd,.int .i64 it,.slice EA en ec] 89))
 have hx:=bg (.cells #[.int .i64 kd,.int .i64 it,.slice EA en ec] 89) (aK w (.cells (av l SA LA OA sn sc ln lc on oc) 41))
 have hy:=aK (w.alloc (.cells (av l SA LA OA sn sc ln lc on oc) 41)) (.cells #[.int .i64 kd,.int .i64 it,.slice EA en ec] 89)
 simp only [World.size_alloc] at hy
 have HXB:=Hd hx
 have HYB:=Hd hy
 clear hx hy
 obtain ⟨hsl,hll,hol⟩:=h.lens
 have hsn:=hf.nseq
 have hln:=hf.nlut
 have hon:=hf.nout
 have hin:=hf.inp
 rw [hsl] at hsn
 rw [hll] at hln
 rw [hol] at hon
 have HN:=Hd h
 have HF:=Hd hf
 have HSL:=Hd hsl
 have HLL:=Hd hll
 have HOL:=Hd hol
 have HFI:Hid ((l.first:Int)=1+l.inputs+(sn:Int)):=by show _=_;unfold ai.first;omega
 have HCO:Hid ((l.count:Int)=1+l.inputs+(sn:Int)+(ln:Int)):=by show _=_;unfold ai.count ai.first;omega
 clear h hf hsl hll hol
 by_cases k0:kd=0
 ·subst k0
  have HR:Hid (gV l ⟨0,it,es⟩=[]):=rfl
  have HK:=Hd hK
  go_enter Tryz.func111,Tryz.ntmps111
  go_upto_region 1 with fail
  generalize (w.alloc (.cells (av l SA LA OA sn sc ln lc on oc) 41)).alloc (.cells #[.int .i64 0,.int .i64 it,.slice EA en ec] 89)=W9 at *
  have x0:=aA (k:=0) HXB.out rfl
  have x1:=aA (k:=1) HXB.out rfl
  have x2:=aA (k:=2) HXB.out rfl
  have x3:=aA (k:=3) HXB.out rfl
  have y0:=aA (k:=0) HYB.out rfl
  have y1:=aA (k:=1) HYB.out rfl
  have y2:=aA (k:=2) HYB.out rfl
  have lx:=aC HXB.out
  have ly:=aC HYB.out
  have hkt:=aa (show bB l/\dD l ⟨0,it,es⟩ from ⟨HF.out,HK.out⟩)
  have HKT:=Hd hkt
  clear hkt
  go_wp2_with fail
  refine (bW l SA LA OA sn sc ln lc on oc 0 it es EA en ec _ (HN.out.below (aB HB0.out (Below.refl W9.heap.size W9))) (HE.out.below (aB HB0.out (Below.refl W9.heap.size W9))) (by omega)).mono ?_
  rw [HKT.out]
  rintro _ w1 ⟨rfl,b1⟩
  have B1:=Hd (aB (Below.refl W9.heap.size W9) b1)
  have HB1:=Hd (aB HB0.out B1.out)
  clear b1
  clear x0 x1 x2 x3 y0 y1 y2 lx ly
  have y0:=aA (k:=0) (aD B1.out HYB.out) rfl
  have lx:=aC (aD B1.out HXB.out)
  have ly:=aC (aD B1.out HYB.out)
  have HNW:=Hd ((aM.refl w1).pushNew 3 1)
  go_wp2_with fail
  go_ret
  exact ⟨_,_,_,rfl,by rw [HR.out];exact (HNW.out.owned 0 rfl).more HB1.out.size,aF HB1.out _⟩
 ·by_cases k1:kd=1
  ·subst k1
   have HR:Hid (gV l ⟨1,it,es⟩=[l.outs[it.toNat]?.getD 0]):=rfl
   have hit:=lU.1 hK
   have HK:=Hd hK
   rw [HOL.out] at hit
   obtain ⟨X,rfl⟩:∃X:Nat,it=(X:Int):=⟨it.toNat,by omega⟩
   rw [Int.toNat_natCast] at HR
   have hX:X<on:=by omega
   obtain ⟨bo,oo,rfl,hbo,hco⟩:=HN.out.ou.ints.2 (by omega)
   have co:=hco X hX
   have HCO:=Hd co
   clear hco hK co
   generalize l.outs[X]?.getD 0=y at *
   go_enter Tryz.func111,Tryz.ntmps111
   go_upto_region 1 with fail
   generalize (w.alloc (.cells (av l SA LA (some ⟨bo,oo,none⟩) sn sc ln lc on oc) 41)).alloc (.cells #[.int .i64 1,.int .i64 (X:Int),.slice EA en ec] 89)=W9 at *
   have x0:=aA (k:=0) HXB.out rfl
   have x1:=aA (k:=1) HXB.out rfl
   have x2:=aA (k:=2) HXB.out rfl
   have x3:=aA (k:=3) HXB.out rfl
   have y0:=aA (k:=0) HYB.out rfl
   have y1:=aA (k:=1) HYB.out rfl
   have y2:=aA (k:=2) HYB.out rfl
   have lx:=aC HXB.out
   have ly:=aC HYB.out
   have hkt:=aa (show bB l/\dD l ⟨1,(X:Int),es⟩ from ⟨HF.out,HK.out⟩)
   have HKT:=Hd hkt
   clear hkt
   go_wp2_with fail
   refine (bW l SA LA (some ⟨bo,oo,none⟩) sn sc ln lc on oc 1 (X:Int) es EA en ec _ (HN.out.below (aB HB0.out (Below.refl W9.heap.size W9))) (HE.out.below (aB HB0.out (Below.refl W9.heap.size W9))) (by omega)).mono ?_
   rw [HKT.out]
   rintro _ w1 ⟨rfl,b1⟩
   have B1:=Hd (aB (Below.refl W9.heap.size W9) b1)
   have HB1:=Hd (aB HB0.out B1.out)
   clear b1
   clear x0 x1 x2 x3 y0 y1 y2 lx ly
   have x3:=aA (k:=3) (aD B1.out HXB.out) rfl
   have y0:=aA (k:=0) (aD B1.out HYB.out) rfl
   have y1:=aA (k:=1) (aD B1.out HYB.out) rfl
   have lx:=aC (aD B1.out HXB.out)
   have ly:=aC (aD B1.out HYB.out)
   have co:=(HB1.out.cell (p:=⟨bo,oo+X,none⟩) hbo).trans HCO.out
   have lbo:=aL HB1.out hbo
   go_wp2_with fail
   go_ret
   refine ⟨_,_,_,rfl,?_,aF HB1.out _⟩
   rw [HR.out]
   exact Own.made (cur:=#[.int .i64 (y)]) (aK w1 _) HB1.out.size (by unfold maxLen;omega) rfl rfl
  ·by_cases k2:kd=2
   ·subst k2
    have HR:Hid (gV l ⟨2,it,es⟩=(l.seqs[it.toNat]?.getD Sq.zero).ins):=rfl
    have hit:=jG.1 hK
    have HK:=Hd hK
    rw [HSL.out] at hit
    obtain ⟨X,rfl⟩:∃X:Nat,it=(X:Int):=⟨it.toNat,by omega⟩
    rw [Int.toNat_natCast] at HR
    have hX:X<sn:=by omega
    obtain ⟨bb,ob,S,m,p,rfl,hbb,c0,c1,c2,r2⟩:=HN.out.sq.sq' (k:=X) (by rw [HSL.out];exact hX)
    have hm4:m<=4:=by
     have h1:=(HF.out.seqs X (by rw [HSL.out];exact hX)).1
     have h2:=r2.ints.1
     rcases h1 with h|h <;> omega
    have HSR:=Hd r2.ints
    have HC2:=Hd c2
    clear c0 c1 c2 r2 hK
    generalize (l.seqs[X]?.getD Sq.zero).ins=src at *
    go_enter Tryz.func111,Tryz.ntmps111
    go_upto_region 1 with fail
    generalize (w.alloc (.cells (av l (some ⟨bb,ob,none⟩) LA OA sn sc ln lc on oc) 41)).alloc (.cells #[.int .i64 2,.int .i64 (X:Int),.slice EA en ec] 89)=W9 at *
    have x0:=aA (k:=0) HXB.out rfl
    have x1:=aA (k:=1) HXB.out rfl
    have x2:=aA (k:=2) HXB.out rfl
    have x3:=aA (k:=3) HXB.out rfl
    have y0:=aA (k:=0) HYB.out rfl
    have y1:=aA (k:=1) HYB.out rfl
    have y2:=aA (k:=2) HYB.out rfl
    have lx:=aC HXB.out
    have ly:=aC HYB.out
    have hkt:=aa (show bB l/\dD l ⟨2,(X:Int),es⟩ from ⟨HF.out,HK.out⟩)
    have HKT:=Hd hkt
    clear hkt
    go_wp2_with fail
    refine (bW l (some ⟨bb,ob,none⟩) LA OA sn sc ln lc on oc 2 (X:Int) es EA en ec _ (HN.out.below (aB HB0.out (Below.refl W9.heap.size W9))) (HE.out.below (aB HB0.out (Below.refl W9.heap.size W9))) (by omega)).mono ?_
    rw [HKT.out]
    rintro _ w1 ⟨rfl,b1⟩
    have B1:=Hd (aB (Below.refl W9.heap.size W9) b1)
    have HB1:=Hd (aB HB0.out B1.out)
    clear b1
    clear x0 x1 x2 x3 y0 y1 y2 lx ly
    have x1:=aA (k:=1) (aD B1.out HXB.out) rfl
    have y0:=aA (k:=0) (aD B1.out HYB.out) rfl
    have y1:=aA (k:=1) (aD B1.out HYB.out) rfl
    have lx:=aC (aD B1.out HXB.out)
    have ly:=aC (aD B1.out HYB.out)
    have c2:=(HB1.out.cell (p:=⟨bb,ob+X * 3+2,none⟩) hbb).trans HC2.out
    have lbb:=aL HB1.out hbb
    have HNW:=Hd ((aM.refl w1).pushNew 3 1)
    have HS1:=Hd (HSR.out.below (aF HB1.out (.cells #[] 3)))
    go_wp2_with (at_builtin;refine ja rfl _ _ rfl _ HNW.out 0 _ 0 0 [] S m p src rfl rfl rfl HS1.out (by omega) ?_;intro A9 c9 w9 S9 hz9;have HS9:=Hd S9;clear S9 hz9)
    go_ret
    have h9:=HS9.out.owned 0 rfl
    rw [Nat.zero_add,List.nil_append] at h9
    exact ⟨_,_,_,rfl,by rw [HR.out];exact h9.more HB1.out.size,aB HB1.out HS9.out.bel⟩
   ·have k3:kd=3:=by have:=gm hK;omega
    subst k3
    clear k0 k1 k2
    have HR:Hid (gV l ⟨3,it,es⟩=kX l es):=rfl
    have HKN:Hid (∀e∈es,dM l e):=jb.1 hK
    have HK:=Hd hK
    go_enter Tryz.func111,Tryz.ntmps111
    go_upto_region 1 with fail
    generalize (w.alloc (.cells (av l SA LA OA sn sc ln lc on oc) 41)).alloc (.cells #[.int .i64 3,.int .i64 it,.slice EA en ec] 89)=W9 at *
    have x0:=aA (k:=0) HXB.out rfl
    have x1:=aA (k:=1) HXB.out rfl
    have x2:=aA (k:=2) HXB.out rfl
    have x3:=aA (k:=3) HXB.out rfl
    have y0:=aA (k:=0) HYB.out rfl
    have y1:=aA (k:=1) HYB.out rfl
    have y2:=aA (k:=2) HYB.out rfl
    have lx:=aC HXB.out
    have ly:=aC HYB.out
    have hkt:=aa (show bB l/\dD l ⟨3,it,es⟩ from ⟨HF.out,HK.out⟩)
    have HKT:=Hd hkt
    clear hkt
    go_wp2_with fail
    refine (bW l SA LA OA sn sc ln lc on oc 3 it es EA en ec _ (HN.out.below (aB HB0.out (Below.refl W9.heap.size W9))) (HE.out.below (aB HB0.out (Below.refl W9.heap.size W9))) (by omega)).mono ?_
    rw [HKT.out]
    rintro _ w1 ⟨rfl,b1⟩
    have B1:=Hd (aB (Below.refl W9.heap.size W9) b1)
    have HB1:=Hd (aB HB0.out B1.out)
    clear b1
    clear x0 x1 x2 x3 y0 y1 y2 lx ly
    clear hK
    have x0:=aA (k:=0) (aD B1.out HXB.out) rfl
    have x1:=aA (k:=1) (aD B1.out HXB.out) rfl
    have x2:=aA (k:=2) (aD B1.out HXB.out) rfl
    have x3:=aA (k:=3) (aD B1.out HXB.out) rfl
    have y0:=aA (k:=0) (aD B1.out HYB.out) rfl
    have y2:=aA (k:=2) (aD B1.out HYB.out) rfl
    have lx:=aC (aD B1.out HXB.out)
    have ly:=aC (aD B1.out HYB.out)
    go_wp2_with fail
    refine (mr l SA LA OA sn sc ln lc on oc es EA en ec _ (HN.out.below HB1.out) HF.out (HE.out.below HB1.out) HKN.out hen).mono ?_
    rintro _ w2 ⟨A,n,c,rfl,o2,b2⟩
    have O2:=Hd (o2.more HB1.out.size)
    have HB2:=Hd (aB HB1.out b2)
    clear o2 b2
    go_wp2_with fail
    go_ret
    exact ⟨_,_,_,rfl,by rw [HR.out];exact O2.out,HB2.out⟩
theorem tF (l:ai) (SA LA OA:Option Addr) (sn sc ln lc on oc:Nat) (kd it:Int) (es:List LeT) (EA:Option Addr) (en ec:Nat) (w:World) (h:fI w l SA LA OA sn sc ln lc on oc) (hf:bB l) (hE:RdC w w.heap.size (dF es) (.slice EA en ec)) (hen:en<=1048576) :
  Calls Tryz.prog 110 #[iD l SA LA OA sn sc ln lc on oc,.agg #[.int .i64 kd,.int .i64 it,.slice EA en ec]] w fun e w'=>e = .returned (.bool (tb (cZ l ⟨kd,it,es⟩)))/\Below w.heap.size w w':=by
 have hB:=qK (l:=l) (kd:=kd) (it:=it) (es:=es)
 have hel:=hE.esN
 have HE:=Hd hE
 have HEL:=Hd hel
 clear hE hel
 have HB0:=Hd (aF (aF (Below.refl w.heap.size w) (.cells (av l SA LA OA sn sc ln lc on oc) 41)) (.cells #[.int .i64 kd,.int .i64 it,.slice EA en ec] 89))
 have hx:=bg (.cells #[.int .i64 kd,.int .i64 it,.slice EA en ec] 89) (aK w (.cells (av l SA LA OA sn sc ln lc on oc) 41))
 have hy:=aK (w.alloc (.cells (av l SA LA OA sn sc ln lc on oc) 41)) (.cells #[.int .i64 kd,.int .i64 it,.slice EA en ec] 89)
 simp only [World.size_alloc] at hy
 have HXB:=Hd hx
 have HYB:=Hd hy
 clear hx hy
 obtain ⟨hsl,hll,hol⟩:=h.lens
 have hsn:=hf.nseq
 have hln:=hf.nlut
 have hon:=hf.nout
 have hin:=hf.inp
 rw [hsl] at hsn
 rw [hll] at hln
 rw [hol] at hon
 have HN:=Hd h
 have HF:=Hd hf
 have HSL:=Hd hsl
 have HLL:=Hd hll
 have HOL:=Hd hol
 have HFI:Hid ((l.first:Int)=1+l.inputs+(sn:Int)):=by show _=_;unfold ai.first;omega
 have HCO:Hid ((l.count:Int)=1+l.inputs+(sn:Int)+(ln:Int)):=by show _=_;unfold ai.count ai.first;omega
 clear h hf hsl hll hol
 rw [HEL.out] at hB
 by_cases hkn:dD l ⟨kd,it,es⟩
 ·have HKN:Hid (tb (bB l/\dD l ⟨kd,it,es⟩)=true):=aa ⟨HF.out,hkn⟩
  have HK:=Hd hkn
  by_cases k3:kd=3
  ·subst k3
   by_cases h0:it=0
   ·subst h0
    cases hr:inR (en:Int) 1 2 with
    | false =>
     have HR:Hid (¬cZ l ⟨3,0,es⟩):=fun h=>by
      rcases (hB.1 h).2 with h|h
      ·rw [aV.2 (by omega)] at hr;cases hr
      ·exact h.1 rfl
     have HRN:=Hd hr
     clear hr hB hkn
     go_enter Tryz.func110,Tryz.ntmps110
     go_upto_region 1 with fail
     generalize (w.alloc (.cells (av l SA LA OA sn sc ln lc on oc) 41)).alloc (.cells #[.int .i64 3,.int .i64 0,.slice EA en ec] 89)=W9 at *
     have x0:=aA (k:=0) HXB.out rfl
     have x1:=aA (k:=1) HXB.out rfl
     have x2:=aA (k:=2) HXB.out rfl
     have x3:=aA (k:=3) HXB.out rfl
     have y0:=aA (k:=0) HYB.out rfl
     have y1:=aA (k:=1) HYB.out rfl
     have y2:=aA (k:=2) HYB.out rfl
     have lx:=aC HXB.out
     have ly:=aC HYB.out
     go_wp2_with fail
     refine (bW l SA LA OA sn sc ln lc on oc 3 0 es EA en ec _ (HN.out.below HB0.out) (HE.out.below HB0.out) hen).mono ?_
     rw [HKN.out]
     rintro _ w1 ⟨rfl,b1⟩
     have HB1:=Hd (aB HB0.out b1)
     clear x0 x1 x2 x3 y0 y1 y2 lx ly
     have x0:=aA (k:=0) (aD b1 HXB.out) rfl
     have x1:=aA (k:=1) (aD b1 HXB.out) rfl
     have x2:=aA (k:=2) (aD b1 HXB.out) rfl
     have x3:=aA (k:=3) (aD b1 HXB.out) rfl
     have y0:=aA (k:=0) (aD b1 HYB.out) rfl
     have y1:=aA (k:=1) (aD b1 HYB.out) rfl
     have y2:=aA (k:=2) (aD b1 HYB.out) rfl
     have lx:=aC (aD b1 HXB.out)
     have ly:=aC (aD b1 HYB.out)
     have HX1:=Hd (aD b1 HXB.out)
     have HY1:=Hd (aD b1 HYB.out)
     clear b1
     go_wp2_with fail
     refine (af (en:Int) 1 2 _).mono ?_
     rw [HRN.out]
     rintro _ w2 ⟨rfl,rfl⟩
     go_wp2_with fail
     go_ret
     exact ⟨aP HR.out,HB1.out⟩
    | true =>
     have hen2:=aV.1 hr
     have HRN:=Hd hr
     have hen3:en<=2:=by omega
     have hen4:1<=en:=by omega
     clear hr hen2
     by_cases hp:(kX l es).length<=5
     ·have HR:Hid (cZ l ⟨3,0,es⟩):=hB.2 ⟨hkn,.inl ⟨rfl,rfl,⟨hen4,hen3⟩,hp⟩⟩
      have HP:=Hd hp
      clear hB hkn hp
      go_enter Tryz.func110,Tryz.ntmps110
      go_upto_region 1 with fail
      generalize (w.alloc (.cells (av l SA LA OA sn sc ln lc on oc) 41)).alloc (.cells #[.int .i64 3,.int .i64 0,.slice EA en ec] 89)=W9 at *
      have x0:=aA (k:=0) HXB.out rfl
      have x1:=aA (k:=1) HXB.out rfl
      have x2:=aA (k:=2) HXB.out rfl
      have x3:=aA (k:=3) HXB.out rfl
      have y0:=aA (k:=0) HYB.out rfl
      have y1:=aA (k:=1) HYB.out rfl
      have y2:=aA (k:=2) HYB.out rfl
      have lx:=aC HXB.out
      have ly:=aC HYB.out
      go_wp2_with fail
      refine (bW l SA LA OA sn sc ln lc on oc 3 0 es EA en ec _ (HN.out.below HB0.out) (HE.out.below HB0.out) hen).mono ?_
      rw [HKN.out]
      rintro _ w1 ⟨rfl,b1⟩
      have HB1:=Hd (aB HB0.out b1)
      clear x0 x1 x2 x3 y0 y1 y2 lx ly
      have x0:=aA (k:=0) (aD b1 HXB.out) rfl
      have x1:=aA (k:=1) (aD b1 HXB.out) rfl
      have x2:=aA (k:=2) (aD b1 HXB.out) rfl
      have x3:=aA (k:=3) (aD b1 HXB.out) rfl
      have y0:=aA (k:=0) (aD b1 HYB.out) rfl
      have y1:=aA (k:=1) (aD b1 HYB.out) rfl
      have y2:=aA (k:=2) (aD b1 HYB.out) rfl
      have lx:=aC (aD b1 HXB.out)
      have ly:=aC (aD b1 HYB.out)
      have HX1:=Hd (aD b1 HXB.out)
      have HY1:=Hd (aD b1 HYB.out)
      clear b1
      go_wp2_with fail
      refine (af (en:Int) 1 2 _).mono ?_
      rw [HRN.out]
      rintro _ w2 ⟨rfl,rfl⟩
      go_wp2_with fail
      refine (mr l SA LA OA sn sc ln lc on oc es EA en ec _ (HN.out.below HB1.out) HF.out (HE.out.below HB1.out) (jb.1 HK.out) (by omega)).mono ?_
      rintro _ w3 ⟨PA,pn,pc,rfl,op,b3⟩
      have HB3:=Hd (aB HB1.out b3)
      have hpl:=op.len
      change (kX l es).length=pn at hpl
      have hpn:pn<=5:=by have:=HP.out;omega
      have dp:decide ((pn:Int)<=5)=true:=decide_eq_true (by omega)
      clear b3 op hpl x0 x1 x2 x3 y0 y1 y2 lx ly
      go_wp2_with fail
      go_ret
      exact ⟨cO HR.out,HB3.out⟩
     ·have HR:Hid (¬cZ l ⟨3,0,es⟩):=fun h=>by
       rcases (hB.1 h).2 with h|h
       ·exact hp h.2.2.2
       ·exact h.1 rfl
      have HP:=Hd hp
      clear hB hkn hp
      go_enter Tryz.func110,Tryz.ntmps110
      go_upto_region 1 with fail
      generalize (w.alloc (.cells (av l SA LA OA sn sc ln lc on oc) 41)).alloc (.cells #[.int .i64 3,.int .i64 0,.slice EA en ec] 89)=W9 at *
      have x0:=aA (k:=0) HXB.out rfl
      have x1:=aA (k:=1) HXB.out rfl
      have x2:=aA (k:=2) HXB.out rfl
      have x3:=aA (k:=3) HXB.out rfl
      have y0:=aA (k:=0) HYB.out rfl
      have y1:=aA (k:=1) HYB.out rfl
      have y2:=aA (k:=2) HYB.out rfl
      have lx:=aC HXB.out
      have ly:=aC HYB.out
      go_wp2_with fail
      refine (bW l SA LA OA sn sc ln lc on oc 3 0 es EA en ec _ (HN.out.below HB0.out) (HE.out.below HB0.out) hen).mono ?_
      rw [HKN.out]
      rintro _ w1 ⟨rfl,b1⟩
      have HB1:=Hd (aB HB0.out b1)
      clear x0 x1 x2 x3 y0 y1 y2 lx ly
      have x0:=aA (k:=0) (aD b1 HXB.out) rfl
      have x1:=aA (k:=1) (aD b1 HXB.out) rfl
      have x2:=aA (k:=2) (aD b1 HXB.out) rfl
      have x3:=aA (k:=3) (aD b1 HXB.out) rfl
      have y0:=aA (k:=0) (aD b1 HYB.out) rfl
      have y1:=aA (k:=1) (aD b1 HYB.out) rfl
      have y2:=aA (k:=2) (aD b1 HYB.out) rfl
      have lx:=aC (aD b1 HXB.out)
      have ly:=aC (aD b1 HYB.out)
      have HX1:=Hd (aD b1 HXB.out)
      have HY1:=Hd (aD b1 HYB.out)
      clear b1
      go_wp2_with fail
      refine (af (en:Int) 1 2 _).mono ?_
      rw [HRN.out]
      rintro _ w2 ⟨rfl,rfl⟩
      go_wp2_with fail
      refine (mr l SA LA OA sn sc ln lc on oc es EA en ec _ (HN.out.below HB1.out) HF.out (HE.out.below HB1.out) (jb.1 HK.out) (by omega)).mono ?_
      rintro _ w3 ⟨PA,pn,pc,rfl,op,b3⟩
      have HB3:=Hd (aB HB1.out b3)
      have hpl:=op.len
      change (kX l es).length=pn at hpl
      have hpn:¬pn<=5:=by have:=HP.out;omega
      have dp:decide ((pn:Int)<=5)=false:=decide_eq_false (by omega)
      clear b3 op hpl x0 x1 x2 x3 y0 y1 y2 lx ly
      go_wp2_with fail
      go_ret
      exact ⟨aP HR.out,HB3.out⟩
   ·have HR:Hid (¬cZ l ⟨3,it,es⟩):=fun h=>by
     rcases (hB.1 h).2 with h|h
     ·exact h0 h.2.1
     ·exact h.1 rfl
    have d0:(it==0)=false:=by simp [h0]
    clear hB hkn h0
    go_enter Tryz.func110,Tryz.ntmps110
    go_upto_region 1 with fail
    generalize (w.alloc (.cells (av l SA LA OA sn sc ln lc on oc) 41)).alloc (.cells #[.int .i64 3,.int .i64 it,.slice EA en ec] 89)=W9 at *
    have x0:=aA (k:=0) HXB.out rfl
    have x1:=aA (k:=1) HXB.out rfl
    have x2:=aA (k:=2) HXB.out rfl
    have x3:=aA (k:=3) HXB.out rfl
    have y0:=aA (k:=0) HYB.out rfl
    have y1:=aA (k:=1) HYB.out rfl
    have y2:=aA (k:=2) HYB.out rfl
    have lx:=aC HXB.out
    have ly:=aC HYB.out
    go_wp2_with fail
    refine (bW l SA LA OA sn sc ln lc on oc 3 it es EA en ec _ (HN.out.below HB0.out) (HE.out.below HB0.out) hen).mono ?_
    rw [HKN.out]
    rintro _ w1 ⟨rfl,b1⟩
    have HB1:=Hd (aB HB0.out b1)
    clear x0 x1 x2 x3 y0 y1 y2 lx ly
    have x0:=aA (k:=0) (aD b1 HXB.out) rfl
    have x1:=aA (k:=1) (aD b1 HXB.out) rfl
    have x2:=aA (k:=2) (aD b1 HXB.out) rfl
    have x3:=aA (k:=3) (aD b1 HXB.out) rfl
    have y0:=aA (k:=0) (aD b1 HYB.out) rfl
    have y1:=aA (k:=1) (aD b1 HYB.out) rfl
    have y2:=aA (k:=2) (aD b1 HYB.out) rfl
    have lx:=aC (aD b1 HXB.out)
    have ly:=aC (aD b1 HYB.out)
    have HX1:=Hd (aD b1 HXB.out)
    have HY1:=Hd (aD b1 HYB.out)
    clear b1
    go_wp2_with fail
    go_ret
    exact ⟨aP HR.out,HB1.out⟩
  ·have d3:(kd != 3)=true:=by simp [k3]
   by_cases he0:en=0
   ·have de:((en:Int)==0)=true:=by simp;omega
    by_cases k2:kd=2
    ·subst k2
     have hit:=jG.1 hkn
     rw [HSL.out] at hit
     obtain ⟨X,rfl⟩:∃X:Nat,it=(X:Int):=⟨it.toNat,by omega⟩
     rw [Int.toNat_natCast] at hB
     have hX:X<sn:=by omega
     obtain ⟨bs,os,IA,im,ic,rfl,hbs,c0,c1,c2,r2⟩:=HN.out.sq.sq' (k:=X) (by rw [HSL.out];exact hX)
     generalize l.seqs[X]?.getD Sq.zero=s at *
     clear c1 c2 r2 k3
     by_cases hk:s.kind=1
     ·have dk:(s.kind==1)=true:=by simp [hk]
      have HR:Hid (cZ l ⟨2,(X:Int),es⟩):=hB.2 ⟨hkn,.inr ⟨by decide,he0,fun _=>hk⟩⟩
      clear hB hkn hk he0 hit
      go_enter Tryz.func110,Tryz.ntmps110
      go_upto_region 1 with fail
      generalize (w.alloc (.cells (av l (some ⟨bs,os,none⟩) LA OA sn sc ln lc on oc) 41)).alloc (.cells #[.int .i64 2,.int .i64 (X:Int),.slice EA en ec] 89)=W9 at *
      have x0:=aA (k:=0) HXB.out rfl
      have x1:=aA (k:=1) HXB.out rfl
      have x2:=aA (k:=2) HXB.out rfl
      have x3:=aA (k:=3) HXB.out rfl
      have y0:=aA (k:=0) HYB.out rfl
      have y1:=aA (k:=1) HYB.out rfl
      have y2:=aA (k:=2) HYB.out rfl
      have lx:=aC HXB.out
      have ly:=aC HYB.out
      go_wp2_with fail
      refine (bW l (some ⟨bs,os,none⟩) LA OA sn sc ln lc on oc 2 (X:Int) es EA en ec _ (HN.out.below HB0.out) (HE.out.below HB0.out) hen).mono ?_
      rw [HKN.out]
      rintro _ w1 ⟨rfl,b1⟩
      have HB1:=Hd (aB HB0.out b1)
      clear x0 x1 x2 x3 y0 y1 y2 lx ly
      have x0:=aA (k:=0) (aD b1 HXB.out) rfl
      have x1:=aA (k:=1) (aD b1 HXB.out) rfl
      have x2:=aA (k:=2) (aD b1 HXB.out) rfl
      have x3:=aA (k:=3) (aD b1 HXB.out) rfl
      have y0:=aA (k:=0) (aD b1 HYB.out) rfl
      have y1:=aA (k:=1) (aD b1 HYB.out) rfl
      have y2:=aA (k:=2) (aD b1 HYB.out) rfl
      have lx:=aC (aD b1 HXB.out)
      have ly:=aC (aD b1 HYB.out)
      have HX1:=Hd (aD b1 HXB.out)
      have HY1:=Hd (aD b1 HYB.out)
      have lbs:=aL HB1.out hbs
      rw [←HB1.out.cell (p:=⟨bs,os+X * 3,none⟩) hbs] at c0
      clear b1
      go_wp2_with fail
      go_ret
      exact ⟨cO HR.out,HB1.out⟩
     ·have dk:(s.kind==1)=false:=by simp [hk]
      have HR:Hid (¬cZ l ⟨2,(X:Int),es⟩):=fun h=>by
       rcases (hB.1 h).2 with h|h
       ·exact absurd h.1 (by decide)
       ·exact hk (h.2.2 rfl)
      clear hB hkn hk he0 hit
      go_enter Tryz.func110,Tryz.ntmps110
      go_upto_region 1 with fail
      generalize (w.alloc (.cells (av l (some ⟨bs,os,none⟩) LA OA sn sc ln lc on oc) 41)).alloc (.cells #[.int .i64 2,.int .i64 (X:Int),.slice EA en ec] 89)=W9 at *
      have x0:=aA (k:=0) HXB.out rfl
      have x1:=aA (k:=1) HXB.out rfl
      have x2:=aA (k:=2) HXB.out rfl
      have x3:=aA (k:=3) HXB.out rfl
      have y0:=aA (k:=0) HYB.out rfl
      have y1:=aA (k:=1) HYB.out rfl
      have y2:=aA (k:=2) HYB.out rfl
      have lx:=aC HXB.out
      have ly:=aC HYB.out
      go_wp2_with fail
      refine (bW l (some ⟨bs,os,none⟩) LA OA sn sc ln lc on oc 2 (X:Int) es EA en ec _ (HN.out.below HB0.out) (HE.out.below HB0.out) hen).mono ?_
      rw [HKN.out]
      rintro _ w1 ⟨rfl,b1⟩
      have HB1:=Hd (aB HB0.out b1)
      clear x0 x1 x2 x3 y0 y1 y2 lx ly
      have x0:=aA (k:=0) (aD b1 HXB.out) rfl
      have x1:=aA (k:=1) (aD b1 HXB.out) rfl
      have x2:=aA (k:=2) (aD b1 HXB.out) rfl
      have x3:=aA (k:=3) (aD b1 HXB.out) rfl
      have y0:=aA (k:=0) (aD b1 HYB.out) rfl
      have y1:=aA (k:=1) (aD b1 HYB.out) rfl
      have y2:=aA (k:=2) (aD b1 HYB.out) rfl
      have lx:=aC (aD b1 HXB.out)
      have ly:=aC (aD b1 HYB.out)
      have HX1:=Hd (aD b1 HXB.out)
      have HY1:=Hd (aD b1 HYB.out)
      have lbs:=aL HB1.out hbs
      rw [←HB1.out.cell (p:=⟨bs,os+X * 3,none⟩) hbs] at c0
      clear b1
      go_wp2_with fail
      go_ret
      exact ⟨aP HR.out,HB1.out⟩
    ·have d2:(kd != 2)=true:=by simp [k2]
     have HR:Hid (cZ l ⟨kd,it,es⟩):=hB.2 ⟨hkn,.inr ⟨k3,he0,fun h=>absurd h k2⟩⟩
     clear hB hkn k2 he0 k3
     go_enter Tryz.func110,Tryz.ntmps110
     go_upto_region 1 with fail
     generalize (w.alloc (.cells (av l SA LA OA sn sc ln lc on oc) 41)).alloc (.cells #[.int .i64 kd,.int .i64 it,.slice EA en ec] 89)=W9 at *
     have x0:=aA (k:=0) HXB.out rfl
     have x1:=aA (k:=1) HXB.out rfl
     have x2:=aA (k:=2) HXB.out rfl
     have x3:=aA (k:=3) HXB.out rfl
     have y0:=aA (k:=0) HYB.out rfl
     have y1:=aA (k:=1) HYB.out rfl
     have y2:=aA (k:=2) HYB.out rfl
     have lx:=aC HXB.out
     have ly:=aC HYB.out
     go_wp2_with fail
     refine (bW l SA LA OA sn sc ln lc on oc kd it es EA en ec _ (HN.out.below HB0.out) (HE.out.below HB0.out) hen).mono ?_
     rw [HKN.out]
     rintro _ w1 ⟨rfl,b1⟩
     have HB1:=Hd (aB HB0.out b1)
     clear x0 x1 x2 x3 y0 y1 y2 lx ly
     have x0:=aA (k:=0) (aD b1 HXB.out) rfl
     have x1:=aA (k:=1) (aD b1 HXB.out) rfl
     have x2:=aA (k:=2) (aD b1 HXB.out) rfl
     have x3:=aA (k:=3) (aD b1 HXB.out) rfl
     have y0:=aA (k:=0) (aD b1 HYB.out) rfl
     have y1:=aA (k:=1) (aD b1 HYB.out) rfl
     have y2:=aA (k:=2) (aD b1 HYB.out) rfl
     have lx:=aC (aD b1 HXB.out)
     have ly:=aC (aD b1 HYB.out)
     have HX1:=Hd (aD b1 HXB.out)
     have HY1:=Hd (aD b1 HYB.out)
     clear b1
     go_wp2_with fail
     go_ret
     exact ⟨cO HR.out,HB1.out⟩
   ·have de:((en:Int)==0)=false:=by simp;omega
    have HR:Hid (¬cZ l ⟨kd,it,es⟩):=fun h=>by
     rcases (hB.1 h).2 with h|h
     ·exact k3 h.1
     ·exact he0 h.2.1
    clear hB hkn he0 k3
    go_enter Tryz.func110,Tryz.ntmps110
    go_upto_region 1 with fail
    generalize (w.alloc (.cells (av l SA LA OA sn sc ln lc on oc) 41)).alloc (.cells #[.int .i64 kd,.int .i64 it,.slice EA en ec] 89)=W9 at *
    have x0:=aA (k:=0) HXB.out rfl
    have x1:=aA (k:=1) HXB.out rfl
    have x2:=aA (k:=2) HXB.out rfl
    have x3:=aA (k:=3) HXB.out rfl
    have y0:=aA (k:=0) HYB.out rfl
    have y1:=aA (k:=1) HYB.out rfl
    have y2:=aA (k:=2) HYB.out rfl
    have lx:=aC HXB.out
    have ly:=aC HYB.out
    go_wp2_with fail
    refine (bW l SA LA OA sn sc ln lc on oc kd it es EA en ec _ (HN.out.below HB0.out) (HE.out.below HB0.out) hen).mono ?_
    rw [HKN.out]
    rintro _ w1 ⟨rfl,b1⟩
    have HB1:=Hd (aB HB0.out b1)
    clear x0 x1 x2 x3 y0 y1 y2 lx ly
    have x0:=aA (k:=0) (aD b1 HXB.out) rfl
    have x1:=aA (k:=1) (aD b1 HXB.out) rfl
    have x2:=aA (k:=2) (aD b1 HXB.out) rfl
    have x3:=aA (k:=3) (aD b1 HXB.out) rfl
    have y0:=aA (k:=0) (aD b1 HYB.out) rfl
    have y1:=aA (k:=1) (aD b1 HYB.out) rfl
    have y2:=aA (k:=2) (aD b1 HYB.out) rfl
    have lx:=aC (aD b1 HXB.out)
    have ly:=aC (aD b1 HYB.out)
    have HX1:=Hd (aD b1 HXB.out)
    have HY1:=Hd (aD b1 HYB.out)
    clear b1
    go_wp2_with fail
    go_ret
    exact ⟨aP HR.out,HB1.out⟩
 ·have HKN:Hid (tb (bB l/\dD l ⟨kd,it,es⟩)=false):=bF fun h=>hkn h.2
  have HR:Hid (¬cZ l ⟨kd,it,es⟩):=fun h=>hkn (hB.1 h).1
  clear hB hkn
  go_enter Tryz.func110,Tryz.ntmps110
  go_upto_region 1 with fail
  generalize (w.alloc (.cells (av l SA LA OA sn sc ln lc on oc) 41)).alloc (.cells #[.int .i64 kd,.int .i64 it,.slice EA en ec] 89)=W9 at *
  have x0:=aA (k:=0) HXB.out rfl
  have x1:=aA (k:=1) HXB.out rfl
  have x2:=aA (k:=2) HXB.out rfl
  have x3:=aA (k:=3) HXB.out rfl
  have y0:=aA (k:=0) HYB.out rfl
  have y1:=aA (k:=1) HYB.out rfl
  have y2:=aA (k:=2) HYB.out rfl
  have lx:=aC HXB.out
  have ly:=aC HYB.out
  go_wp2_with fail
  refine (bW l SA LA OA sn sc ln lc on oc kd it es EA en ec _ (HN.out.below HB0.out) (HE.out.below HB0.out) hen).mono ?_
  rw [HKN.out]
  rintro _ w1 ⟨rfl,b1⟩
  have HB1:=Hd (aB HB0.out b1)
  clear x0 x1 x2 x3 y0 y1 y2 lx ly
  have HX1:=Hd (aD b1 HXB.out)
  have HY1:=Hd (aD b1 HYB.out)
  clear b1
  go_wp2_with fail
  go_ret
  exact ⟨aP HR.out,HB1.out⟩
end Go.Proofs.YtofihjoanjkdmaaGreat
