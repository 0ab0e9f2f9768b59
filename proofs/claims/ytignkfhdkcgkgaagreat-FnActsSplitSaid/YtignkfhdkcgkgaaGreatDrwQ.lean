/- Codewords of one flipped bit are repaired; frames with such codewords are scrubbed back: plain lemmas. -/
import Derived.Test.YtignkfhdkcgkgaaGreatBkS
import Derived.Test.YtignkfhdkcgkgaaGreatDrwR
import Derived.Test.YtignkfhdkcgkgaaGreatOpp
import Derived.Test.YtignkfhdkcgkgaaGreatTileHar
namespace Go.Proofs.YtignkfhdkcgkgaaGreat
set_option maxHeartbeats 8000000
set_option maxRecDepth 100000
open Go.RowKit Cw
def pQ (f:List Int):Prop:=∀j,j<f.length→∃x:Nat,x<65536/\f[j]?.getD 0=((encW x:Nat):Int)
theorem EC (d:Dev) (t:aZ):pQ (qI d t):=by
 intro j hj
 rw [pO] at hj
 have hb:=Fb d t j
 refine ⟨((tN d t)[j]?.getD 0).toNat,by omega,?_⟩
 rw [qI,List.getElem?_map,getD_some 0 (by rw [ny];exact hj)]
 rfl
theorem yJ {d:Dev} {ts:List aZ} (j:Nat):pQ ((jl d ts)[j]?.getD []):=by
 rw [jl,List.getElem?_map]
 cases ts[j]? with
 | none=>intro i hi;simp at hi
 | some t=>exact EC d t
/-! ### several rows, each flipped at most once -/
structure J7 (d:Dev) (fs:List (List Int)) (kk bb:Nat→Nat):Prop where
 ok:ae d fs=true
 code:∀j:Nat,pQ (fs[j]?.getD [])
 word:∀j,kk j<(fwI d).toNat
 bit:∀j,bb j<22
section
variable {d:Dev} {fs:List (List Int)} {c:Nat→Bool} {kk bb:Nat→Nat}
theorem J7.len (h:J7 d fs kk bb) {j:Nat} (hj:j<fs.length):(fs[j]?.getD []).length=(fwI d).toNat:=by
 have h1:=(af h.ok).2.2 j hj
 unfold bJ at h1
 rw [Bool.and_eq_true,decide_eq_true_eq] at h1
 omega
end
def Hf (x:Int):Int:=((encW x.toNat:Nat):Int)
theorem Ez (x:Int):0<=Hf x/\Hf x<=4194303:=by
 have:=Fa x.toNat
 unfold Hf
 omega
theorem ED {c b:Int} (h:0<=c/\c<=4194303):0<=iI c b/\iI c b<=4194303:=by
 unfold iI
 split
 ·rename_i hb
  rw [Bool.and_eq_true,aa,aa] at hb
  obtain ⟨cn,rfl⟩:∃n:Nat,c=n:=⟨c.toNat,by omega⟩
  obtain ⟨bn,rfl⟩:∃n:Nat,b=n:=⟨b.toNat,by omega⟩
  have hp:2 ^ bn<2 ^ 22:=Nat.pow_lt_pow_right (by omega) (by omega)
  have hx:=mo (show cn<4194304 by omega) (show bn<=21 by omega)
  rw [Int.toNat_natCast,jY,jQ _ _ (by omega) (by omega)]
  omega
 ·exact h
theorem Iz {c:Int} (h:0<=c/\c<=4194303):0<=uG c/\uG c<=4194303:=by
 unfold uG pY
 split
 ·exact Ez _
 ·exact h
theorem lY {ws:List Int} {n m:Int}:bJ ws n m=true↔(ws.length:Int)=n/\∀j,j<ws.length→0<=ws[j]?.getD 0/\ws[j]?.getD 0<=m:=by
 unfold bJ
 rw [Bool.and_eq_true,decide_eq_true_eq]
 exact ⟨fun h=>⟨h.1,fun j hj=>lJ h.2 hj⟩,fun h=>⟨h.1,iZ fun j hj=>aa.2 (h.2 j hj)⟩⟩
theorem BR {ws:List Int} {n m:Int} (h:bJ ws n m=true) {k:Nat} {v:Int} (hv:k<ws.length→0<=v/\v<=m):bJ (ws.set k v) n m=true:=by
 rw [lY] at h ⊢
 refine ⟨by rw [List.length_set];exact h.1,fun j hj=>?_⟩
 rw [List.length_set] at hj
 rw [xW]
 split
 ·rename_i e;exact hv e.2
 ·exact h.2 j hj
theorem BS {ws:List Int} {n m:Int} {f:Int→Int} (h:bJ ws n m=true) (hf:∀x,0<=x/\x<=m→0<=f x/\f x<=m):bJ (ws.map f) n m=true:=by
 rw [lY] at h ⊢
 refine ⟨by rw [List.length_map];exact h.1,fun j hj=>?_⟩
 rw [List.length_map] at hj
 rw [List.getElem?_map,getD_some 0 hj]
 exact hf _ (h.2 j hj)
theorem BU {ws:List Int} {n m:Int} (h:bJ ws n m=true):bJ (ws.map Hf) n 4194303=true:=by
 rw [lY] at h ⊢
 refine ⟨by rw [List.length_map];exact h.1,fun j hj=>?_⟩
 rw [List.length_map] at hj
 rw [List.getElem?_map,getD_some 0 hj]
 exact Ez _
theorem BV {ws:List Int} {n:Int} (h:bJ ws n 65535=true):pQ (ws.map Hf):=by
 rw [lY] at h
 intro j hj
 rw [List.length_map] at hj
 have:=h.2 j hj
 exact ⟨(ws[j]?.getD 0).toNat,by omega,by rw [List.getElem?_map,getD_some 0 hj];rfl⟩
theorem uu {l:List (List Int)} {i j:Nat} {v:List Int}:(l.set i v)[j]?.getD []=if i=j/\i<l.length then v else l[j]?.getD []:=by
 by_cases h:i=j
 ·subst h
  by_cases h2:i<l.length
  ·rw [if_pos ⟨rfl,h2⟩];simp [h2]
  ·rw [if_neg (fun h=>h2 h.2),List.set_eq_of_length_le (by omega)]
 ·rw [if_neg (fun h2=>h h2.1),List.getElem?_set_ne h]
theorem pR {d:Dev} {fs:List (List Int)} (h:ae d fs=true) {t:Nat} {f:List Int} (hf:t<fs.length→bJ f (fwI d) 4194303=true):ae d (fs.set t f)=true:=by
 obtain ⟨h1,h2,h3⟩:=af h
 refine jd h1 (by rw [List.length_set];exact h2) fun j hj=>?_
 rw [List.length_set] at hj
 rw [uu]
 split
 ·rename_i e;exact hf e.2
 ·exact h3 j hj
theorem yK {d:Dev} {fs:List (List Int)} (h:ae d fs=true) (t k b:Int):ae d (bg d fs t k b)=true:=by
 unfold bg
 split
 ·refine pR h fun ht=>?_
  have h3:=(af h).2.2 t.toNat ht
  exact BR h3 fun hk=>ED ((lY.1 h3).2 _ hk)
 ·exact h
theorem qU {d:Dev} {fs:List (List Int)} (h:ae d fs=true):ae d (dF d fs)=true:=by
 obtain ⟨h1,h2,h3⟩:=af h
 rw [dF,if_pos h]
 refine jd h1 (by rw [List.length_map];exact h2) fun j hj=>?_
 rw [List.length_map] at hj
 rw [List.getElem?_map,getD_some [] hj]
 exact BS (h3 j hj) fun x hx=>Iz hx
theorem dQ.setMux {lo hi:Nat} {w:World} {n c i j:Nat} {A:Option Addr} {ts:List aZ} {t:aZ} (h:dQ lo hi w (kY ts) (.slice A n c)) (hx:ts[i]?=some t) (hj:j<t.mux.length) :
  ∃g gm p,A=some ⟨g,0,none⟩/\g<w.heap.size/\w.cell? ⟨g,i * 4,none⟩=some (.slice (some ⟨gm,0,none⟩) t.mux.length p)/\lo<=gm/\gm<hi/\gm<w.heap.size/\w.cell? ⟨gm,j,none⟩=some (.int .i64 (t.mux[j]?.getD 0))/\w.frozen? ⟨gm,j,none⟩=false /\
   ∀y:Int,dQ lo hi (w.setCell ⟨gm,j,none⟩ (.int .i64 y)) (kY (ts.set i { t with mux:=t.mux.set j y })) (.slice A n c):=by
 obtain ⟨F,ho,hF,hin⟩:=h
 obtain ⟨g,S,m,p,rfl,hc,hs,hsub,hup⟩:=ho.tMux hF hx
 have hm:=hs.len
 subst hm
 obtain ⟨gm,cur,rfl,_,hgl,hh,_⟩:=hs.block (by omega)
 have hk:=hin gm (hsub gm (by simp [blk]))
 obtain ⟨c1,c2⟩:=hs.cellAt hj
 exact ⟨g,gm,p,rfl,FV hc,hc,hk.1,hk.2,hgl,c1,c2,fun y=>⟨F,hup _ _ (hs.stored hj y) (IM (by simp [blk]) _),hF,hin⟩⟩
theorem Fq {d:Dev} {t:aZ} (h:iD d t=true) (j:Nat):iD d { t with mux:=t.mux.set j 0 }=true:=by
 unfold iD at h ⊢
 simp only [Bool.and_eq_true,decide_eq_true_eq] at h ⊢
 obtain ⟨h1,h2,h3,h4,h5,h6,h7⟩:=h
 refine ⟨h1,by rw [List.length_set];exact h2,h3,h4,h5,iZ fun i hi=>aa.2 ?_,h7⟩
 rw [List.length_set] at hi
 rw [xW]
 split
 ·omega
 ·exact lJ h6 hi
theorem Fu {l:List aZ} {i j:Nat} {v:aZ}:(l.set i v)[j]?.getD aZ.zero=if i=j/\i<l.length then v else l[j]?.getD aZ.zero:=by
 by_cases h:i=j
 ·subst h
  by_cases h2:i<l.length
  ·rw [if_pos ⟨rfl,h2⟩];simp [h2]
  ·rw [if_neg (fun h=>h2 h.2),List.set_eq_of_length_le (by omega)]
 ·rw [if_neg (fun h2=>h h2.1),List.getElem?_set_ne h]
def Hg (d:Dev) (ts:List aZ):Prop:=ts.length=tiles d/\∀j,j<ts.length→iD d (ts[j]?.getD aZ.zero)=true
theorem Hg.mux0 {d:Dev} {ts:List aZ} (h:Hg d ts) (i j:Nat) (hi:i<ts.length):Hg d (ts.set i { (ts[i]?.getD aZ.zero) with mux:=(ts[i]?.getD aZ.zero).mux.set j 0 }):=by
 refine ⟨by rw [List.length_set];exact h.1,fun k hk=>?_⟩
 rw [List.length_set] at hk
 rw [Fu]
 split
 ·exact Fq (h.2 i hi) j
 ·exact h.2 k hk
theorem pU {d:Dev} {t:aZ} (h:iD d t=true):t.mux.length=fK d:=by
 unfold iD at h
 simp only [Bool.and_eq_true,decide_eq_true_eq] at h
 exact h.2.1
theorem zm (d:Dev) (A:Option Addr) (m c:Nat) (fs:List (List Int)) (r:Reg) (w:World) (hA:eD w A m fs) (hz:bF fs<=1099511627776) (hf:ae d fs=true) :
  Calls Tryz.prog 90 #[.agg #[.int .i64 d.W,.int .i64 d.H,.int .i64 d.T,.int .i64 d.R],.slice A m c,.agg #[.int .i64 r.X0,.int .i64 r.Y0,.int .i64 r.X1,.int .i64 r.Y1]] w fun e w'=>∃(ts:List aZ) (A':Option Addr) (c':Nat),e = .returned (.slice A' (tiles d) c')/\ts.length=tiles d/\dA w.heap.size w'.heap.size w' A' (tiles d) c' (jl d ts)/\Below w.heap.size w w':=by
 have HB0:=Hd (aB (aB (Below.refl w.heap.size w) (.cells #[.int .i64 d.W,.int .i64 d.H,.int .i64 d.T,.int .i64 d.R] 25)) (.cells #[.int .i64 r.X0,.int .i64 r.Y0,.int .i64 r.X1,.int .i64 r.Y1] 29))
 have X0:=Hd (aW (.cells #[.int .i64 r.X0,.int .i64 r.Y0,.int .i64 r.X1,.int .i64 r.Y1] 29) (aK w (.cells #[.int .i64 d.W,.int .i64 d.H,.int .i64 d.T,.int .i64 d.R] 25)))
 have Y0:Hid (((w.alloc (.cells #[.int .i64 d.W,.int .i64 d.H,.int .i64 d.T,.int .i64 d.R] 25)).alloc (.cells #[.int .i64 r.X0,.int .i64 r.Y0,.int .i64 r.X1,.int .i64 r.Y1] 29)).heap[w.heap.size+1]?=some (.cells #[.int .i64 r.X0,.int .i64 r.Y0,.int .i64 r.X1,.int .i64 r.Y1] 29 (0,0))):=ax (by simp)
 have HI:=Hd hA
 have HRF:Hid (kR d fs=ay d fs):=by show _=_;rw [kR,hf,if_pos rfl]
 have hdv:=(af hf).1
 have HD:=Hd hdv
 have hnb:=dC hdv
 have hmb:=(gY hdv).1
 have hmc:=(gY hdv).2.2.1
 have hp:=dB hdv
 have hpd:aM d=7+4 * d.T:=rfl
 have HCF:=Hd (jC hf)
 have htb:=(bO hdv).1
 have htb2:=(bO hdv).2.2
 have hT:=ah hdv
 clear hA hf hdv
 go_enter Tryz.func90,Tryz.ntmps90
 go_wp2_with fail
 refine (jh d A m c fs _ (HI.out.below HB0.out) hz).mono ?_
 rintro e w3 ⟨A3,m3,c3,rfl,o3,b3⟩
 rw [HRF.out] at o3
 have hs3:=b3.size
 simp only [World.size_alloc] at hs3 o3
 have HB3:=Hd (aA HB0.out b3)
 have X3:=Hd (aJ b3 X0.out)
 have Y3:=Hd (aJ b3 Y0.out)
 have hm3:m3=tiles d:=by rw [←o3.rd.tlen];exact HCF.out.len
 have O3:=Hd o3
 clear b3 o3
 subst hm3
 obtain ⟨z0,z1,z2,z3⟩:=dK X3.out
 go_wp2_with fail
 refine (nE d A3 (tiles d) c3 (ay d fs) _ O3.out.rd HCF.out).mono ?_
 rintro e w4 ⟨A4,c4,rfl,o4,b4⟩
 have hs4:=b4.size
 have HB4:=Hd (aA HB3.out b4)
 have X4:=Hd (aJ b4 X3.out)
 have Y4:=Hd (aJ b4 Y3.out)
 have O4:=Hd o4
 have T4:=Hd (O3.out.below b4)
 clear b4 o4 z0 z1 z2 z3
 obtain ⟨z0,z1,z2,z3⟩:=dK X4.out
 go_wp2_with fail
 refine (dD d _ (by omega) (by omega)).mono ?_
 rintro e w5 ⟨rfl,b5⟩
 have hs5:=b5.size
 have HB5:=Hd (aA HB4.out b5)
 have X5:=Hd (aJ b5 X4.out)
 have Y5:=Hd (aJ b5 Y4.out)
 have O5:=Hd (O4.out.below b5)
 have T5:=Hd (T4.out.below b5)
 clear b5 z0 z1 z2 z3
 obtain ⟨N,hN⟩:∃N:Nat,az d=(N:Int):=⟨(az d).toNat,by omega⟩
 have hNN:(az d).toNat=N:=by omega
 have HN:=Hd hN
 rw [hN] at hnb
 generalize (az d).toNat=NN at *
 subst hNN
 clear hN
 generalize hS3:w3.heap.size=S3 at *
 clear hS3
 have HTO0:Hid (Hg d (ay d fs)):=⟨HCF.out.len,HCF.out.fit⟩
 have HMP:=Hd hpd
 clear hpd
 have hpe0:¬aM d=0:=by omega
 go_wp2_with fail
 go_loopw [10] (fun i wr=>∃(k:Nat) (ts:List aZ),k<=NN/\i = .int .i64 k/\Below w.heap.size w wr/\wr.heap[w.heap.size]?=some (.cells #[.int .i64 d.W,.int .i64 d.H,.int .i64 d.T,.int .i64 d.R] 25 (0,0))/\wr.heap[w.heap.size+1]?=some (.cells #[.int .i64 r.X0,.int .i64 r.Y0,.int .i64 r.X1,.int .i64 r.Y1] 29 (0,0))/\dQ (w.heap.size+1+1) S3 wr (kY ts) (.slice A3 (tiles d) c3)/\Hg d ts/\Own S3 wr A4 NN c4 (nD d (ay d fs) NN)/\S3<=wr.heap.size) (fun i _=>NN - (intOf i).toNat)
 case atStart=>exact ⟨0,_,by omega,rfl,HB5.out,X5.out,Y5.out,T5.out,HTO0.out,O5.out,by omega⟩
 case round =>
  obtain ⟨k,ts,hk,rfl,hb,hx,hy,ht,hto,ho,hsz⟩:=hrel
  have HB:=Hd hb
  have HX:=Hd hx
  have HY:=Hd hy
  have HT:=Hd ht
  have HTO:=Hd hto
  have HO:=Hd ho
  clear hb hx hy ht hto ho
  by_cases hlt:k<NN
  ·have hdk:decide ((k:Int)<(NN:Int))=true:=by simp;omega
   have hni:cB d (k:Int)=true:=iW.2 ⟨HD.out,by omega,by rw [HN.out];omega⟩
   obtain ⟨_,n0,n1,hq0,hq1,hr0,hr1⟩:=dP hni
   have HDN:=Hd (fun h=>(q9 (n:=(k:Int)) HCF.out h).1)
   obtain ⟨b,o,rfl,hbl,hc⟩:=HO.out.ints.2 (by omega)
   have hck:=hc k hlt
   rw [ou hlt] at hck
   generalize gB d (ay d fs) (k:Int)=s at *
   clear hni hc
   have e1:((k:Int)).tmod (aM d)=(k:Int) % aM d:=Int.tmod_eq_emod_of_nonneg (by omega)
   obtain ⟨q,hq⟩:∃q:Nat,(k:Int) % aM d=(q:Int):=⟨((k:Int) % aM d).toNat,by omega⟩
   obtain ⟨tq,htqe⟩:∃t:Nat,(k:Int) / aM d=(t:Int):=⟨((k:Int) / aM d).toNat,by omega⟩
   rw [hq] at e1 hr0 hr1
   rw [htqe] at hq0 hq1
   have htq:tq<tiles d:=by omega
   have e2:IntKind.i64.wrap (((k:Int)).tdiv (aM d))=(tq:Int):=(IntWalk.i64_quo _ _ ⟨n0,by omega,by omega⟩).trans htqe
   have e2w:wrap64 ((k:Int) / aM d)=(tq:Int):=(IntWalk.wrap64_in _ (by omega)).trans htqe
   have i0:(0:Int)<=(k:Int):=by omega
   have i1:(k:Int)<(NN:Int):=by omega
   obtain ⟨z0,z1,z2,z3⟩:=dK HX.out
   obtain ⟨y0,y1,y2,y3⟩:=dK HY.out
   have hbr:b<wr.heap.size:=hbl
   have hwr:w.heap.size+1<wr.heap.size:=aG HY.out
   have hwr0:w.heap.size<wr.heap.size:=by omega
   have HQ:=Hd hq
   have HTQ:=Hd htqe
   have hpm:(q:Int)<7+4 * d.T:=by rw [←HMP.out];exact hr1
   clear hq htqe
   by_cases h7:7<=q
   ·have hd7:decide ((q:Int)≥7)=true:=by simp;omega
    obtain ⟨pj,hpj⟩:∃p:Nat,p+2=q:=⟨q - 2,by omega⟩
    have a9:IntKind.i64.wrap ((q:Int) - 2)=(pj:Int):=(IntWalk.i64_in _ (by omega)).trans (by omega)
    have hpjm:pj<fK d:=by omega
    have hpj0:(0:Int)<=(pj:Int):=by omega
    have HPJ:=Hd hpj
    clear hpj
    by_cases hs0:s<0
    ·have hds:decide (s≥0)=false:=by simp;omega
     have HC:Hid True:=Hd trivial
     have HC2:=HC
     go_wp2_with fail
     have hsub:=eO wr
     have hsc:=cZ wr
     refine bB wr (by kernel_rfl) (by kernel_rfl) (Below.refl _ _) ?_
     repeat (go_big_quiet_step ((go_at_call 155;(first|with_reducible exact au (HC.out _)|with_reducible exact au (HC2.out _)))))
     refine wpQuiet_nil ?_
     rintro _ ⟨⟨w4,hD⟩,rfl⟩
     clear hsub hsc z0 z1 z2 z3 y0 y1 y2 y3 hck
     have hs4:=hD.size
     replace HB:=Hd (aA HB.out hD)
     replace HX:=Hd (aJ hD HX.out)
     replace HY:=Hd (aJ hD HY.out)
     replace HT:=Hd (HT.out.below hD)
     replace HO:=Hd (HO.out.below hD)
     clear hD
     go_wp2_with fail
     go_roundw
     case rel=>exact ⟨k+1,ts,by omega,by go_num,HB.out,HX.out,HY.out,HT.out,HTO.out,HO.out,by omega⟩
     case measure=>simp [intOf];omega
    ·have hds:decide (s≥0)=true:=by simp;omega
     have hsi:=HDN.out (by omega)
     obtain ⟨_,s0,s1,hqs0,hqs1,_⟩:=dP hsi
     have e3:IntKind.i64.wrap (s.tdiv (aM d))=s / aM d:=IntWalk.i64_quo _ _ ⟨s0,by omega,by omega⟩
     clear hsi
     have e3w:wrap64 (s / aM d)=s / aM d:=IntWalk.wrap64_in _ (by omega)
     cases h1:fq d r (tq:Int) with
     | true =>
      have HC:=Hd (fun w=>dZ h1 HD.out (by omega) (by omega) w)
      have HC2:=HC
      clear h1
      go_wp2_with fail
      have hsub:=eO wr
      have hsc:=cZ wr
      refine bB wr (by kernel_rfl) (by kernel_rfl) (Below.refl _ _) ?_
      repeat (go_big_quiet_step ((go_at_call 155;(first|with_reducible exact au (HC.out _)|with_reducible exact au (HC2.out _)))))
      refine wpQuiet_nil ?_
      rintro _ ⟨⟨w4,hD⟩,rfl⟩
      clear hsub hsc z0 z1 z2 z3 y0 y1 y2 y3 hck
      have hs4:=hD.size
      replace HB:=Hd (aA HB.out hD)
      replace HX:=Hd (aJ hD HX.out)
      replace HY:=Hd (aJ hD HY.out)
      replace HT:=Hd (HT.out.below hD)
      replace HO:=Hd (HO.out.below hD)
      clear hD
      go_wp2_with fail
      go_roundw
      case rel=>exact ⟨k+1,ts,by omega,by go_num,HB.out,HX.out,HY.out,HT.out,HTO.out,HO.out,by omega⟩
      case measure=>simp [intOf];omega
     | false =>
      have HC:=Hd (fun w=>dZ h1 HD.out (by omega) (by omega) w)
      clear h1
      cases h2:fq d r (s / aM d) with
      | false =>
       have HC2:=Hd (fun w=>dZ h2 HD.out hqs0 (by omega) w)
       clear h2
       go_wp2_with fail
       have hsub:=eO wr
       have hsc:=cZ wr
       refine bB wr (by kernel_rfl) (by kernel_rfl) (Below.refl _ _) ?_
       repeat (go_big_quiet_step ((go_at_call 155;(first|with_reducible exact au (HC.out _)|with_reducible exact au (HC2.out _)))))
       refine wpQuiet_nil ?_
       rintro _ ⟨⟨w4,hD⟩,rfl⟩
       clear hsub hsc z0 z1 z2 z3 y0 y1 y2 y3 hck
       have hs4:=hD.size
       replace HB:=Hd (aA HB.out hD)
       replace HX:=Hd (aJ hD HX.out)
       replace HY:=Hd (aJ hD HY.out)
       replace HT:=Hd (HT.out.below hD)
       replace HO:=Hd (HO.out.below hD)
       clear hD
       go_wp2_with fail
       go_roundw
       case rel=>exact ⟨k+1,ts,by omega,by go_num,HB.out,HX.out,HY.out,HT.out,HTO.out,HO.out,by omega⟩
       case measure=>simp [intOf];omega
      | true =>
       have HC2:=Hd (fun w=>dZ h2 HD.out hqs0 (by omega) w)
       clear h2
       go_wp2_with fail
       have hsub:=eO wr
       have hsc:=cZ wr
       refine bB wr (by kernel_rfl) (by kernel_rfl) (Below.refl _ _) ?_
       repeat (go_big_quiet_step ((go_at_call 155;(first|with_reducible exact au (HC.out _)|with_reducible exact au (HC2.out _)))))
       refine wpQuiet_nil ?_
       rintro _ ⟨⟨w4,hD⟩,rfl⟩
       clear hsub hsc z0 z1 z2 z3 y0 y1 y2 y3 hck
       have hs4:=hD.size
       replace HB:=Hd (aA HB.out hD)
       replace HX:=Hd (aJ hD HX.out)
       replace HY:=Hd (aJ hD HY.out)
       replace HT:=Hd (HT.out.below hD)
       replace HO:=Hd (HO.out.below hD)
       clear hD
       have htl:tq<ts.length:=by rw [HTO.out.1];exact htq
       obtain ⟨gt,gm,p,rfl,hgt,hct,hlo,hhi,hgm,hcm,hfm,hset⟩:=HT.out.setMux (i:=tq) (j:=pj) (getD_some aZ.zero htl) (by rw [pU (HTO.out.2 _ htl)];omega)
       have HS0:=Hd (hset 0)
       have HTOn:=Hd (HTO.out.mux0 tq pj htl)
       have hml:(ts[tq]?.getD aZ.zero).mux.length=fK d:=pU (HTO.out.2 _ htl)
       rw [hml] at hct
       clear hset hml
       generalize (ts[tq]?.getD aZ.zero).mux[pj]?.getD 0=oldv at *
       go_wp2_with fail
       go_roundw
       case rel=>exact ⟨k+1,_,by omega,by go_num,HB.out.setCell (by show w.heap.size<=gm;omega) _,fC HX.out (by show w.heap.size≠gm;omega) _,fC HY.out (by show w.heap.size+1≠gm;omega) _,HS0.out,HTOn.out,HO.out.far (by show gm<S3;omega) _,by simp [World.setCell];omega⟩
       case measure=>simp [intOf];omega
   ·have hd7:decide ((q:Int)≥7)=false:=by simp;omega
    obtain ⟨pj,rfl⟩:∃p:Nat,p=q:=⟨q,rfl⟩
    have hpjm:pj<fK d:=by omega
    by_cases hs0:s<0
    ·have hds:decide (s≥0)=false:=by simp;omega
     have HC:Hid True:=Hd trivial
     have HC2:=HC
     go_wp2_with fail
     have hsub:=eO wr
     have hsc:=cZ wr
     refine bB wr (by kernel_rfl) (by kernel_rfl) (Below.refl _ _) ?_
     repeat (go_big_quiet_step ((go_at_call 155;(first|with_reducible exact au (HC.out _)|with_reducible exact au (HC2.out _)))))
     refine wpQuiet_nil ?_
     rintro _ ⟨⟨w4,hD⟩,rfl⟩
     clear hsub hsc z0 z1 z2 z3 y0 y1 y2 y3 hck
     have hs4:=hD.size
     replace HB:=Hd (aA HB.out hD)
     replace HX:=Hd (aJ hD HX.out)
     replace HY:=Hd (aJ hD HY.out)
     replace HT:=Hd (HT.out.below hD)
     replace HO:=Hd (HO.out.below hD)
     clear hD
     go_wp2_with fail
     go_roundw
     case rel=>exact ⟨k+1,ts,by omega,by go_num,HB.out,HX.out,HY.out,HT.out,HTO.out,HO.out,by omega⟩
     case measure=>simp [intOf];omega
    ·have hds:decide (s≥0)=true:=by simp;omega
     have hsi:=HDN.out (by omega)
     obtain ⟨_,s0,s1,hqs0,hqs1,_⟩:=dP hsi
     have e3:IntKind.i64.wrap (s.tdiv (aM d))=s / aM d:=IntWalk.i64_quo _ _ ⟨s0,by omega,by omega⟩
     clear hsi
     have e3w:wrap64 (s / aM d)=s / aM d:=IntWalk.wrap64_in _ (by omega)
     cases h1:fq d r (tq:Int) with
     | true =>
      have HC:=Hd (fun w=>dZ h1 HD.out (by omega) (by omega) w)
      have HC2:=HC
      clear h1
      go_wp2_with fail
      have hsub:=eO wr
      have hsc:=cZ wr
      refine bB wr (by kernel_rfl) (by kernel_rfl) (Below.refl _ _) ?_
      repeat (go_big_quiet_step ((go_at_call 155;(first|with_reducible exact au (HC.out _)|with_reducible exact au (HC2.out _)))))
      refine wpQuiet_nil ?_
      rintro _ ⟨⟨w4,hD⟩,rfl⟩
      clear hsub hsc z0 z1 z2 z3 y0 y1 y2 y3 hck
      have hs4:=hD.size
      replace HB:=Hd (aA HB.out hD)
      replace HX:=Hd (aJ hD HX.out)
      replace HY:=Hd (aJ hD HY.out)
      replace HT:=Hd (HT.out.below hD)
      replace HO:=Hd (HO.out.below hD)
      clear hD
      go_wp2_with fail
      go_roundw
      case rel=>exact ⟨k+1,ts,by omega,by go_num,HB.out,HX.out,HY.out,HT.out,HTO.out,HO.out,by omega⟩
      case measure=>simp [intOf];omega
     | false =>
      have HC:=Hd (fun w=>dZ h1 HD.out (by omega) (by omega) w)
      clear h1
      cases h2:fq d r (s / aM d) with
      | false =>
       have HC2:=Hd (fun w=>dZ h2 HD.out hqs0 (by omega) w)
       clear h2
       go_wp2_with fail
       have hsub:=eO wr
       have hsc:=cZ wr
       refine bB wr (by kernel_rfl) (by kernel_rfl) (Below.refl _ _) ?_
       repeat (go_big_quiet_step ((go_at_call 155;(first|with_reducible exact au (HC.out _)|with_reducible exact au (HC2.out _)))))
       refine wpQuiet_nil ?_
       rintro _ ⟨⟨w4,hD⟩,rfl⟩
       clear hsub hsc z0 z1 z2 z3 y0 y1 y2 y3 hck
       have hs4:=hD.size
       replace HB:=Hd (aA HB.out hD)
       replace HX:=Hd (aJ hD HX.out)
       replace HY:=Hd (aJ hD HY.out)
       replace HT:=Hd (HT.out.below hD)
       replace HO:=Hd (HO.out.below hD)
       clear hD
       go_wp2_with fail
       go_roundw
       case rel=>exact ⟨k+1,ts,by omega,by go_num,HB.out,HX.out,HY.out,HT.out,HTO.out,HO.out,by omega⟩
       case measure=>simp [intOf];omega
      | true =>
       have HC2:=Hd (fun w=>dZ h2 HD.out hqs0 (by omega) w)
       clear h2
       go_wp2_with fail
       have hsub:=eO wr
       have hsc:=cZ wr
       refine bB wr (by kernel_rfl) (by kernel_rfl) (Below.refl _ _) ?_
       repeat (go_big_quiet_step ((go_at_call 155;(first|with_reducible exact au (HC.out _)|with_reducible exact au (HC2.out _)))))
       refine wpQuiet_nil ?_
       rintro _ ⟨⟨w4,hD⟩,rfl⟩
       clear hsub hsc z0 z1 z2 z3 y0 y1 y2 y3 hck
       have hs4:=hD.size
       replace HB:=Hd (aA HB.out hD)
       replace HX:=Hd (aJ hD HX.out)
       replace HY:=Hd (aJ hD HY.out)
       replace HT:=Hd (HT.out.below hD)
       replace HO:=Hd (HO.out.below hD)
       clear hD
       have htl:tq<ts.length:=by rw [HTO.out.1];exact htq
       obtain ⟨gt,gm,p,rfl,hgt,hct,hlo,hhi,hgm,hcm,hfm,hset⟩:=HT.out.setMux (i:=tq) (j:=pj) (getD_some aZ.zero htl) (by rw [pU (HTO.out.2 _ htl)];omega)
       have HS0:=Hd (hset 0)
       have HTOn:=Hd (HTO.out.mux0 tq pj htl)
       have hml:(ts[tq]?.getD aZ.zero).mux.length=fK d:=pU (HTO.out.2 _ htl)
       rw [hml] at hct
       clear hset hml
       generalize (ts[tq]?.getD aZ.zero).mux[pj]?.getD 0=oldv at *
       go_wp2_with fail
       go_roundw
       case rel=>exact ⟨k+1,_,by omega,by go_num,HB.out.setCell (by show w.heap.size<=gm;omega) _,fC HX.out (by show w.heap.size≠gm;omega) _,fC HY.out (by show w.heap.size+1≠gm;omega) _,HS0.out,HTOn.out,HO.out.far (by show gm<S3;omega) _,by simp [World.setCell];omega⟩
       case measure=>simp [intOf];omega
  ·have hkN:k=NN:=by omega
   have hdk:decide ((k:Int)<(NN:Int))=false:=by simp;omega
   clear hkN
   obtain ⟨z0,z1,z2,z3⟩:=dK HX.out
   go_wp2_with fail
   refine (kw d A3 (tiles d) c3 ts _ HT.out.rd HD.out HTO.out.1 (fun j hj=>HTO.out.2 j (by rw [HTO.out.1];exact hj))).mono ?_
   rintro e w6 ⟨A6,c6,rfl,o6,b6⟩
   have O6:=Hd o6
   have B6:=Hd (aA HB.out b6)
   clear o6 b6
   go_wp2_with fail
   go_ret
   exact ⟨ts,A6,c6,rfl,HTO.out.1,O6.out.widen (by have:=HB.out.size;omega) (Nat.le_refl _),B6.out⟩
end Go.Proofs.YtignkfhdkcgkgaaGreat
