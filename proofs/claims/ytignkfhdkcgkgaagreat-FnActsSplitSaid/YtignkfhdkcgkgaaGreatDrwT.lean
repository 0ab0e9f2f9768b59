/- Drawing a valid configuration of a tile, of the reference. -/
import Derived.Deep.DeepCutAuto
import Derived.Test.YtignkfhdkcgkgaaGreatDrwN
namespace Go.Proofs.YtignkfhdkcgkgaaGreat
set_option maxHeartbeats 4000000
set_option maxRecDepth 100000
open Go.RowKit
theorem aY {w w':World} {g k:Nat} (h:w.grownBy w' (some g)) (hk:k<w.heap.size) (hne:k≠g):w'.heap[k]?=w.heap[k]?:=h.block k hk (by simpa using hne)
theorem bG {w w1 w2:World} {r:Option Nat} {B:Nat} (h:w.grownBy w1 r) (hb:Below B w1 w2) (hB:w.heap.size<=B):w.grownBy w2 r :=
 ⟨hb.os.trans h.os,hb.tape.trans h.tape,hb.output.trans h.output,Nat.le_trans h.size hb.size,fun k hk hne=>(hb.block k (by omega)).trans (h.block k hk hne)⟩
theorem Cur.keepB {w w':World} {g B Z:Nat} {A:Option Addr} {n c:Nat} {bs:List Int} (h:Cur w g B A n c bs) (hb:Below Z w w') (hg:g<Z):Cur w' g B A n c bs:=by
 have hB:B<=g:=by obtain ⟨i,x,hi,hB,_⟩:=h;exact hB
 exact h.keep (hb.block g hg) fun k hk=>hb.block k (by omega)
theorem DS.grown {w w':World} {lo S gr gc gm gl M g:Nat} {mux:List Int} {lv:Array Value} {pad ram:Int} (h:DS w gr gc gm gl M mux lv pad ram) (hs:wO lo S gr gc gm gl) (hg:g<lo) (k:w.grownBy w' (some g)):DS w' gr gc gm gl M mux lv pad ram:=by
 obtain ⟨l1,l2,l3,l4⟩:=hs.le
 exact ⟨(aY k (aG h.res) (by omega)).trans h.res,(aY k (aG h.tile) (by omega)).trans h.tile,(aY k (aG h.mux) (by omega)).trans h.mux,(aY k (aG h.les) (by omega)).trans h.les⟩
theorem DS.keepB {w w':World} {lo S Z gr gc gm gl M:Nat} {mux:List Int} {lv:Array Value} {pad ram:Int} (h:DS w gr gc gm gl M mux lv pad ram) (hs:wO lo S gr gc gm gl) (hb:Below Z w w') (hZ:S<=Z):DS w' gr gc gm gl M mux lv pad ram :=
 h.keep hs fun k hk=>hb.block k (by omega)
theorem Own.grownC {base:Nat} {w w':World} {A:Option Addr} {n c g:Nat} {xs:List Int} (h:Own base w A n c xs) (k:w.grownBy w' (some g)) (hg:g<base):Own base w' A n c xs :=
 ak h fun a ha=>aY k (h.lt a ha).2 (by have:=(h.lt a ha).1;omega)
theorem Own.keepB {base Z:Nat} {w w':World} {A:Option Addr} {n c:Nat} {xs:List Int} (h:Own base w A n c xs) (hb:Below Z w w') (hZ:∀a,A=some a→a.block<Z):Own base w' A n c xs :=
 ak h fun a ha=>hb.block _ (hZ a ha)
def xR (S:Nat) (w:World) (lv:Array Value):List Le→Prop
 | []=>∃g0 g1,lv=Ao g0 g1
 | [e0]=>∃A0 c0 g1,lv=#[.slice A0 4 c0,.int .i64 e0.mask,.int .i64 e0.flop,.int .i64 e0.init,.slice (some ⟨g1,0,none⟩) 4 4,.int .i64 0,.int .i64 0,.int .i64 0]/\Own S w A0 4 c0 e0.sel
 | e0 :: e1 :: _=>∃A0 c0 A1 c1 h,lv=#[.slice A0 4 c0,.int .i64 e0.mask,.int .i64 e0.flop,.int .i64 e0.init,.slice A1 4 c1,.int .i64 e1.mask,.int .i64 e1.flop,.int .i64 e1.init]/\Own S w A0 4 c0 e0.sel/\(∀a,A0=some a→a.block<h)/\S<=h/\Own h w A1 4 c1 e1.sel
theorem GK {w:World} {lo S gr gc gm gl M:Nat} {mux:List Int} {lv:Array Value} {pad ram:Int} {e0 e1:Le} (hmux:w.heap[gm]?=some (.cells (arr mux) 3 (0,0))) (hles:w.heap[gl]?=some (.cells lv 107 (0,0))) (hs:wO lo S gr gc gm gl) (hl:xR S w lv [e0,e1]) (_hlS:lo<=S) (hm:mux.length=M) (hM:M<=maxLen) :
  eX lo w.heap.size w (aZ.cells ⟨mux,[e0,e1],pad,ram⟩) (jX gm gl M pad ram).toList:=by
 obtain ⟨A0,c0,A1,c1,hh,rfl,o0,hb0,hS,o1⟩:=hl
 obtain ⟨g0,cur0,rfl,a1,a2,_⟩:=o0.block (by omega)
 obtain ⟨g1,cur1,rfl,a3,a4,_⟩:=o1.block (by omega)
 have a5:=hb0 _ rfl
 simp only at a5
 obtain ⟨l1,l2,l3,l4⟩:=hs.le
 obtain ⟨q1,q2,q3,q4⟩:=hs.lt
 obtain ⟨n1,n2,n3,n4,n5,n6⟩:=hs.ne
 have om:dh w (jI mux) (.slice (some ⟨gm,0,none⟩) M M) [gm]:=fU.2 ⟨Own.arr hmux (Nat.zero_le _) hM hm,rfl⟩
 have p0:dh w (jI e0.sel) (.slice (some ⟨g0,0,none⟩) 4 c0) [g0]:=fU.2 ⟨o0.more (Nat.zero_le _),rfl⟩
 have p1:dh w (jI e1.sel) (.slice (some ⟨g1,0,none⟩) 4 c1) [g1]:=fU.2 ⟨o1.more (Nat.zero_le _),rfl⟩
 have ci:∀x:Int,dh w (.int x) (.int .i64 x) []:=fun x=>fo.2 ⟨rfl,rfl⟩
 have ol:dh w (nR [e0,e1]) (.slice (some ⟨gl,0,none⟩) 2 2) [gl,g0,g1]:=by
  unfold nR
  rw [dY]
  refine ⟨_,2,2,_,[g0,g1],rfl,⟨rfl,.inr ⟨gl,2,_,rfl,Nat.zero_le _,hles,Nat.le_refl _,by unfold maxLen;omega,rfl,rfl⟩⟩,rfl,?_⟩
  show fT w [jI e0.sel,.int e0.mask,.int e0.flop,.int e0.init,jI e1.sel,.int e1.mask,.int e1.flop,.int e1.init] _ _
  simp only [cz,eP]
  exact ⟨_,_,[g0],[g1],rfl,rfl,p0,_,_,[],[g1],rfl,rfl,ci _,_,_,[],[g1],rfl,rfl,ci _,_,_,[],[g1],rfl,rfl,ci _,_,_,[g1],[],rfl,rfl,p1,_,_,[],[],rfl,rfl,ci _,_,_,[],[],rfl,rfl,ci _,_,_,[],[],rfl,rfl,ci _,rfl,rfl⟩
 refine ⟨[gm,gl,g0,g1],?_,?_,fun x hx=>?_⟩
 ·show fT w [jI mux,nR _,.int pad,.int ram] _ _
  simp only [cz,eP]
  exact ⟨_,_,[gm],[gl,g0,g1],rfl,rfl,om,_,_,[gl,g0,g1],[],rfl,rfl,ol,_,_,[],[],rfl,rfl,ci _,_,_,[],[],rfl,rfl,ci _,rfl,rfl⟩
 ·have e1:gm≠g0:=by omega
  have e2:gm≠g1:=by omega
  have e3:gl≠g0:=by omega
  have e4:gl≠g1:=by omega
  have e5:g0≠g1:=by omega
  simp [n6,e1,e2,e3,e4,e5]
 ·have q1:=aG hmux
  have q2:=aG hles
  simp only [List.mem_cons,List.not_mem_nil,or_false] at hx
  omega
theorem xR.keepG {S:Nat} {w w':World} {lv:Array Value}:∀{es:List Le},xR S w lv es→(∀k,S<=k→k<w.heap.size→w'.heap[k]?=w.heap[k]?)→xR S w' lv es
 | [],h,_=>h
 | [_],⟨A0,c0,g1,e,o⟩,hk=>⟨A0,c0,g1,e,ak o fun a ha=>hk _ (o.lt a ha).1 (o.lt a ha).2⟩
 | _ :: _ :: _,⟨A0,c0,A1,c1,h,e,o,hl,hS,o1⟩,hk=>⟨A0,c0,A1,c1,h,e,ak o fun a ha=>hk _ (o.lt a ha).1 (o.lt a ha).2,hl,hS,ak o1 fun a ha=>hk _ (Nat.le_trans hS (o1.lt a ha).1) (o1.lt a ha).2⟩
theorem xR.farD {S:Nat} {w:World} {lv:Array Value} {es:List Le} (h:xR S w lv es) {p:Addr} (hp:p.block<S) (v:Value):xR S (w.setCell p v) lv es :=
 h.keepG fun _ h1 _=>Below.heap_setCell _ _ _ _ (by omega)
theorem xR.grownD {S g:Nat} {w w':World} {lv:Array Value} {es:List Le} (h:xR S w lv es) (k:w.grownBy w' (some g)) (hg:g<S):xR S w' lv es:=h.keepG fun _ h1 h2=>aY k h2 (by omega)
theorem EW {w:World} (j:Nat) (hj:j<6):∃y:Int,(0<=y/\y<=3)/\(w.alloc (.cells #[.int .i64 1,.int .i64 1,.int .i64 2,.int .i64 2,.int .i64 0,.int .i64 3] 3)).cell? ⟨w.heap.size,j,none⟩=some (.int .i64 y):=by
 have h:j=0∨j=1∨j=2∨j=3∨j=4∨j=5:=by omega
 rcases h with rfl|rfl|rfl|rfl|rfl|rfl
 ·exact ⟨1,by decide,aC (aK _ _) rfl⟩
 ·exact ⟨1,by decide,aC (aK _ _) rfl⟩
 ·exact ⟨2,by decide,aC (aK _ _) rfl⟩
 ·exact ⟨2,by decide,aC (aK _ _) rfl⟩
 ·exact ⟨0,by decide,aC (aK _ _) rfl⟩
 ·exact ⟨3,by decide,aC (aK _ _) rfl⟩
def uU (m:Int) (xs:List Int):Prop:=∀j:Nat,0<=xs[j]?.getD 0/\xs[j]?.getD 0<=m
theorem IL {m:Int} (hm:0<=m) (n:Nat):uU m (List.replicate n 0):=fun j=>by
 rw [List.getElem?_replicate]
 split <;> simp <;> omega
theorem uV {m:Int} {xs:List Int} (h:uU m xs) {x:Int} (hx:0<=x/\x<=m) (k:Nat):uU m (xs.set k x):=fun j=>by
 have h1:=h j
 rw [List.getElem?_set]
 split
 ·split
  ·simpa using hx
  ·simp;omega
 ·exact h1
theorem oV {m:Int} {xs:List Int} (h:uU m xs) {x:Int} (hx:0<=x/\x<=m):uU m (xs++[x]):=fun j=>by
 have h1:=h j
 rw [List.getElem?_append]
 split
 ·exact h1
 ·rcases Nat.eq_zero_or_pos (j - xs.length) with h0|h0
  ·rw [h0];simpa using hx
  ·rw [List.getElem?_eq_none (by rw [List.length_singleton];omega)];simp;omega
theorem xS {m:Int} (hm:0<=m):uU m []:=fun j=>by simpa using hm
theorem Ce {m:Int} {xs:List Int} (h:uU m xs):ku xs m=true:=iZ fun j _=>aa.2 (h j)
theorem JY {xs:List Int} {a b c:Int} (hl:xs.length=4) (h:uU 7 xs) (ha:0<=a/\a<65536) (hb:0<=b/\b<2) (hc:0<=c/\c<2):um ⟨xs,a,b,c⟩=true:=by
 unfold um
 rw [decide_eq_true hl,aa.2 (by simp only;omega),aa.2 (by simp only;omega),aa.2 (by simp only;omega),Ce h]
 rfl
theorem JF {d:Dev} {mux:List Int} {e0 e1:Le} {pad ram:Int} (hd:bL d=true) (hm:mux.length=fK d) (hx:uU 31 mux) (h0:um e0=true) (h1:um e1=true) (hp:0<=pad/\pad<=3) (hr:0<=ram/\ram<32):iD d ⟨mux,[e0,e1],pad,ram⟩=true:=by
 unfold iD
 simp only [hd,decide_eq_true hm,Ce hx,aa.2 hp,aa.2 (show 0<=ram/\ram<=31 by omega),Bool.true_and,List.length_cons,List.length_nil,decide_true]
 simp [h0,h1]
theorem sH (P:Int→Prop) (g B:Nat) (A:Option Addr) (n c:Nat) (bs:List Int) (b m d:Nat) (w:World) (h:Cur w g B A n c bs) (hn:n<=1099511627776) (hm:0<m) (hm':m<=1099511627776) (hbg:b≠g) (hb:b<w.heap.size)
  (hc:∀j,j<m→∃y:Int,P y/\w.cell? ⟨b,j,none⟩=some (.int .i64 y)) :
  Calls Tryz.prog 134 #[.pointer (some ⟨g,0,none⟩),.slice (some ⟨b,0,none⟩) m d] w fun e w'=>∃x:Int,e = .returned (.int .i64 x)/\P x/\Cur w' g B A n c bs/\w.grownBy w' (some g):=by
 have HC:=Hd h
 have HY:=Hd hc
 clear h hc
 go_enter Tryz.func134,Tryz.ntmps134
 go_wp2_with fail
 refine (aj g B A n c bs m _ HC.out hn (by omega) (by omega)).mono ?_
 rintro e w1 ⟨x,rfl,hx0,hx1,k1,g1⟩
 obtain ⟨y,hp,hy⟩:=HY.out x.toNat (by omega)
 have hcx:w1.cell? ⟨b,x.toNat,none⟩=some (.int .i64 y):=by
  rw [←hy]
  exact World.cell?_of_block (a:=⟨b,x.toNat,none⟩) (g1.block b hb (by simpa using hbg))
 have K1:=Hd k1
 have G1:=Hd g1
 have HP:=Hd hp
 clear k1 g1 hy hp
 go_wp2_with fail
 go_ret
 exact ⟨_,rfl,HP.out,K1.out,G1.out⟩
theorem Cf (g B:Nat) (A:Option Addr) (n c:Nat) (bs:List Int) (d:Dev) (t:Int) (w:World) (h:Cur w g B A n c bs) (hn:n<=1099511627776) (hd:bL d=true) (ht:0<=t/\t<d.W * d.H) :
  Calls Tryz.prog 179 #[.pointer (some ⟨g,0,none⟩),.agg #[.int .i64 d.W,.int .i64 d.H,.int .i64 d.T,.int .i64 d.R],.int .i64 t] w fun e w'=>∃(T:aZ) (v:Value),e = .returned v/\iD d T=true/\tL w.heap.size w'.heap.size w' T v/\Cur w' g B A n c bs/\w.grownBy w' (some g):=by
 have hgw:g<w.heap.size:=h.lt
 have HC:=Hd h
 have HD:=Hd hd
 have hmb:=(gY hd).2.1
 have hmc:=(gY hd).2.2.1
 have HOK:=Hd (fun (mux:List Int) (e0 e1:Le) (pad ram:Int)=>JF (mux:=mux) (e0:=e0) (e1:=e1) (pad:=pad) (ram:=ram) hd)
 have HN:=Hd (fun (m:Int) (w:World) (hm:0<=m/\m<(fK d:Int))=>yX d t m w hd ht hm)
 have HET:=Hd (fun w=>rG d w hd)
 generalize hM:fK d=M at *
 have B0:=Hd (aB (aB (Below.refl w.heap.size w) (.cells #[.int .i64 d.W,.int .i64 d.H,.int .i64 d.T,.int .i64 d.R] 25)) (.cells #[.slice none 0 0,.slice none 0 0,.int .i64 0,.int .i64 0] 103))
 have X0:Hid (((w.alloc (.cells #[.int .i64 d.W,.int .i64 d.H,.int .i64 d.T,.int .i64 d.R] 25)).alloc (.cells #[.slice none 0 0,.slice none 0 0,.int .i64 0,.int .i64 0] 103)).heap[w.heap.size]?=some (.cells #[.int .i64 d.W,.int .i64 d.H,.int .i64 d.T,.int .i64 d.R] 25 (0,0))):=aW _ (aK _ _)
 have X1:Hid (((w.alloc (.cells #[.int .i64 d.W,.int .i64 d.H,.int .i64 d.T,.int .i64 d.R] 25)).alloc (.cells #[.slice none 0 0,.slice none 0 0,.int .i64 0,.int .i64 0] 103)).heap[w.heap.size+1]?=some (.cells #[.slice none 0 0,.slice none 0 0,.int .i64 0,.int .i64 0] 103 (0,0))):=ax (by simp)
 clear h hd hM
 go_enter Tryz.func179,Tryz.ntmps179
 go_wp2_with fail
 refine (HET.out _).mono ?_
 rintro e w3 ⟨v,rfl,he,b3⟩
 obtain ⟨gm,gl,g0,g1,rfl,l1,l2,l3,l4,n1,n2,n3,n4,n5,n6,k1,k2,k3,k4⟩:=he
 simp only [World.size_alloc] at l1 l2 l3 l4
 have hs3:=b3.size
 simp only [World.size_alloc] at hs3
 have HX3:=Hd (aJ b3 X0.out)
 have HR3:=Hd (aJ b3 X1.out)
 have HB3:=Hd (aA B0.out b3)
 go_wp2_with fail
 have HSEP:Hid (wO w.heap.size (w3.heap.size+1) (w.heap.size+1) w3.heap.size gm gl):=by
  have q1:=aG k1
  have q2:=aG k2
  constructor <;> omega
 have HW0:Hid (DS (w3.alloc (.cells (jX gm gl M 0 0) 103)) (w.heap.size+1) w3.heap.size gm gl M (List.replicate M 0) (Ao g0 g1) 0 0) :=
  ⟨aW _ HR3.out,aK _ _,aW _ k1,aW _ k2⟩
 have HB0:=Hd (aB HB3.out (.cells (jX gm gl M 0 0) 103))
 have HX0:=Hd (aW (.cells (jX gm gl M 0 0) 103) HX3.out)
 have hgm:g<gm:=by omega
 have hggl:g<gl:=by omega
 have hlom:w.heap.size<=gm:=by omega
 have hlomS:w.heap.size<gm:=by omega
 have hlolS:w.heap.size<gl:=by omega
 have hlol:w.heap.size<=gl:=by omega
 have hwg3:w.heap.size<=w3.heap.size:=by omega
 have hsz0:(w3.alloc (.cells (jX gm gl M 0 0) 103)).heap.size=w3.heap.size+1:=by simp
 have HSZ:=Hd hsz0
 have HC0:Hid (Cur (w3.alloc (.cells (jX gm gl M 0 0) 103)) g B A n c bs):=HC.out.below HB0.out
 clear k1 k2 k3 k4 b3 n1 n2 n3 n4 n5 n6 hsz0 l1 l2 l3 l4 hs3
 generalize hgr:w.heap.size+1=gr at *
 generalize hgcc:w3.heap.size=gc at *
 generalize hSS:gc+1=S at *
 have HGR:=Hd hgr
 have hSg:w.heap.size<=S:=by omega
 have hSg2:gc<S:=by omega
 have hgc:g<gc:=by omega
 have hgrr:g<gr:=by omega
 have hgl:g<w.heap.size:=hgw
 clear hgr hgcc hSS
 go_loopw [8] (fun i wr=>∃(j:Nat) (mux:List Int),j<=M/\i = .int .i64 j/\mux.length=M/\uU 31 mux/\DS wr gr gc gm gl M mux (Ao g0 g1) 0 0/\Cur wr g B A n c bs/\w.grownBy wr (some g)/\S<=wr.heap.size/\wr.heap[w.heap.size]?=some (.cells #[.int .i64 d.W,.int .i64 d.H,.int .i64 d.T,.int .i64 d.R] 25 (0,0))) (fun i _=>M - (intOf i).toNat)
 case atStart=>exact ⟨0,_,Nat.zero_le _,rfl,List.length_replicate,IL (by omega) _,HW0.out,HC0.out,bX HB0.out _,by rw [HSZ.out];exact Nat.le_refl _,HX0.out⟩
 case round =>
  obtain ⟨j,mux,hj,rfl,hml,hmu,hdw,hcu,hgw',hsz,hx⟩:=hrel
  have HW:=Hd hdw
  have KC:=Hd hcu
  have HG:=Hd hgw'
  have HX:=Hd hx
  have HML:=Hd hml
  have HMU:=Hd hmu
  clear hdw hcu hgw' hx hml hmu
  have hc0:=aC (k:=0) HW.out.tile rfl
  by_cases hlt:j<M
  ·have hdj:decide ((j:Int)<(M:Int))=true:=by simp;omega
   have i0:(0:Int)<=(j:Int):=by omega
   have i1:(j:Int)<(M:Int):=by omega
   obtain ⟨z0,z1,z2,z3⟩:=dK HX.out
   have hxl:=aG HX.out
   have hD:=(Below.refl wr.heap.size wr).drew
   go_wp2_with fail
   go_region_held3 (fun w'=>Below wr.heap.size wr w'/\∀b o,b<wr.heap.size→w'.cell? ⟨b,o,none⟩=wr.cell? ⟨b,o,none⟩)
    (first|exact ⟨hD,(aQ hD).1⟩)
    (first
     | (go_at_call 219;(with_reducible refine (HN.out _ _ ⟨i0,i1⟩).mono ?_);rintro e w4 ⟨x4,rfl,b4⟩;replace hD:=aA hD b4;clear b4)
     | (go_at_call 137;(with_reducible refine (uK d _ _).mono ?_);rintro e w5 ⟨A5,l5,c5,rfl,o5,b5⟩;have hl5:=o5.len;have hl6:=Gl d x4;rw [hl5] at hl6;clear hl5 o5;replace hD:=aA hD b5;clear b5))
   replace HW:=Hd (HW.out.keepB HSEP.out hD hsz)
   replace KC:=Hd (KC.out.keepB hD KC.out.lt)
   replace HG:=Hd (bG HG.out hD HG.out.size)
   replace HX:=Hd (aJ hD HX.out)
   replace hsz:=Nat.le_trans hsz hD.size
   clear hD hc0 z0 z1 z2 z3 hxl
   by_cases hl0:l5=0
   ·subst hl0
    have hd0:decide (((0:Nat):Int)>0)=false:=by decide
    go_wp2_with fail
    refine (fB g B A n c bs 40 _ KC.out hn (by omega) (by omega)).mono ?_
    rintro e wo ⟨yo,rfl,ko,go⟩
    replace HW:=Hd (HW.out.grown HSEP.out hgl go)
    replace HG:=Hd (aO HG.out go)
    replace HX:=Hd ((aY go (aG HX.out) (by omega)).trans HX.out)
    replace hsz:=Nat.le_trans hsz go.size
    replace KC:=Hd ko
    clear ko go
    cases yo with
    | false =>
     go_wp2_with fail
     go_roundw
     case rel=>exact ⟨j+1,_,by omega,by go_num,HML.out,HMU.out,HW.out,KC.out,HG.out,hsz,HX.out⟩
     case measure=>simp [intOf];omega
    | true =>
     go_wp2_with fail
     have hc0:=aC (k:=0) HW.out.tile rfl
     go_region_with (go_at_call 37;(first|(with_reducible refine (aj g B A n c bs (32) _ KC.out hn (by omega) (by omega)).mono ?_)|(with_reducible refine (aj g B A n c bs (32) _ (KC.out.below (Below.refl _ _).drew) hn (by omega) (by omega)).mono ?_));rintro e w6 ⟨y6,rfl,hy6,hy6',k6,g6⟩;have G6:=Hd (show wo.grownBy w6 (some g) from ⟨g6.os,g6.tape,g6.output,g6.size,g6.block⟩);have HK6:=Hd k6;have HD6:=Hd (HW.out.grown HSEP.out hgl G6.out);have HG6:=Hd (aO HG.out G6.out);have HX6:=Hd ((aY G6.out (aG HX.out) (by omega)).trans HX.out);have hs6:S<=w6.heap.size:=Nat.le_trans hsz G6.out.size;have c60:=aC (k:=0) HD6.out.tile rfl;have f6:=aF HD6.out.mux j;have c6m:=aC (k:=j) HD6.out.mux (dz (by rw [HML.out];exact hlt));have l6:=aG HD6.out.mux;clear k6 g6)
     all_goals
      have HDN:=Hd (HD6.out.setMux HSEP.out j (y6))
      have HKN:=Hd (HK6.out.setNew hgm j (.int .i64 (y6)))
      have HGN:=Hd (aP HG6.out hlom j (.int .i64 (y6)))
      have hsN:S<=(w6.setCell ⟨gm,j,none⟩ (.int .i64 (y6))).heap.size:=Nat.le_trans hs6 (Nat.le_of_eq (bu _ _ _).symm)
      have HXN:=Hd (aR (p:=⟨gm,j,none⟩) (.int .i64 (y6)) HX6.out (by simp only;omega))
      have HUN:=Hd (uV HMU.out (x:=y6) (by omega) j)
      have HLN:Hid ((mux.set j (y6)).length=M):=by show _=_;rw [List.length_set];exact HML.out
      clear c60 f6 c6m l6 hc0 HD6 HK6 HG6 HX6 hs6 G6
      go_wp2_with fail
      go_roundw
      case rel=>exact ⟨j+1,_,by omega,by go_num,HLN.out,HUN.out,HDN.out,HKN.out,HGN.out,hsN,HXN.out⟩
      case measure=>simp [intOf];omega
   ·have hd0:decide ((l5:Int)>0)=true:=by simp;omega
    go_wp2_with fail
    refine (fB g B A n c bs 2 _ KC.out hn (by omega) (by omega)).mono ?_
    rintro e wq ⟨yq,rfl,kq,gq⟩
    replace HW:=Hd (HW.out.grown HSEP.out hgl gq)
    replace HG:=Hd (aO HG.out gq)
    replace HX:=Hd ((aY gq (aG HX.out) (by omega)).trans HX.out)
    replace hsz:=Nat.le_trans hsz gq.size
    replace KC:=Hd kq
    clear kq gq
    cases yq with
    | false =>
     go_wp2_with fail
     refine (fB g B A n c bs 40 _ KC.out hn (by omega) (by omega)).mono ?_
     rintro e wo ⟨yo,rfl,ko,go⟩
     replace HW:=Hd (HW.out.grown HSEP.out hgl go)
     replace HG:=Hd (aO HG.out go)
     replace HX:=Hd ((aY go (aG HX.out) (by omega)).trans HX.out)
     replace hsz:=Nat.le_trans hsz go.size
     replace KC:=Hd ko
     clear ko go
     cases yo with
     | false =>
      go_wp2_with fail
      go_roundw
      case rel=>exact ⟨j+1,_,by omega,by go_num,HML.out,HMU.out,HW.out,KC.out,HG.out,hsz,HX.out⟩
      case measure=>simp [intOf];omega
     | true =>
      go_wp2_with fail
      have hc0:=aC (k:=0) HW.out.tile rfl
      go_region_with (go_at_call 37;(first|(with_reducible refine (aj g B A n c bs (32) _ KC.out hn (by omega) (by omega)).mono ?_)|(with_reducible refine (aj g B A n c bs (32) _ (KC.out.below (Below.refl _ _).drew) hn (by omega) (by omega)).mono ?_));rintro e w6 ⟨y6,rfl,hy6,hy6',k6,g6⟩;have G6:=Hd (show wo.grownBy w6 (some g) from ⟨g6.os,g6.tape,g6.output,g6.size,g6.block⟩);have HK6:=Hd k6;have HD6:=Hd (HW.out.grown HSEP.out hgl G6.out);have HG6:=Hd (aO HG.out G6.out);have HX6:=Hd ((aY G6.out (aG HX.out) (by omega)).trans HX.out);have hs6:S<=w6.heap.size:=Nat.le_trans hsz G6.out.size;have c60:=aC (k:=0) HD6.out.tile rfl;have f6:=aF HD6.out.mux j;have c6m:=aC (k:=j) HD6.out.mux (dz (by rw [HML.out];exact hlt));have l6:=aG HD6.out.mux;clear k6 g6)
      all_goals
       have HDN:=Hd (HD6.out.setMux HSEP.out j (y6))
       have HKN:=Hd (HK6.out.setNew hgm j (.int .i64 (y6)))
       have HGN:=Hd (aP HG6.out hlom j (.int .i64 (y6)))
       have hsN:S<=(w6.setCell ⟨gm,j,none⟩ (.int .i64 (y6))).heap.size:=Nat.le_trans hs6 (Nat.le_of_eq (bu _ _ _).symm)
       have HXN:=Hd (aR (p:=⟨gm,j,none⟩) (.int .i64 (y6)) HX6.out (by simp only;omega))
       have HUN:=Hd (uV HMU.out (x:=y6) (by omega) j)
       have HLN:Hid ((mux.set j (y6)).length=M):=by show _=_;rw [List.length_set];exact HML.out
       clear c60 f6 c6m l6 hc0 HD6 HK6 HG6 HX6 hs6 G6
       go_wp2_with fail
       go_roundw
       case rel=>exact ⟨j+1,_,by omega,by go_num,HLN.out,HUN.out,HDN.out,HKN.out,HGN.out,hsN,HXN.out⟩
       case measure=>simp [intOf];omega
    | true =>
     go_wp2_with fail
     have hc0:=aC (k:=0) HW.out.tile rfl
     go_region_with (go_at_call 37;(first|(with_reducible refine (aj g B A n c bs ((l5:Int)) _ KC.out hn (by omega) (by omega)).mono ?_)|(with_reducible refine (aj g B A n c bs ((l5:Int)) _ (KC.out.below (Below.refl _ _).drew) hn (by omega) (by omega)).mono ?_));rintro e w6 ⟨y6,rfl,hy6,hy6',k6,g6⟩;have G6:=Hd (show wq.grownBy w6 (some g) from ⟨g6.os,g6.tape,g6.output,g6.size,g6.block⟩);have HK6:=Hd k6;have HD6:=Hd (HW.out.grown HSEP.out hgl G6.out);have HG6:=Hd (aO HG.out G6.out);have HX6:=Hd ((aY G6.out (aG HX.out) (by omega)).trans HX.out);have hs6:S<=w6.heap.size:=Nat.le_trans hsz G6.out.size;have c60:=aC (k:=0) HD6.out.tile rfl;have f6:=aF HD6.out.mux j;have c6m:=aC (k:=j) HD6.out.mux (dz (by rw [HML.out];exact hlt));have l6:=aG HD6.out.mux;clear k6 g6)
     all_goals
      have HDN:=Hd (HD6.out.setMux HSEP.out j (1+y6))
      have HKN:=Hd (HK6.out.setNew hgm j (.int .i64 (1+y6)))
      have HGN:=Hd (aP HG6.out hlom j (.int .i64 (1+y6)))
      have hsN:S<=(w6.setCell ⟨gm,j,none⟩ (.int .i64 (1+y6))).heap.size:=Nat.le_trans hs6 (Nat.le_of_eq (bu _ _ _).symm)
      have HXN:=Hd (aR (p:=⟨gm,j,none⟩) (.int .i64 (1+y6)) HX6.out (by simp only;omega))
      have HUN:=Hd (uV HMU.out (x:=1+y6) (by omega) j)
      have HLN:Hid ((mux.set j (1+y6)).length=M):=by show _=_;rw [List.length_set];exact HML.out
      clear c60 f6 c6m l6 hc0 HD6 HK6 HG6 HX6 hs6 G6
      go_wp2_with fail
      generalize w6.setCell ⟨gm,j,none⟩ (.int .i64 (1+y6))=w7 at *
      clear HW KC HG HX HML HMU hsz
      have hsz:=hsN
      have HW:=HDN
      have KC:=HKN
      have HG:=HGN
      have HX:=HXN
      have HMU:=HUN
      have HML:=HLN
      clear hsN HDN HKN HGN HXN HUN HLN
      generalize mux.set j (1+y6)=mux at *
      refine (fB g B A n c bs 40 _ KC.out hn (by omega) (by omega)).mono ?_
      rintro e wo ⟨yo,rfl,ko,go⟩
      replace HW:=Hd (HW.out.grown HSEP.out hgl go)
      replace HG:=Hd (aO HG.out go)
      replace HX:=Hd ((aY go (aG HX.out) (by omega)).trans HX.out)
      replace hsz:=Nat.le_trans hsz go.size
      replace KC:=Hd ko
      clear ko go
      cases yo with
      | false =>
       go_wp2_with fail
       go_roundw
       case rel=>exact ⟨j+1,_,by omega,by go_num,HML.out,HMU.out,HW.out,KC.out,HG.out,hsz,HX.out⟩
       case measure=>simp [intOf];omega
      | true =>
       go_wp2_with fail
       have hc0:=aC (k:=0) HW.out.tile rfl
       go_region_with (go_at_call 37;(first|(with_reducible refine (aj g B A n c bs (32) _ KC.out hn (by omega) (by omega)).mono ?_)|(with_reducible refine (aj g B A n c bs (32) _ (KC.out.below (Below.refl _ _).drew) hn (by omega) (by omega)).mono ?_));rintro e w6 ⟨y6,rfl,hy6,hy6',k6,g6⟩;have G6:=Hd (show wo.grownBy w6 (some g) from ⟨g6.os,g6.tape,g6.output,g6.size,g6.block⟩);have HK6:=Hd k6;have HD6:=Hd (HW.out.grown HSEP.out hgl G6.out);have HG6:=Hd (aO HG.out G6.out);have HX6:=Hd ((aY G6.out (aG HX.out) (by omega)).trans HX.out);have hs6:S<=w6.heap.size:=Nat.le_trans hsz G6.out.size;have c60:=aC (k:=0) HD6.out.tile rfl;have f6:=aF HD6.out.mux j;have c6m:=aC (k:=j) HD6.out.mux (dz (by rw [HML.out];exact hlt));have l6:=aG HD6.out.mux;clear k6 g6)
       all_goals
        have HDN:=Hd (HD6.out.setMux HSEP.out j (y6))
        have HKN:=Hd (HK6.out.setNew hgm j (.int .i64 (y6)))
        have HGN:=Hd (aP HG6.out hlom j (.int .i64 (y6)))
        have hsN:S<=(w6.setCell ⟨gm,j,none⟩ (.int .i64 (y6))).heap.size:=Nat.le_trans hs6 (Nat.le_of_eq (bu _ _ _).symm)
        have HXN:=Hd (aR (p:=⟨gm,j,none⟩) (.int .i64 (y6)) HX6.out (by simp only;omega))
        have HUN:=Hd (uV HMU.out (x:=y6) (by omega) j)
        have HLN:Hid ((mux.set j (y6)).length=M):=by show _=_;rw [List.length_set];exact HML.out
        clear c60 f6 c6m l6 hc0 HD6 HK6 HG6 HX6 hs6 G6
        go_wp2_with fail
        go_roundw
        case rel=>exact ⟨j+1,_,by omega,by go_num,HLN.out,HUN.out,HDN.out,HKN.out,HGN.out,hsN,HXN.out⟩
        case measure=>simp [intOf];omega
  ·have hjm:M=j:=by omega
   subst hjm
   go_wp2_with fail
   clear hc0 hlt hj
   go_loopw [10] (fun i wx=>∃(e:Nat) (es:List Le) (lv:Array Value),e<=2/\i = .int .i64 e/\es.length=e/\(∀e∈es,um e=true)/\DS wx gr gc gm gl M mux lv 0 0/\xR S wx lv es/\Cur wx g B A n c bs/\w.grownBy wx (some g)/\S<=wx.heap.size) (fun i _=>2 - (intOf i).toNat)
   case atStart=>exact ⟨0,[],_,by omega,rfl,rfl,by simp,HW.out,⟨g0,g1,rfl⟩,KC.out,HG.out,hsz⟩
   case round =>
    obtain ⟨e,es,lv,he,rfl,hel,heo,hdw,hld,hcu,hgw',hsz⟩:=hrel
    have HW:=Hd hdw
    have HL:=Hd hld
    have KC:=Hd hcu
    have HG:=Hd hgw'
    have HEO:=Hd heo
    clear hdw hld hcu hgw' heo
    have hcase:e=0∨e=1∨e=2:=by omega
    rcases hcase with rfl|rfl|rfl
    ·obtain rfl:es=[]:=List.eq_nil_of_length_eq_zero hel
     obtain ⟨g0,g1,rfl⟩:=HL.out
     clear HL
     rw [show ((0:Nat):Int)=0 from rfl]
     go_wp2_with fail
     refine (aj g B A n c bs 65536 _ KC.out hn (by omega) (by omega)).mono ?_
     rintro e v0 ⟨y0,rfl,hy0,hz0,k5,g5⟩
     replace HW:=Hd (HW.out.grown HSEP.out hgl g5)
     replace HG:=Hd (aO HG.out g5)
     replace hsz:=Nat.le_trans hsz (Nat.le_trans (Nat.le_refl _) g5.size)
     replace KC:=Hd k5
     clear g5 k5
     go_wp2_with fail
     refine (aj g B A n c bs 2 _ KC.out hn (by omega) (by omega)).mono ?_
     rintro e v1 ⟨y1,rfl,hy1,hz1,k6,g6⟩
     replace HW:=Hd (HW.out.grown HSEP.out hgl g6)
     replace HG:=Hd (aO HG.out g6)
     replace hsz:=Nat.le_trans hsz (Nat.le_trans (Nat.le_refl _) g6.size)
     replace KC:=Hd k6
     clear g6 k6
     go_wp2_with fail
     refine (aj g B A n c bs 2 _ KC.out hn (by omega) (by omega)).mono ?_
     rintro e v2 ⟨y2,rfl,hy2,hz2,k7,g7⟩
     replace HW:=Hd (HW.out.grown HSEP.out hgl g7)
     replace HG:=Hd (aO HG.out g7)
     replace hsz:=Nat.le_trans hsz (Nat.le_trans (Nat.le_refl _) g7.size)
     replace KC:=Hd k7
     clear g7 k7
     go_wp2_with fail
     have HXB:=Hd (aK v2 (.cells #[.slice none 0 0,.int .i64 y0,.int .i64 y1,.int .i64 y2] 107))
     have hAB:=aB (Below.refl v2.heap.size v2) (.cells #[.slice none 0 0,.int .i64 y0,.int .i64 y1,.int .i64 y2] 107)
     replace HW:=Hd (HW.out.keepB HSEP.out hAB hsz)
     replace HG:=Hd (bG HG.out hAB (by omega))
     replace KC:=Hd (KC.out.below hAB)
     have hsB:v2.heap.size+1<=(v2.alloc (.cells #[.slice none 0 0,.int .i64 y0,.int .i64 y1,.int .i64 y2] 107)).heap.size:=by simp
     clear hAB
     generalize hgle:v2.heap.size=gle at *
     have hSg4:S<=gle:=by omega
     have hgg4:g<gle:=by omega
     clear hgle
     go_loopw [12] (fun i wx=>∃(j:Nat) (xs:List Int) (A':Option Addr) (c':Nat),j<=4/\i = .int .i64 j/\xs.length=j/\uU 7 xs/\wx.heap[gle]?=some (.cells #[.slice A' j c',.int .i64 y0,.int .i64 y1,.int .i64 y2] 107 (0,0))/\Own (gle+1) wx A' j c' xs/\DS wx gr gc gm gl M mux (Ao g0 g1) 0 0/\Cur wx g B A n c bs/\w.grownBy wx (some g)/\gle+1<=wx.heap.size) (fun i _=>4 - (intOf i).toNat)
     case atStart=>exact ⟨0,[],none,0,by omega,rfl,rfl,xS (by omega),HXB.out,Own.nil,HW.out,KC.out,HG.out,hsB⟩
     case round =>
      obtain ⟨j,xs,A',c',hj,rfl,hxl,hxu,hxb,ho,hdw,hcu,hgw',hsz⟩:=hrel
      have HXL:=Hd hxl
      have HXU:=Hd hxu
      have HXB:=Hd hxb
      have HO:=Hd ho
      have HW:=Hd hdw
      have KC:=Hd hcu
      have HG:=Hd hgw'
      clear hxl hxu hxb ho hdw hcu hgw'
      by_cases hlt:j<4
      ·have hdj:decide ((j:Int)<4)=true:=by simp;omega
       go_wp2_with fail
       refine (aj g B A n c bs 6 _ KC.out hn (by omega) (by omega)).mono ?_
       rintro e w9 ⟨s0,rfl,hs0,hs0',k9,g9⟩
       replace HXB:=Hd ((aY g9 (aG HXB.out) (by omega)).trans HXB.out)
       replace HO:=Hd (HO.out.grownC g9 (by omega))
       replace HW:=Hd (HW.out.grown HSEP.out hgl g9)
       replace HG:=Hd (aO HG.out g9)
       replace hsz:=Nat.le_trans hsz g9.size
       replace KC:=Hd k9
       clear g9 k9
       go_wp2_with fail
       refine (fB g B A n c bs 6 _ KC.out hn (by omega) (by omega)).mono ?_
       rintro e wo ⟨yo,rfl,ko,go⟩
       replace HXB:=Hd ((aY go (aG HXB.out) (by omega)).trans HXB.out)
       replace HO:=Hd (HO.out.grownC go (by omega))
       replace HW:=Hd (HW.out.grown HSEP.out hgl go)
       replace HG:=Hd (aO HG.out go)
       replace hsz:=Nat.le_trans hsz go.size
       replace KC:=Hd ko
       clear go ko
       cases yo with
       | false =>
        have hx0:=aC (k:=0) HXB.out rfl
        go_wp2_with (at_builtin;refine av rfl _ _ rfl (gle+1) A' j c' xs _ rfl HO.out rfl (by omega) hsz (Below.refl (gle+1) _) ?_;rintro g4 cap w4 o4 b4 gr4 hat4;have hx4:=(b4.block gle (by omega)).trans HXB.out;have c4:=aC (k:=0) hx4 rfl;have f4:=aF hx4 0)
        go_roundw
        case rel =>
         refine ⟨j+1,xs++[s0],_,_,by omega,by go_num,by rw [List.length_append,HXL.out];rfl,oV HXU.out (by omega),(bI hx4 0 _).trans rfl,o4.far (p:=⟨gle,0,none⟩) (by simp) _,(HW.out.keepB HSEP.out b4 (by omega)).far HSEP.out (p:=⟨gle,0,none⟩) (by simp only;omega) _,(KC.out.keepB b4 (by omega)).setNew (by omega) _ _,aP (bG HG.out b4 (by omega)) (by omega) _ _,by rw [bu];have:=b4.size;omega⟩
        case measure=>simp [intOf];omega
       | true =>
        go_wp2_with fail
        refine (aj g B A n c bs 8 _ KC.out hn (by omega) (by omega)).mono ?_
        rintro e wp ⟨s1,rfl,hs1,hs1',kp,gp⟩
        replace HXB:=Hd ((aY gp (aG HXB.out) (by omega)).trans HXB.out)
        replace HO:=Hd (HO.out.grownC gp (by omega))
        replace HW:=Hd (HW.out.grown HSEP.out hgl gp)
        replace HG:=Hd (aO HG.out gp)
        replace hsz:=Nat.le_trans hsz gp.size
        replace KC:=Hd kp
        clear gp kp
        have hx0:=aC (k:=0) HXB.out rfl
        go_wp2_with (at_builtin;refine av rfl _ _ rfl (gle+1) A' j c' xs _ rfl HO.out rfl (by omega) hsz (Below.refl (gle+1) _) ?_;rintro g4 cap w4 o4 b4 gr4 hat4;have hx4:=(b4.block gle (by omega)).trans HXB.out;have c4:=aC (k:=0) hx4 rfl;have f4:=aF hx4 0)
        go_roundw
        case rel =>
         refine ⟨j+1,xs++[s1],_,_,by omega,by go_num,by rw [List.length_append,HXL.out];rfl,oV HXU.out (by omega),(bI hx4 0 _).trans rfl,o4.far (p:=⟨gle,0,none⟩) (by simp) _,(HW.out.keepB HSEP.out b4 (by omega)).far HSEP.out (p:=⟨gle,0,none⟩) (by simp only;omega) _,(KC.out.keepB b4 (by omega)).setNew (by omega) _ _,aP (bG HG.out b4 (by omega)) (by omega) _ _,by rw [bu];have:=b4.size;omega⟩
        case measure=>simp [intOf];omega
      ·have hj4:j=4:=by omega
       subst hj4
       have hdj:decide (((4:Nat):Int)<4)=false:=by decide
       have d0:=aC (k:=0) HXB.out rfl
       have d1:=aC (k:=1) HXB.out rfl
       have d2:=aC (k:=2) HXB.out rfl
       have d3:=aC (k:=3) HXB.out rfl
       have hc1:=aC (k:=1) HW.out.tile rfl
       have e10:=aC (k:=0) HW.out.les rfl
       have k0:=aF HW.out.les 0
       have e11:=aC (k:=1) HW.out.les rfl
       have k1:=aF HW.out.les 1
       have e12:=aC (k:=2) HW.out.les rfl
       have k2:=aF HW.out.les 2
       have e13:=aC (k:=3) HW.out.les rfl
       have k3:=aF HW.out.les 3
       have hll:=aG HW.out.les
       have z1:gle≠gl:=by have:=HSEP.out.lt;omega
       have z2:gle≠gc:=by have:=HSEP.out.lt;omega
       have z3:gc≠gl:=by have:=HSEP.out.ne;omega
       go_wp2_with fail
       go_roundw
       case rel =>
        have hq2:gl<gle+1:=by have:=HSEP.out.lt;omega
        have hq3:gl<S:=HSEP.out.lt.2.2.2
        have D:=(((HW.out.setLe HSEP.out 0 (.slice A' 4 c')).setLe HSEP.out 1 (.int .i64 y0)).setLe HSEP.out 2 (.int .i64 y1)).setLe HSEP.out 3 (.int .i64 y2)
        have OW:=((((HO.out).far (p:=⟨gl,0,none⟩) hq2 (.slice A' 4 c')).far (p:=⟨gl,1,none⟩) hq2 (.int .i64 y0)).far (p:=⟨gl,2,none⟩) hq2 (.int .i64 y1)).far (p:=⟨gl,3,none⟩) hq2 (.int .i64 y2)
        have BB:=aP (aP (aP (aP HG.out hlol 0 (.slice A' 4 c')) hlol 1 (.int .i64 y0)) hlol 2 (.int .i64 y1)) hlol 3 (.int .i64 y2)
        have CC:=(((KC.out.setNew hggl 0 (.slice A' 4 c')).setNew hggl 1 (.int .i64 y0)).setNew hggl 2 (.int .i64 y1)).setNew hggl 3 (.int .i64 y2)
        refine ⟨1,[⟨xs,y0,y1,y2⟩],_,by omega,rfl,rfl,?_,D,⟨A',c',g1,rfl,OW.more (by omega)⟩,CC,BB,by simp only [bu];omega⟩
        intro e he
        have hq:e=⟨xs,y0,y1,y2⟩∨e∈([]:List Le):=by simpa [or_comm] using he
        rcases hq with rfl|he
        ·exact JY HXL.out HXU.out (by omega) (by omega) (by omega)
        ·exact HEO.out e he
       case measure=>simp [intOf]
    ·obtain ⟨e0,rfl⟩:∃e0,es=[e0]:=List.length_eq_one_iff.1 hel
     obtain ⟨A0,c0,g1,rfl,o0⟩:=HL.out
     have HO0:=Hd o0
     clear o0
     clear HL
     rw [show ((1:Nat):Int)=1 from rfl]
     go_wp2_with fail
     refine (aj g B A n c bs 65536 _ KC.out hn (by omega) (by omega)).mono ?_
     rintro e v0 ⟨y0,rfl,hy0,hz0,k5,g5⟩
     replace HW:=Hd (HW.out.grown HSEP.out hgl g5)
     replace HG:=Hd (aO HG.out g5)
     replace hsz:=Nat.le_trans hsz (Nat.le_trans (Nat.le_refl _) g5.size)
     replace HO0:=Hd (HO0.out.grownC g5 (by omega))
     replace KC:=Hd k5
     clear g5 k5
     go_wp2_with fail
     refine (aj g B A n c bs 2 _ KC.out hn (by omega) (by omega)).mono ?_
     rintro e v1 ⟨y1,rfl,hy1,hz1,k6,g6⟩
     replace HW:=Hd (HW.out.grown HSEP.out hgl g6)
     replace HG:=Hd (aO HG.out g6)
     replace hsz:=Nat.le_trans hsz (Nat.le_trans (Nat.le_refl _) g6.size)
     replace HO0:=Hd (HO0.out.grownC g6 (by omega))
     replace KC:=Hd k6
     clear g6 k6
     go_wp2_with fail
     refine (aj g B A n c bs 2 _ KC.out hn (by omega) (by omega)).mono ?_
     rintro e v2 ⟨y2,rfl,hy2,hz2,k7,g7⟩
     replace HW:=Hd (HW.out.grown HSEP.out hgl g7)
     replace HG:=Hd (aO HG.out g7)
     replace hsz:=Nat.le_trans hsz (Nat.le_trans (Nat.le_refl _) g7.size)
     replace HO0:=Hd (HO0.out.grownC g7 (by omega))
     replace KC:=Hd k7
     clear g7 k7
     go_wp2_with fail
     have HXB:=Hd (aK v2 (.cells #[.slice none 0 0,.int .i64 y0,.int .i64 y1,.int .i64 y2] 107))
     have hAB:=aB (Below.refl v2.heap.size v2) (.cells #[.slice none 0 0,.int .i64 y0,.int .i64 y1,.int .i64 y2] 107)
     replace HW:=Hd (HW.out.keepB HSEP.out hAB hsz)
     replace HG:=Hd (bG HG.out hAB (by omega))
     replace KC:=Hd (KC.out.below hAB)
     have hb0:∀a,A0=some a→a.block<v2.heap.size:=fun a ha=>(HO0.out.lt a ha).2
     replace HO0:=Hd (HO0.out.below hAB)
     have hsB:v2.heap.size+1<=(v2.alloc (.cells #[.slice none 0 0,.int .i64 y0,.int .i64 y1,.int .i64 y2] 107)).heap.size:=by simp
     clear hAB
     generalize hgle:v2.heap.size=gle at *
     have hSg4:S<=gle:=by omega
     have hgg4:g<gle:=by omega
     clear hgle
     go_loopw [12] (fun i wx=>∃(j:Nat) (xs:List Int) (A':Option Addr) (c':Nat),j<=4/\i = .int .i64 j/\xs.length=j/\uU 7 xs/\wx.heap[gle]?=some (.cells #[.slice A' j c',.int .i64 y0,.int .i64 y1,.int .i64 y2] 107 (0,0))/\Own (gle+1) wx A' j c' xs/\DS wx gr gc gm gl M mux #[.slice A0 4 c0,.int .i64 e0.mask,.int .i64 e0.flop,.int .i64 e0.init,.slice (some ⟨g1,0,none⟩) 4 4,.int .i64 0,.int .i64 0,.int .i64 0] 0 0/\Own S wx A0 4 c0 e0.sel/\Cur wx g B A n c bs/\w.grownBy wx (some g)/\gle+1<=wx.heap.size) (fun i _=>4 - (intOf i).toNat)
     case atStart=>exact ⟨0,[],none,0,by omega,rfl,rfl,xS (by omega),HXB.out,Own.nil,HW.out,HO0.out,KC.out,HG.out,hsB⟩
     case round =>
      obtain ⟨j,xs,A',c',hj,rfl,hxl,hxu,hxb,ho,hdw,ho0,hcu,hgw',hsz⟩:=hrel
      have HXL:=Hd hxl
      have HXU:=Hd hxu
      have HXB:=Hd hxb
      have HO:=Hd ho
      have HW:=Hd hdw
      have KC:=Hd hcu
      have HG:=Hd hgw'
      have HO0:=Hd ho0
      clear ho0
      clear hxl hxu hxb ho hdw hcu hgw'
      by_cases hlt:j<4
      ·have hdj:decide ((j:Int)<4)=true:=by simp;omega
       go_wp2_with fail
       refine (aj g B A n c bs 6 _ KC.out hn (by omega) (by omega)).mono ?_
       rintro e w9 ⟨s0,rfl,hs0,hs0',k9,g9⟩
       replace HXB:=Hd ((aY g9 (aG HXB.out) (by omega)).trans HXB.out)
       replace HO:=Hd (HO.out.grownC g9 (by omega))
       replace HW:=Hd (HW.out.grown HSEP.out hgl g9)
       replace HG:=Hd (aO HG.out g9)
       replace hsz:=Nat.le_trans hsz g9.size
       replace HO0:=Hd (HO0.out.grownC g9 (by omega))
       replace KC:=Hd k9
       clear g9 k9
       go_wp2_with fail
       refine (fB g B A n c bs 6 _ KC.out hn (by omega) (by omega)).mono ?_
       rintro e wo ⟨yo,rfl,ko,go⟩
       replace HXB:=Hd ((aY go (aG HXB.out) (by omega)).trans HXB.out)
       replace HO:=Hd (HO.out.grownC go (by omega))
       replace HW:=Hd (HW.out.grown HSEP.out hgl go)
       replace HG:=Hd (aO HG.out go)
       replace hsz:=Nat.le_trans hsz go.size
       replace HO0:=Hd (HO0.out.grownC go (by omega))
       replace KC:=Hd ko
       clear go ko
       cases yo with
       | false =>
        have hx0:=aC (k:=0) HXB.out rfl
        go_wp2_with (at_builtin;refine av rfl _ _ rfl (gle+1) A' j c' xs _ rfl HO.out rfl (by omega) hsz (Below.refl (gle+1) _) ?_;rintro g4 cap w4 o4 b4 gr4 hat4;have hx4:=(b4.block gle (by omega)).trans HXB.out;have c4:=aC (k:=0) hx4 rfl;have f4:=aF hx4 0)
        go_roundw
        case rel =>
         refine ⟨j+1,xs++[s0],_,_,by omega,by go_num,by rw [List.length_append,HXL.out];rfl,oV HXU.out (by omega),(bI hx4 0 _).trans rfl,o4.far (p:=⟨gle,0,none⟩) (by simp) _,(HW.out.keepB HSEP.out b4 (by omega)).far HSEP.out (p:=⟨gle,0,none⟩) (by simp only;omega) _,(HO0.out.keepB b4 (fun a ha=>by have:=hb0 a ha;omega)).off (p:=⟨gle,0,none⟩) (fun a ha=>by have:=hb0 a ha;simp only;omega) _,(KC.out.keepB b4 (by omega)).setNew (by omega) _ _,aP (bG HG.out b4 (by omega)) (by omega) _ _,by rw [bu];have:=b4.size;omega⟩
        case measure=>simp [intOf];omega
       | true =>
        go_wp2_with fail
        refine (aj g B A n c bs 8 _ KC.out hn (by omega) (by omega)).mono ?_
        rintro e wp ⟨s1,rfl,hs1,hs1',kp,gp⟩
        replace HXB:=Hd ((aY gp (aG HXB.out) (by omega)).trans HXB.out)
        replace HO:=Hd (HO.out.grownC gp (by omega))
        replace HW:=Hd (HW.out.grown HSEP.out hgl gp)
        replace HG:=Hd (aO HG.out gp)
        replace hsz:=Nat.le_trans hsz gp.size
        replace HO0:=Hd (HO0.out.grownC gp (by omega))
        replace KC:=Hd kp
        clear gp kp
        have hx0:=aC (k:=0) HXB.out rfl
        go_wp2_with (at_builtin;refine av rfl _ _ rfl (gle+1) A' j c' xs _ rfl HO.out rfl (by omega) hsz (Below.refl (gle+1) _) ?_;rintro g4 cap w4 o4 b4 gr4 hat4;have hx4:=(b4.block gle (by omega)).trans HXB.out;have c4:=aC (k:=0) hx4 rfl;have f4:=aF hx4 0)
        go_roundw
        case rel =>
         refine ⟨j+1,xs++[s1],_,_,by omega,by go_num,by rw [List.length_append,HXL.out];rfl,oV HXU.out (by omega),(bI hx4 0 _).trans rfl,o4.far (p:=⟨gle,0,none⟩) (by simp) _,(HW.out.keepB HSEP.out b4 (by omega)).far HSEP.out (p:=⟨gle,0,none⟩) (by simp only;omega) _,(HO0.out.keepB b4 (fun a ha=>by have:=hb0 a ha;omega)).off (p:=⟨gle,0,none⟩) (fun a ha=>by have:=hb0 a ha;simp only;omega) _,(KC.out.keepB b4 (by omega)).setNew (by omega) _ _,aP (bG HG.out b4 (by omega)) (by omega) _ _,by rw [bu];have:=b4.size;omega⟩
        case measure=>simp [intOf];omega
      ·have hj4:j=4:=by omega
       subst hj4
       have hdj:decide (((4:Nat):Int)<4)=false:=by decide
       have d0:=aC (k:=0) HXB.out rfl
       have d1:=aC (k:=1) HXB.out rfl
       have d2:=aC (k:=2) HXB.out rfl
       have d3:=aC (k:=3) HXB.out rfl
       have hc1:=aC (k:=1) HW.out.tile rfl
       have e10:=aC (k:=4) HW.out.les rfl
       have k0:=aF HW.out.les 4
       have e11:=aC (k:=5) HW.out.les rfl
       have k1:=aF HW.out.les 5
       have e12:=aC (k:=6) HW.out.les rfl
       have k2:=aF HW.out.les 6
       have e13:=aC (k:=7) HW.out.les rfl
       have k3:=aF HW.out.les 7
       have hll:=aG HW.out.les
       have z1:gle≠gl:=by have:=HSEP.out.lt;omega
       have z2:gle≠gc:=by have:=HSEP.out.lt;omega
       have z3:gc≠gl:=by have:=HSEP.out.ne;omega
       go_wp2_with fail
       go_roundw
       case rel =>
        have hq2:gl<gle+1:=by have:=HSEP.out.lt;omega
        have hq3:gl<S:=HSEP.out.lt.2.2.2
        have D:=(((HW.out.setLe HSEP.out 4 (.slice A' 4 c')).setLe HSEP.out 5 (.int .i64 y0)).setLe HSEP.out 6 (.int .i64 y1)).setLe HSEP.out 7 (.int .i64 y2)
        have OW:=((((HO.out).far (p:=⟨gl,4,none⟩) hq2 (.slice A' 4 c')).far (p:=⟨gl,5,none⟩) hq2 (.int .i64 y0)).far (p:=⟨gl,6,none⟩) hq2 (.int .i64 y1)).far (p:=⟨gl,7,none⟩) hq2 (.int .i64 y2)
        have BB:=aP (aP (aP (aP HG.out hlol 4 (.slice A' 4 c')) hlol 5 (.int .i64 y0)) hlol 6 (.int .i64 y1)) hlol 7 (.int .i64 y2)
        have CC:=(((KC.out.setNew hggl 4 (.slice A' 4 c')).setNew hggl 5 (.int .i64 y0)).setNew hggl 6 (.int .i64 y1)).setNew hggl 7 (.int .i64 y2)
        have OX:=((((HO0.out).far (p:=⟨gl,4,none⟩) hq3 (.slice A' 4 c')).far (p:=⟨gl,5,none⟩) hq3 (.int .i64 y0)).far (p:=⟨gl,6,none⟩) hq3 (.int .i64 y1)).far (p:=⟨gl,7,none⟩) hq3 (.int .i64 y2)
        refine ⟨2,[e0,⟨xs,y0,y1,y2⟩],_,by omega,rfl,rfl,?_,D,⟨A0,c0,A',c',gle+1,rfl,OX,fun a ha=>by have:=hb0 a ha;omega,by omega,OW⟩,CC,BB,by simp only [bu];omega⟩
        intro e he
        have hq:e=⟨xs,y0,y1,y2⟩∨e∈[e0]:=by simpa [or_comm] using he
        rcases hq with rfl|he
        ·exact JY HXL.out HXU.out (by omega) (by omega) (by omega)
        ·exact HEO.out e he
       case measure=>simp [intOf]
    ·obtain ⟨e0,e1,rfl⟩:∃e0 e1,es=[e0,e1]:=by
      match es,hel with
      | [a,b],_=>exact ⟨a,b,rfl⟩
     rw [show ((2:Nat):Int)=2 from rfl]
     go_wp2_with fail
     have hAB:=aB (Below.refl wr.heap.size wr) (.cells #[.int .i64 1,.int .i64 1,.int .i64 2,.int .i64 2,.int .i64 0,.int .i64 3] 3)
     refine (sH (fun y=>0<=y/\y<=3) g B A n c bs wr.heap.size 6 6 _ (KC.out.below hAB) hn (by omega) (by omega) (by have:=KC.out.lt;omega) (by simp) EW).mono ?_
     rintro e w5 ⟨p,rfl,hp,k5,g5⟩
     replace HW:=Hd ((HW.out.keepB HSEP.out hAB hsz).grown HSEP.out hgl g5)
     replace HL:=Hd ((HL.out.keepG (w':=wr.alloc (.cells #[.int .i64 1,.int .i64 1,.int .i64 2,.int .i64 2,.int .i64 0,.int .i64 3] 3)) (fun k _ h2=>hAB.block k h2)).grownD g5 (by omega))
     replace HG:=Hd (aO (bG HG.out hAB HG.out.size) g5)
     have hsz5:S<=w5.heap.size:=by have:=g5.size;have:=hAB.size;omega
     replace KC:=Hd k5
     clear hAB k5 g5
     have m2:=aC (k:=2) HW.out.tile rfl
     have q2:=aF HW.out.tile 2
     have l2:=aG HW.out.tile
     have hlog:w.heap.size<=gc:=by have:=HGR.out;omega
     have hlor:w.heap.size<=gr:=by have:=HGR.out;omega
     go_wp2_with fail
     refine (aj g B A n c bs 32 _ (KC.out.setNew hgc 2 _) hn (by omega) (by omega)).mono ?_
     rintro e w6 ⟨y,rfl,hy,hy',k6,g6⟩
     clear m2 q2 l2
     replace HW:=Hd ((HW.out.setPad HSEP.out p).grown HSEP.out hgl g6)
     replace HL:=Hd ((HL.out.farD (p:=⟨gc,2,none⟩) hSg2 (.int .i64 p)).grownD g6 (by omega))
     replace HG:=Hd (aO (aP HG.out hlog 2 (.int .i64 p)) g6)
     replace KC:=Hd k6
     have hsz6:S<=w6.heap.size:=by have h:=g6.size;rw [bu] at h;omega
     clear k6 g6
     have m2:=aC (k:=2) HW.out.tile rfl
     have m3:=aC (k:=3) HW.out.tile rfl
     have q3:=aF HW.out.tile 3
     have m0:=aC (k:=0) HW.out.tile rfl
     have m1:=aC (k:=1) HW.out.tile rfl
     have r0:=aC (k:=0) HW.out.res rfl
     have r1:=aC (k:=1) HW.out.res rfl
     have r2:=aC (k:=2) HW.out.res rfl
     have r3:=aC (k:=3) HW.out.res rfl
     have s0:=aF HW.out.res 0
     have s1:=aF HW.out.res 1
     have s2:=aF HW.out.res 2
     have s3:=aF HW.out.res 3
     have l2:=aG HW.out.tile
     have l3:=aG HW.out.res
     have hne:gr≠gc:=HSEP.out.ne.1
     go_wp2_with fail
     have X:=HW.out.setRam HSEP.out y
     have hx:=gP (v0 := .slice (some ⟨gm,0,none⟩) M M) (v1 := .slice (some ⟨gl,0,none⟩) 2 2) (v2 := .int .i64 p) (v3 := .int .i64 y) X.res
     obtain ⟨t1,t2,t3,t4⟩:=HSEP.out.lt
     obtain ⟨n1,n2,n3,n4,n5,n6⟩:=HSEP.out.ne
     have LL:=((((HL.out.farD (p:=⟨gc,3,none⟩) t2 (.int .i64 y)).farD (p:=⟨gr,0,none⟩) t1 (.slice (some ⟨gm,0,none⟩) M M)).farD (p:=⟨gr,1,none⟩) t1 (.slice (some ⟨gl,0,none⟩) 2 2)).farD (p:=⟨gr,2,none⟩) t1 (.int .i64 p)).farD (p:=⟨gr,3,none⟩) t1 (.int .i64 y)
     have MM:=aR (p:=⟨gr,3,none⟩) (.int .i64 y) (aR (p:=⟨gr,2,none⟩) (.int .i64 p) (aR (p:=⟨gr,1,none⟩) (.slice (some ⟨gl,0,none⟩) 2 2) (aR (p:=⟨gr,0,none⟩) (.slice (some ⟨gm,0,none⟩) M M) X.mux n2.symm) n2.symm) n2.symm) n2.symm
     have EE:=aR (p:=⟨gr,3,none⟩) (.int .i64 y) (aR (p:=⟨gr,2,none⟩) (.int .i64 p) (aR (p:=⟨gr,1,none⟩) (.slice (some ⟨gl,0,none⟩) 2 2) (aR (p:=⟨gr,0,none⟩) (.slice (some ⟨gm,0,none⟩) M M) X.les n3.symm) n3.symm) n3.symm) n3.symm
     have GG:=aP (aP (aP (aP (aP HG.out hlog 3 (.int .i64 y)) hlor 0 (.slice (some ⟨gm,0,none⟩) M M)) hlor 1 (.slice (some ⟨gl,0,none⟩) 2 2)) hlor 2 (.int .i64 p)) hlor 3 (.int .i64 y)
     have CC:=((((KC.out.setNew hgc 3 (.int .i64 y)).setNew hgrr 0 (.slice (some ⟨gm,0,none⟩) M M)).setNew hgrr 1 (.slice (some ⟨gl,0,none⟩) 2 2)).setNew hgrr 2 (.int .i64 p)).setNew hgrr 3 (.int .i64 y)
     have O:=GK (pad:=p) (ram:=y) MM EE HSEP.out LL hSg HML.out (by unfold maxLen;omega)
     have TOK:=HOK.out mux e0 e1 p y HML.out HMU.out (HEO.out e0 (by simp)) (HEO.out e1 (by simp)) hp ⟨hy,hy'⟩
     generalize ((((w6.setCell ⟨gc,3,none⟩ (.int .i64 y)).setCell ⟨gr,0,none⟩ (.slice (some ⟨gm,0,none⟩) M M)).setCell ⟨gr,1,none⟩ (.slice (some ⟨gl,0,none⟩) 2 2)).setCell ⟨gr,2,none⟩ (.int .i64 p)).setCell ⟨gr,3,none⟩ (.int .i64 y)=w7 at *
     have d0:=aC (k:=0) hx rfl
     have d1:=aC (k:=1) hx rfl
     have d2:=aC (k:=2) hx rfl
     have d3:=aC (k:=3) hx rfl
     exact bodyPost_ret (v := .agg #[.slice (some ⟨gm,0,none⟩) M M,.slice (some ⟨gl,0,none⟩) 2 2,.int .i64 p,.int .i64 y]) (by simp [results,Tryz.results179,go_sem,d0,d1,d2,d3]) rfl ⟨_,_,rfl,TOK,⟨_,_,rfl,O⟩,CC,GG⟩
end Go.Proofs.YtignkfhdkcgkgaaGreat
