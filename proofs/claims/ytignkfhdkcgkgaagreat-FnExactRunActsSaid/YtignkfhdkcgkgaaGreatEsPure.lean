/- append of several integers to a row of the call's own. -/
import Derived.Deep.CutBlock
import Derived.Deep.CutRange
import Derived.Deep.DeepCutAuto
import Derived.Test.YtignkfhdkcgkgaaGreatValS2
namespace Go.Proofs.YtignkfhdkcgkgaaGreat
set_option maxHeartbeats 2000000
set_option maxRecDepth 100000
open Go.RowKit
theorem vR {w:World} {news:List Int} (j:Nat) (u:Value) (hu:(news.map (Value.int .i64))[j]?=some u):(w.alloc (.cells (arr news) 3)).cell? ((⟨w.heap.size,0,none⟩:Addr).add j)=some u:=by
 have e1:(⟨w.heap.size,0,none⟩:Addr).add j=⟨w.heap.size,j,none⟩:=by rw [Addr.add_lit];simp
 rw [e1]
 unfold World.cell?
 rw [aL]
 simpa [arr] using hu
theorem xQ {news:List Int} (u:Value) (hu:u∈news.map (Value.int .i64)):u.oneCell'=true:=by
 simp at hu
 obtain ⟨y,_,rfl⟩:=hu
 rfl
theorem uS {base:Nat} {A:Option Addr} {n c:Nat} {xs news:List Int} {w w' W:World} (hown:Own base w A n c xs) (hbase:base<=w.heap.size) (hB:Below base W w) (h2:(w.alloc (.cells (arr news) 3)).grownBy w' (Value.slice A n c).ownBlock):Below base W w':=by
 rw [fH] at h2
 refine (hB.alloc hbase _).grown h2 (by simp;omega) ?_
 intro k hk
 cases A with
 | none=>cases hk
 | some a' =>
  injection hk with hk
  subst hk
  exact (hown.lt a' rfl).1
theorem sJ {ops:Array Oper} {rest:List Oper} {o:Oper} {a:Act} {Q:Exit→Act→World→Prop} {w W:World} (hgd:o.guard=none) (s x:Operand)
  (ho:o.op = .call { callee := .builtin .append,args:=#[s,x],argTypes:=#[27,27] })
  (base:Nat) (A:Option Addr) (n c:Nat) (xs news:List Int) (m:Nat) (hs:a.eval s = .slice A n c) (hown:Own base w A n c xs) (hx:a.eval x = .slice (some ⟨w.heap.size,0,none⟩) m m) (hm:news.length=m) (hm0:0<m)
  (hn:n+m<=1099511627776) (hbase:base<=w.heap.size) (hB:Below base W w)
  (h:∀g cap w',Own base w' (some ⟨g,0,none⟩) (n+m) cap (xs++news)→Below base W w'→(w.alloc (.cells (arr news) 3)).grownBy w' (A.map (·.block))→(A.map (·.block)=some g∨g=w.heap.size+1) →
   wpList Tryz.prog ops Q rest (a.put o.dst (.slice (some ⟨g,0,none⟩) (n+m) cap)) w'):wpList Tryz.prog ops Q (o :: rest) a (w.alloc (.cells (arr news) 3)):=by
 obtain ⟨i0,hi,hz0,hz1,hz2⟩:=info_parts eP
 have hl:=hown.lt
 refine wpList_append_lies (w.alloc (.cells (arr news) 3)) hgd s x 27 ho base 3 i0 (.int .i64 0) 1 8 Tryz.underlying27 hi hz0 hz1 hz2 rfl (by omega) (.slice A n c) n (xs.map (Value.int .i64)) hs
  (aa hown fun a ha=>Below.heap_alloc _ _ _ (hl a ha).2) ⟨w.heap.size,0,none⟩ m m (news.map (Value.int .i64)) hx (by simp [hm])
  vR xQ hm0 (by unfold maxLen;omega) (by omega) (by simp;omega) (w.heap.size+1) (by simp) ?_
 intro g cap w' h1 h2 h3 _
 have h2':=h2
 rw [fH] at h2' h3
 exact h g cap w' (by simpa [Own] using h1) (uS hown hbase hB h2) h2' h3
theorem zl {ops:Array Oper} {o:Oper} {a:Act} {K:Act→World→Prop} {Q:Exit→Act→World→Prop} {E:Prop} {w W:World} (hgd:o.guard=none) (s x:Operand)
  (ho:o.op = .call { callee := .builtin .append,args:=#[s,x],argTypes:=#[27,27] })
  (base:Nat) (A:Option Addr) (n c:Nat) (xs news:List Int) (m:Nat) (hs:a.eval s = .slice A n c) (hown:Own base w A n c xs) (hx:a.eval x = .slice (some ⟨w.heap.size,0,none⟩) m m) (hm:news.length=m) (hm0:0<m)
  (hn:n+m<=1099511627776) (hbase:base<=w.heap.size) (hB:Below base W w)
  (h:∀g cap w',Own base w' (some ⟨g,0,none⟩) (n+m) cap (xs++news)→Below base W w'→(w.alloc (.cells (arr news) 3)).grownBy w' (A.map (·.block))→(A.map (·.block)=some g∨g=w.heap.size+1)→K (a.put o.dst (.slice (some ⟨g,0,none⟩) (n+m) cap)) w') :
  if Region.wanted o (yielded ops a.tmps)=true then Oper.wp Tryz.prog o a (w.alloc (.cells (arr news) 3)).drew K Q else E:=by
 obtain ⟨i0,hi,hz0,hz1,hz2⟩:=info_parts eP
 have hl:=hown.lt
 refine step_append_lies (w.alloc (.cells (arr news) 3)).drew hgd s x 27 ho base 3 i0 (.int .i64 0) 1 8 Tryz.underlying27 hi hz0 hz1 hz2 rfl (by omega) (.slice A n c) n (xs.map (Value.int .i64)) hs
  (aa (w':=(w.alloc (.cells (arr news) 3)).drew) hown fun a ha=>Below.heap_alloc w _ _ (hl a ha).2) ⟨w.heap.size,0,none⟩ m m (news.map (Value.int .i64)) hx (by simp [hm])
  vR xQ hm0 (by unfold maxLen;omega) (by omega) (show base<=(w.alloc (.cells (arr news) 3)).heap.size by simp;omega) (w.heap.size+1) (show (w.alloc (.cells (arr news) 3)).heap.size=w.heap.size+1 by simp) ?_
 intro g cap w' h1 h2 h3 _
 have h2:(w.alloc (.cells (arr news) 3)).grownBy w' (Value.slice A n c).ownBlock:=⟨h2.os,h2.tape,h2.output,h2.size,h2.block⟩
 have h2':=h2
 rw [fH] at h2' h3
 exact h g cap w' (by simpa [Own] using h1) (uS hown hbase hB h2) h2' h3
def rA (w1 wr:World) (lo:Nat) (A:Option Addr):Prop:=(∀k,lo<=k→k<w1.heap.size→wr.heap[k]?=w1.heap[k]?)/\w1.heap.size<=wr.heap.size/\∀a,A=some a→a.block<lo∨w1.heap.size<=a.block
theorem rA.below {w1 wr w2:World} {lo:Nat} {A:Option Addr} (h:rA w1 wr lo A) (hb:Below wr.heap.size wr w2):rA w1 w2 lo A :=
 ⟨fun k h1 h2=>(hb.block k (by have:=h.2.1;omega)).trans (h.1 k h1 h2),by have:=h.2.1;have:=hb.size;omega,h.2.2⟩
theorem rA.pushed {w1 w2 w4:World} {lo g:Nat} {A:Option Addr} {o:Obj} (h:rA w1 w2 lo A) (hg:(w2.alloc o).grownBy w4 (A.map (·.block))) (hat:A.map (·.block)=some g∨g=w2.heap.size+1) (_hlo:True):rA w1 w4 lo (some ⟨g,0,none⟩):=by
 have hs:=hg.size
 simp only [World.size_alloc] at hs
 have h2:=h.2.1
 refine ⟨fun k h1 h3=>?_,by omega,?_⟩
 ·refine ((hg.block k (by simp;omega) ?_).trans (Below.heap_alloc _ _ _ (by omega))).trans (h.1 k h1 h3)
  cases hA:A with
  | none=>simp
  | some a =>
   simp only [Option.map_some,ne_eq,Option.some.injEq]
   rintro rfl
   have:=h.2.2 a hA
   omega
 ·rintro a ⟨⟩
  rcases hat with hat|hat
  ·cases hA:A with
   | none=>rw [hA] at hat;cases hat
   | some a =>
    rw [hA] at hat
    simp at hat
    have:=h.2.2 a hA
    simp only
    omega
  ·right
   simp only
   omega
theorem qY (d:Dev) (A:Option Addr) (n c:Nat) (fs:List (List Int)) (w:World) (hA:dZ w A n fs) (hz:af fs<=1099511627776) :
  Calls Tryz.prog 156 #[.agg #[.int .i64 d.W,.int .i64 d.H,.int .i64 d.T,.int .i64 d.R],.slice A n c] w fun e w'=>∃A' n' c',e = .returned (.slice A' n' c')/\Own w.heap.size w' A' n' c' (dA d fs)/\Below w.heap.size w w':=by
 have hB0:Below w.heap.size w (w.alloc (.cells #[.int .i64 d.W,.int .i64 d.H,.int .i64 d.T,.int .i64 d.R] 25)):=aB (Below.refl _ _) _
 have HI:=Hd hA
 have HX:=Hd hA.1
 clear hA
 go_enter Tryz.func156,Tryz.ntmps156
 go_wp2_with fail
 refine (kY d A n c fs _ (HI.out.below (aB hB0 _)) hz).mono ?_
 rintro e w1 ⟨A1,n1,c1,rfl,o1,b1⟩
 have hs1:=b1.size
 simp only [World.size_alloc] at hs1 o1
 have B1:=Hd (aA (aB (Below.refl (w.alloc (.cells #[.int .i64 d.W,.int .i64 d.H,.int .i64 d.T,.int .i64 d.R] 25)).heap.size (w.alloc (.cells #[.int .i64 d.W,.int .i64 d.H,.int .i64 d.T,.int .i64 d.R] 25))) _) b1)
 have O0:=Hd ((Own.newAt (w:=(w.alloc (.cells #[.int .i64 d.W,.int .i64 d.H,.int .i64 d.T,.int .i64 d.R] 25))) (base:=(w.alloc (.cells #[.int .i64 d.W,.int .i64 d.H,.int .i64 d.T,.int .i64 d.R] 25)).heap.size) (g:=w.heap.size+1) (by simp) (by simp)).below b1)
 have HT:=Hd o1
 have HTL:=Hd (o1.rd).tlen
 clear b1 o1
 cases hf:az d fs with
 | false =>
  have HR:Hid (lZ d fs=[]):=by unfold Hid;rw [lZ,hf];rfl
  have HSB:=Hd (vo hf)
  obtain rfl:0=n1:=by have:=HTL.out;rw [HR.out] at this;exact this
  clear hf
  go_wp2_with fail
  refine wp_loop_rounds 1 ?_;rw [rounds_succ]
  go_wp2_with fail
  go_ret
  exact ⟨_,0,0,rfl,by rw [HSB.out];exact O0.out.more (by simp),aA hB0 B1.out⟩
 | true =>
  have hn36:=(dW hf).2
  have HR:Hid (lZ d fs=av d fs):=by unfold Hid;rw [lZ,hf,if_pos rfl]
  have hn1:n1=fs.length:=by have:=HTL.out;rw [HR.out,iR] at this;exact this.symm
  have hntl:=(dW hf).1
  obtain ⟨hN,hN1,hN2⟩:=bT (aj hf).1
  have hkk:∀k:Nat,k<n1→iE d (k:Int)=ah d (k:Int):=fun k hk=>nA (aj hf).1 (by omega) (by rw [hN];omega)
  have HKK:=Hd hkk
  have HSG:=Hd (pg hf)
  have HN1:=Hd hn1
  rw [←hn1] at hn36
  have HL:=Hd (sQ d fs)
  rw [HR.out] at HT HTL
  clear hf hn1 hntl hN hkk
  generalize av d fs=ts at *
  go_wp2_with fail
  have hsl:(∀k,w.heap.size+1+1<=k→k<w1.heap.size→w1.heap[k]?=w1.heap[k]?):=fun _ _ _=>rfl
  go_loopw [5,7] (fun v i wr=>∃(k:Nat) (A':Option Addr) (c':Nat),k<=n1/\i = .int .i64 k/\v = .slice A' (2 * k) c'/\Own (w.alloc (.cells #[.int .i64 d.W,.int .i64 d.H,.int .i64 d.T,.int .i64 d.R] 25)).heap.size wr A' (2 * k) c' (fI d ts k)/\Below (w.alloc (.cells #[.int .i64 d.W,.int .i64 d.H,.int .i64 d.T,.int .i64 d.R] 25)).heap.size (w.alloc (.cells #[.int .i64 d.W,.int .i64 d.H,.int .i64 d.T,.int .i64 d.R] 25)) wr/\rA w1 wr (w.heap.size+1+1) A') (fun _ i _=>n1 - (intOf i).toNat)
  case atStart=>exact ⟨0,_,0,Nat.zero_le _,rfl,rfl,O0.out,B1.out,fun _ _ _=>rfl,Nat.le_refl _,by rintro a ⟨⟩;exact .inl (by simp)⟩
  case round =>
   obtain ⟨k,A',c',hk,rfl,rfl,ho,hbx,hkp⟩:=hrel
   have HO:=Hd ho
   have HBX:=Hd hbx
   have HKP:=Hd hkp
   have hsx:=hbx.size
   have hkz:=hkp.2.1
   simp only [World.size_alloc] at hsx
   obtain ⟨hcc,hff⟩:=aO hbx
   clear ho hbx hkp
   by_cases hlt:k<n1
   ·obtain ⟨b,S,m3,p,L,l,q,rfl,hblo,hbhi,hb,x0,x1,x2,x3,r0,r1⟩:=(HT.out.keep (w':=wr) (fun k h1 h2 _=>HKP.out.1 k h1 h2)).tile (k:=k) (by rw [HTL.out];exact hlt)
    have hll:=HL.out k (by rw [HTL.out];exact hlt)
    have HLE:=Hd r1
    have HSO:Hid (je d k (ts[k]?.getD au.zero)=if ah d (k:Int)=1 then [((ts[k]?.getD au.zero).les[0]?.getD Le.zero).init,((ts[k]?.getD au.zero).les[1]?.getD Le.zero).init] else if ah d (k:Int)=2 then [(ts[k]?.getD au.zero).ram,0] else [0,0]):=rfl
    have HSS:=Hd (fI.eq_2 d ts k)
    generalize ts[k]?.getD au.zero=t at *
    have HLL:=Hd hll
    have HK1:=Hd (HKK.out k hlt)
    have i0:(0:Int)<=(k:Int):=by omega
    have i1:(k:Int)<(n1:Int):=by omega
    have hww:w.heap.size<wr.heap.size:=by omega
    clear r0 r1 hll
    go_wp2_with fail
    refine (iL d k _ (by omega)).mono ?_
    rintro e w2 ⟨rfl,b2⟩
    rw [HK1.out]
    have hs2:=b2.size
    have z2:=(b2.cell (p:=⟨b,k * 4+2,none⟩) (by simpa using hb)).trans x2
    have z3:=(b2.cell (p:=⟨b,k * 4+3,none⟩) (by simpa using hb)).trans x3
    have z1:=(b2.cell (p:=⟨b,k * 4+1,none⟩) (by simpa using hb)).trans x1
    have E2:=Hd (aA HBX.out b2)
    have O2:=Hd (HO.out.below b2)
    have K2:=Hd (HKP.out.below b2)
    have LE2:=Hd (HLE.out.below b2)
    clear b2 hcc hff x0 x1 x2 x3
    have hk3:=df d (k:Int)
    generalize ah d (k:Int)=kd at *
    rcases hk3 with h|h|h
    ·subst h
     have HS1:Hid (je d k t=[0,0]):=by unfold Hid;rw [HSO.out];simp
     go_wp2_with (at_builtin;refine sJ rfl _ _ rfl (w.alloc (.cells #[.int .i64 d.W,.int .i64 d.H,.int .i64 d.T,.int .i64 d.R] 25)).heap.size A' (2 * k) c' (fI d ts k) [0,0] 2 rfl O2.out rfl rfl (by omega) (by omega) (by simp only [World.size_alloc];omega) E2.out ?_;rintro g4 cap w4 o4 b4 gr4 hat4)
     go_roundw
     case rel=>exact ⟨k+1,_,_,by omega,by go_num,rfl,by rw [HSS.out,HS1.out];exact o4,b4,K2.out.pushed gr4 hat4 trivial⟩
     case measure=>simp [intOf];omega
    ·subst h
     obtain ⟨b3,S3,m4,p3,rfl,hb3lo,hb3hi,hb3,_,_,_,d3,_⟩:=LE2.out.le (k:=0) (by rw [HLL.out];omega)
     obtain ⟨b4,S4,m5,p4,hbo,_,_,_,_,_,_,d4,_⟩:=LE2.out.le (k:=1) (by rw [HLL.out];omega)
     injection hbo with hbo
     injection hbo with hb4
     subst hb4
     obtain rfl:2=l:=by have hl2:=LE2.out.rd.elen;rw [HLL.out] at hl2;exact hl2
     have HS1:Hid (je d k t=[((t.les)[0]?.getD Le.zero).init,((t.les)[1]?.getD Le.zero).init]):=by unfold Hid;rw [HSO.out,if_pos rfl]
     generalize ((t.les)[0]?.getD Le.zero).init=x at *
     generalize ((t.les)[1]?.getD Le.zero).init=y at *
     have d3':w2.cell? ⟨b3,3,none⟩=some (.int .i64 x):=by have h:=d3;rw [Nat.zero_mul,Nat.zero_add] at h;exact h
     have d4':w2.cell? ⟨b3,4+3,none⟩=some (.int .i64 y):=by have h:=d4;rw [Nat.one_mul] at h;exact h
     clear d3 d4
     go_wp2_with fail
     go_region_held3 (fun w'=>w'.cell? ⟨b,k * 4+1,none⟩=some (.slice (some ⟨b3,0,none⟩) 2 q)/\w'.cell? ⟨b3,3,none⟩=some (.int .i64 x)/\w'.cell? ⟨b3,4+3,none⟩=some (.int .i64 y))
      (first|exact ⟨z1,d3',d4'⟩|exact ⟨(World.cell?_of_block (a:=⟨b,k * 4+1,none⟩) (Below.heap_alloc _ _ _ (by simp only;omega))).trans z1,(World.cell?_of_block (a:=⟨b3,3,none⟩) (Below.heap_alloc _ _ _ (by simp only;omega))).trans d3',(World.cell?_of_block (a:=⟨b3,4+3,none⟩) (Below.heap_alloc _ _ _ (by simp only;omega))).trans d4'⟩|exact ⟨(World.cell?_of_block (w:=w2) (a:=⟨b,k * 4+1,none⟩) (((K2.out.pushed gr4 hat4 trivial).1 b hblo hbhi).trans (K2.out.1 b hblo hbhi).symm)).trans z1,(World.cell?_of_block (w:=w2) (a:=⟨b3,3,none⟩) (((K2.out.pushed gr4 hat4 trivial).1 b3 hb3lo hb3hi).trans (K2.out.1 b3 hb3lo hb3hi).symm)).trans d3',(World.cell?_of_block (w:=w2) (a:=⟨b3,4+3,none⟩) (((K2.out.pushed gr4 hat4 trivial).1 b3 hb3lo hb3hi).trans (K2.out.1 b3 hb3lo hb3hi).symm)).trans d4'⟩)
      ((refine zl rfl _ _ (by rfl) (w.alloc (.cells #[.int .i64 d.W,.int .i64 d.H,.int .i64 d.T,.int .i64 d.R] 25)).heap.size A' (2 * k) c' (fI d ts k) [x,y] 2 (by rfl) O2.out (by rfl) rfl (by omega) (by omega) (by simp only [World.size_alloc];omega) E2.out ?_;rintro g4 cap w4 o4 b4 gr4 hat4))
     go_wp2_with fail
     go_roundw
     case rel=>exact ⟨k+1,_,_,by omega,by go_num,rfl,by rw [HSS.out,HS1.out];exact o4,b4,K2.out.pushed gr4 hat4 trivial⟩
     case measure=>simp [intOf];omega
    ·subst h
     have HS1:Hid (je d k t=[t.ram,0]):=by unfold Hid;rw [HSO.out];simp
     go_wp2_with (at_builtin;refine sJ rfl _ _ rfl (w.alloc (.cells #[.int .i64 d.W,.int .i64 d.H,.int .i64 d.T,.int .i64 d.R] 25)).heap.size A' (2 * k) c' (fI d ts k) [t.ram,0] 2 rfl O2.out rfl rfl (by omega) (by omega) (by simp only [World.size_alloc];omega) E2.out ?_;rintro g4 cap w4 o4 b4 gr4 hat4)
     go_roundw
     case rel=>exact ⟨k+1,_,_,by omega,by go_num,rfl,by rw [HSS.out,HS1.out];exact o4,b4,K2.out.pushed gr4 hat4 trivial⟩
     case measure=>simp [intOf];omega
   ·have hkn:n1=k:=by omega
    subst hkn
    go_wp2_with fail
    go_ret
    exact ⟨_,_,_,rfl,by rw [HSG.out,←HN1.out];exact HO.out.more (by simp),aA hB0 HBX.out⟩
def j5 (d:Dev) (ps:List Int):Bool:=bN ps (d.W * d.H) 1
theorem EU {ws:List Int} {most:Int} (h:kT ws most=true) (hm:0<=most) (k:Nat):0<=ws[k]?.getD 0/\ws[k]?.getD 0<=most:=by
 rcases Nat.lt_or_ge k ws.length with hk|hk
 ·exact nR h hk
 ·rw [List.getElem?_eq_none hk];exact ⟨Int.le_refl _,hm⟩
theorem vS {d:Dev} {ps:List Int} (h:j5 d ps=true):(ps.length:Int)=d.W * d.H/\kT ps 1=true:=by
 unfold j5 bN at h
 rw [Bool.and_eq_true,decide_eq_true_eq] at h
 exact h
theorem sK {d:Dev} {st:List Int} (h:mM d st=true):st.length=2 * tiles d:=by
 simp only [mM,Bool.and_eq_true,decide_eq_true_eq] at h
 exact h.2.1
theorem CK (d:Dev) (i:Nat):0<=eQ d i:=by unfold eQ;split <;> (try split) <;> omega
theorem zm {d:Dev} {st:List Int} (h:mM d st=true) (i:Nat):0<=st[i]?.getD 0/\st[i]?.getD 0<=eQ d i:=by
 rcases Nat.lt_or_ge i st.length with hk|hk
 ·simp only [mM,Bool.and_eq_true,List.all_eq_true,List.mem_range] at h
  exact ak.1 (h.2.2 i hk)
 ·rw [List.getElem?_eq_none hk];exact ⟨Int.le_refl _,CK d i⟩
theorem EW {d:Dev} {ts:List au} {st ps:List Int} (hs:mM d st=true) (hp:j5 d ps=true):kD d ts st ps:=by
 refine ⟨fun t _ _=>EU (vS hp).2 (by omega) _,fun t e ht hk h0 h1=>?_,fun t ht hk=>?_⟩
 ·have ht0:=(aV.1 ht).2.1
  have h:=zm hs (2 * t+e).toNat
  unfold nv
  have hx:(((2 * t+e).toNat / 2:Nat):Int)=t:=by omega
  rw [eQ,hx,if_pos hk] at h
  exact h
 ·have ht0:=(aV.1 ht).2.1
  have h:=zm hs (2 * t).toNat
  unfold nv
  have hx:(((2 * t).toNat / 2:Nat):Int)=t:=by omega
  rw [eQ,hx,if_neg (by omega),if_pos ⟨hk,by omega⟩] at h
  exact h
theorem CL (d:Dev) (A:Option Addr) (n c:Nat) (ps:List Int) (w:World) (h:bH w A n ps) (hn:n<=1099511627776) (hd:bO d=true) :
  Calls Tryz.prog 164 #[.agg #[.int .i64 d.W,.int .i64 d.H,.int .i64 d.T,.int .i64 d.R],.slice A n c] w fun e w'=>e = .returned (.bool (j5 d ps))/\Below w.heap.size w w':=by
 have hB0:Below w.heap.size w (w.alloc (.cells #[.int .i64 d.W,.int .i64 d.H,.int .i64 d.T,.int .i64 d.R] 25)):=aB (Below.refl _ _) _
 have HI:=Hd h
 have HE:Hid (j5 d ps=bN ps (d.W * d.H) 1):=rfl
 have e1:=(bT hd).1
 have hWH:=(bT hd).2
 rw [e1] at HE
 generalize tiles d=M at *
 have a3:IntKind.i64.wrap (M:Int)=(M:Int):=IntWalk.i64_in _ (by omega)
 clear h hd
 go_enter Tryz.func164,Tryz.ntmps164
 go_wp2_with fail
 refine (mf A n c ps _ _ _ (HI.out.below hB0) hn).mono ?_
 rintro e w1 ⟨rfl,b1⟩
 go_wp2_with fail
 go_ret
 exact ⟨aH HE.out.symm,aA hB0 b1⟩
theorem uT (A:Option Addr) (n c:Nat) (ws:List Int) (count most:Int) (w:World) (h:bH w A n ws) (hn:n<=1099511627776) (hlen:(n:Int)=count) :
  Calls Tryz.prog 159 #[.slice A n c,.int .i64 count,.int .i64 most] w fun e w'=>e = .returned (.bool (kT ws most))/\Below w.heap.size w w':=by
 obtain ⟨hx,hA⟩:=h
 have HX:=Hd hx
 have hd:((n:Int)==count)=true:=by simp [hlen]
 have HN:=Hd hlen
 clear hx hlen
 go_enter Tryz.func159,Tryz.ntmps159
 go_wp2_with fail
 go_loop [7] (fun i=>∃k:Nat,k<=n/\i = .int .i64 k/\∀j,j<k→inR (ws[j]?.getD 0) 0 most=true) (fun i=>n - (intOf i).toNat)
 case atStart=>exact ⟨0,Nat.zero_le _,rfl,by intro j hj;omega⟩
 case round =>
  obtain ⟨k,hk,rfl,hall⟩:=hrel
  have HALL:=Hd hall
  clear hall
  by_cases hlt:k<n
  ·obtain ⟨b,o,rfl,hb,hc⟩:=hA (by omega)
   have hck:=hc k hlt
   clear hc
   have HB:Hid (inR (ws[k]?.getD 0) 0 most=false→kT ws most=false):=fun h=>uM (by rw [HX.out];exact hlt) h
   have HG:Hid (inR (ws[k]?.getD 0) 0 most=true→∀j,j<k+1→inR (ws[j]?.getD 0) 0 most=true):=fun h=>gF HALL.out h
   generalize ws[k]?.getD 0=x at *
   cases hin:inR x 0 most with
   | true =>
    have HG':=Hd (HG.out hin)
    clear HG HB
    go_wp2_with (go_at_call 175;refine (aW _ _ _ _).mono ?_;rintro e w' ⟨rfl,rfl⟩)
    go_round
    case rel=>exact ⟨k+1,by omega,by go_num,HG'.out⟩
    case measure=>simp [intOf];omega
   | false =>
    have HB':=Hd (HB.out hin)
    clear HG HB
    go_wp2_with (go_at_call 175;refine (aW _ _ _ _).mono ?_;rintro e w' ⟨rfl,rfl⟩)
    go_ret
    exact ⟨aH (by rw [HB'.out]),Below.refl _ _⟩
  ·have hkn:k=n:=by omega
   subst hkn
   go_wp2
   go_ret
   exact ⟨aH (by rw [mH (by rw [HX.out];exact HALL.out)]),Below.refl _ _⟩
theorem yM (d:Dev) (A:Option Addr) (n c:Nat) (ps:List Int) (w:World) (h:bH w A n ps) (hn:n<=1099511627776) (hd:bO d=true) :
  Calls Tryz.prog 157 #[.agg #[.int .i64 d.W,.int .i64 d.H,.int .i64 d.T,.int .i64 d.R],.slice A n c] w fun e w'=>e = .returned (.bool (j5 d ps))/\Below w.heap.size w w':=by
 have hB0:Below w.heap.size w (w.alloc (.cells #[.int .i64 d.W,.int .i64 d.H,.int .i64 d.T,.int .i64 d.R] 25)):=aB (Below.refl _ _) _
 have HI:=Hd h
 have HX:=Hd h.1
 have HE:Hid (j5 d ps=bN ps (d.W * d.H) 1):=rfl
 have e1:=(bT hd).1
 have hWH:=(bT hd).2
 rw [e1] at HE
 generalize tiles d=M at *
 have a3:IntKind.i64.wrap (M:Int)=(M:Int):=IntWalk.i64_in _ (by omega)
 clear h hd
 by_cases hl:(n:Int)=(M:Int)
 ·have hd1:((n:Int)==(M:Int))=true:=by simp [hl]
  have HL:=Hd hl
  have HE2:Hid (j5 d ps=kT ps 1):=by show _=_;rw [HE.out,bN,HX.out,decide_eq_true hl];rfl
  clear hl
  go_enter Tryz.func157,Tryz.ntmps157
  go_wp2_with fail
  refine (uT A n c ps _ _ _ (HI.out.below hB0) hn HL.out).mono ?_
  rintro e w1 ⟨rfl,b1⟩
  go_wp2_with fail
  go_ret
  exact ⟨aH HE2.out.symm,aA hB0 b1⟩
 ·have hd1:((n:Int)==(M:Int))=false:=by simp [hl]
  have HE2:Hid (j5 d ps=false):=by show _=_;rw [HE.out,bN,HX.out,decide_eq_false hl];rfl
  clear hl
  go_enter Tryz.func157,Tryz.ntmps157
  go_wp2_with fail
  go_ret
  exact ⟨aH HE2.out.symm,hB0⟩
def CO (v a:Nat):Nat:=v / 2 * 2+v / 2 ^ a % 2
def ky (v i:Nat):Nat:=if i / 8 % 2=1 then CO v (i % 4+1) - CO v (i % 4+1) / 2 ^ (i % 4+1) % 2 * 2 ^ (i % 4+1)+i / 4 % 2 * 2 ^ (i % 4+1) else CO v (i % 4+1)
theorem zq (w:World):Calls Tryz.prog 203 #[.int .i64 1] w fun e w'=>e = .returned (.int .i64 31)/\w'=w:=by
 go_enter Tryz.func203,Tryz.ntmps203
 go_wp2_with fail
 go_ret
 exact ⟨rfl,rfl⟩
theorem zt (v i:Nat) (hv:v<=31) (hi:i<=15) (w:World) :
  Calls Tryz.prog 151 #[.int .i64 1,.int .i64 (v:Int),.int .i64 (i:Int)] w fun e w'=>e = .returned (.int .i64 (ky v i:Nat))/\w'=w:=by
 have hin:inR (v:Int) 0 31=true:=ak.2 ⟨by omega,by omega⟩
 go_enter Tryz.func151,Tryz.ntmps151
 go_wp2_with (first|(go_at_call 203;refine (zq _).mono ?_;rintro e w' ⟨rfl,rfl⟩)|(go_at_call 116;refine (aN _ _ _ _).mono ?_;rintro e w' ⟨rfl,rfl⟩;rw [hin]))
 all_goals
  rename_i hc
  clear hin
  go_ret
  refine ⟨aP ?_,rfl⟩
  obtain ⟨v,rfl⟩:∃x:Fin 32,v=x.val:=⟨⟨v,by omega⟩,rfl⟩
  obtain ⟨i,rfl⟩:∃x:Fin 16,i=x.val:=⟨⟨i,by omega⟩,rfl⟩
  clear hv hi
  revert i v
  decide +kernel
theorem FN {i:Nat} (hi:i<=15):bits .and .i64 (i:Int) 3=((i % 4:Nat):Int):=by
 have h:∀i:Fin 16,bits .and .i64 (i.val:Int) 3=((i.val % 4:Nat):Int):=by decide +kernel
 exact h ⟨i,by omega⟩
theorem yN (v i:Nat) (hv:v<=31) (hi:i<=15) (w:World) :
  Calls Tryz.prog 205 #[.int .i64 1,.int .i64 (v:Int),.int .i64 (i:Int)] w fun e w'=>e = .returned (.int .i64 (ky v i:Nat))/\Below w.heap.size w w':=by
 have hin:inR (v:Int) 0 31=true:=ak.2 ⟨by omega,by omega⟩
 have hA:=FN hi
 have ha:i % 4<=3:=by omega
 go_enter Tryz.func205,Tryz.ntmps205
 go_wp2_with (go_at_call 175;refine (aW _ _ _ _).mono ?_;rintro e w' ⟨rfl,rfl⟩;(try rw [hin]))
 ·go_quiet (fail)
  clear hin hA ha
  go_wp2_with fail
  rename_i hc
  go_ret
  refine ⟨aP ?_,aZ (Below.refl _ _) _⟩
  obtain ⟨v,rfl⟩:∃x:Fin 32,v=x.val:=⟨⟨v,by omega⟩,rfl⟩
  obtain ⟨i,rfl⟩:∃x:Fin 16,i=x.val:=⟨⟨i,by omega⟩,rfl⟩
  clear hv hi
  revert i v
  decide +kernel
 ·rename_i hc
  clear hin hA ha
  go_ret
  refine ⟨aP ?_,Below.refl _ _⟩
  obtain ⟨v,rfl⟩:∃x:Fin 32,v=x.val:=⟨⟨v,by omega⟩,rfl⟩
  obtain ⟨i,rfl⟩:∃x:Fin 16,i=x.val:=⟨⟨i,by omega⟩,rfl⟩
  clear hv hi
  revert i v
  decide +kernel
def mx (x:Int):Int:=if 0<x then x else 0
def ni (d:Dev) (vs:List Int) (t:Int):Nat→Nat
 | 0=>0
 | k+1=>ni d vs t k+(mx (nv vs (t * aM d+(k:Int)))).toNat * 2 ^ k
theorem FO {vs:List Int} (h:In3 vs) (i:Int):0<=mx (nv vs i)/\mx (nv vs i)<=1:=by
 have:=yl h i
 unfold mx;split <;> omega
theorem Dn {d:Dev} {vs:List Int} (h:In3 vs) (t:Int) (k:Nat):ni d vs t k<2 ^ k:=by
 induction k with
 | zero=>simp [ni]
 | succ k ih =>
  have hm:=FO h (t * aM d+(k:Int))
  rw [ni,Nat.pow_succ]
  have h2:(mx (nv vs (t * aM d+(k:Int)))).toNat * 2 ^ k<=1 * 2 ^ k:=Nat.mul_le_mul_right _ (by omega)
  omega
def yO (d:Dev) (ts:List au) (vs:List Int) (k:Nat) (l:List Int) (e:Nat):List Int :=
 if (fK ts (k:Int) (e:Int)).flop=1 then l.set (2 * k+e) (mx (lm d vs (k:Int) (fK ts (k:Int) (e:Int)))) else l
def eG (d:Dev) (ts:List au) (vs:List Int) (k:Nat) (l:List Int):Nat→List Int
 | 0=>l
 | e+1=>yO d ts vs k (eG d ts vs k l e) e
def nx1 (d:Dev) (ts:List au) (st vs:List Int) (k:Nat) (l:List Int):List Int :=
 if ah d (k:Int)=1 then eG d ts vs k l 2
 else if ah d (k:Int)=2 then l.set (2 * k) ((ky (st[2 * k]?.getD 0).toNat (ni d vs (k:Int) 4):Nat):Int) else l
def bM (d:Dev) (ts:List au) (st vs:List Int):Nat→List Int
 | 0=>st
 | k+1=>nx1 d ts st vs k (bM d ts st vs k)
def ou1 (d:Dev) (ts:List au) (vs:List Int) (k:Nat) (l:List Int):List Int :=
 if ah d (k:Int)=0/\(ts[k]?.getD au.zero).pad=2 then l.set k (mx (nv vs ((k:Int) * aM d))) else l
def dM (d:Dev) (ts:List au) (vs:List Int) (m:Nat):Nat→List Int
 | 0=>List.replicate m 0
 | k+1=>ou1 d ts vs k (dM d ts vs m k)
theorem vT (d:Dev) (ts:List au) (vs:List Int) (k:Nat) (l:List Int) (e:Nat):(yO d ts vs k l e).length=l.length:=by unfold yO;split <;> simp
theorem wm (d:Dev) (ts:List au) (vs:List Int) (k:Nat) (l:List Int) (e:Nat):(eG d ts vs k l e).length=l.length:=by
 induction e with
 | zero=>rfl
 | succ e ih=>rw [eG,vT,ih]
theorem nC (d:Dev) (ts:List au) (st vs:List Int) (k:Nat):(bM d ts st vs k).length=st.length:=by
 induction k with
 | zero=>rfl
 | succ k ih=>rw [bM,nx1];split <;> (try split) <;> simp [wm,ih]
theorem yP (d:Dev) (ts:List au) (vs:List Int) (m k:Nat):(dM d ts vs m k).length=m:=by
 induction k with
 | zero=>simp [dM]
 | succ k ih=>rw [dM,ou1];split <;> simp [ih]
def oh (d:Dev) (ts:List au) (st ps:List Int):List Int:=bM d ts st (mV d ts st ps) ts.length
def tq (d:Dev) (ts:List au) (st ps:List Int):List Int:=dM d ts (mV d ts st ps) ts.length ts.length
theorem xR {d:Dev} {ts:List au} {st ps:List Int} (h:kD d ts st ps):In3 (mV d ts st ps):=CZ h _ _
def zw (lo hi:Nat) (A1 A2:Option Addr):Prop:=∃mid,lo<=mid/\mid<=hi/\gJ A1 lo mid/\gJ A2 mid hi
theorem zw.nil {lo hi:Nat} (h:lo<=hi):zw lo hi none none:=⟨lo,Nat.le_refl _,h,by rintro a ⟨⟩,by rintro a ⟨⟩⟩
theorem zw.more {lo lo' hi hi':Nat} {A1 A2:Option Addr} (h:zw lo hi A1 A2) (h1:lo'<=lo) (h2:hi<=hi'):zw lo' hi' A1 A2:=by
 obtain ⟨mid,a,b,c,e⟩:=h
 exact ⟨mid,by omega,by omega,fun x hx=>⟨by have:=(c x hx).1;omega,(c x hx).2⟩,fun x hx=>⟨(e x hx).1,by have:=(e x hx).2;omega⟩⟩
end Go.Proofs.YtignkfhdkcgkgaaGreat
