/- append of several integers to a row of the call's own. -/
import Derived.Test.YtignkfhdkcgkgaaGreatStart
namespace Go.Proofs.YtignkfhdkcgkgaaGreat
set_option maxHeartbeats 2000000
set_option maxRecDepth 100000
open Go.RowKit
theorem xD {w:World} {news:List Int} (j:Nat) (u:Value) (hu:(news.map (Value.int .i64))[j]?=some u):(w.alloc (.cells (arr news) 3)).cell? ((⟨w.heap.size,0,none⟩:Addr).add j)=some u:=by
 have e1:(⟨w.heap.size,0,none⟩:Addr).add j=⟨w.heap.size,j,none⟩:=by rw [Addr.add_lit];simp
 rw [e1]
 unfold World.cell?
 rw [aK]
 simpa [arr] using hu
theorem zA {news:List Int} (u:Value) (hu:u∈news.map (Value.int .i64)):u.oneCell'=true:=by
 simp at hu
 obtain ⟨y,_,rfl⟩:=hu
 rfl
theorem vV {base:Nat} {A:Option Addr} {n c:Nat} {xs news:List Int} {w w' W:World} (hown:Own base w A n c xs) (hbase:base<=w.heap.size) (hB:Below base W w) (h2:(w.alloc (.cells (arr news) 3)).grownBy w' (Value.slice A n c).ownBlock):Below base W w':=by
 rw [fF] at h2
 refine (hB.alloc hbase _).grown h2 (by simp;omega) ?_
 intro k hk
 cases A with
 | none=>cases hk
 | some a' =>
  injection hk with hk
  subst hk
  exact (hown.lt a' rfl).1
theorem uI {ops:Array Oper} {rest:List Oper} {o:Oper} {a:Act} {Q:Exit→Act→World→Prop} {w W:World} (hgd:o.guard=none) (s x:Operand)
  (ho:o.op = .call { callee := .builtin .append,args:=#[s,x],argTypes:=#[27,27] })
  (base:Nat) (A:Option Addr) (n c:Nat) (xs news:List Int) (m:Nat) (hs:a.eval s = .slice A n c) (hown:Own base w A n c xs) (hx:a.eval x = .slice (some ⟨w.heap.size,0,none⟩) m m) (hm:news.length=m) (hm0:0<m)
  (hn:n+m<=1099511627776) (hbase:base<=w.heap.size) (hB:Below base W w)
  (h:∀g cap w',Own base w' (some ⟨g,0,none⟩) (n+m) cap (xs++news)→Below base W w'→(w.alloc (.cells (arr news) 3)).grownBy w' (A.map (·.block))→(A.map (·.block)=some g∨g=w.heap.size+1) →
   wpList Tryz.prog ops Q rest (a.put o.dst (.slice (some ⟨g,0,none⟩) (n+m) cap)) w'):wpList Tryz.prog ops Q (o :: rest) a (w.alloc (.cells (arr news) 3)):=by
 obtain ⟨i0,hi,hz0,hz1,hz2⟩:=info_parts fE
 have hl:=hown.lt
 refine wpList_append_lies (w.alloc (.cells (arr news) 3)) hgd s x 27 ho base 3 i0 (.int .i64 0) 1 8 Tryz.underlying27 hi hz0 hz1 hz2 rfl (by omega) (.slice A n c) n (xs.map (Value.int .i64)) hs
  (ak hown fun a ha=>Below.heap_alloc _ _ _ (hl a ha).2) ⟨w.heap.size,0,none⟩ m m (news.map (Value.int .i64)) hx (by simp [hm])
  xD zA hm0 (by unfold maxLen;omega) (by omega) (by simp;omega) (w.heap.size+1) (by simp) ?_
 intro g cap w' h1 h2 h3 _
 have h2':=h2
 rw [fF] at h2' h3
 exact h g cap w' (by simpa [Own] using h1) (vV hown hbase hB h2) h2' h3
theorem Bn {ops:Array Oper} {o:Oper} {a:Act} {K:Act→World→Prop} {Q:Exit→Act→World→Prop} {E:Prop} {w W:World} (hgd:o.guard=none) (s x:Operand)
  (ho:o.op = .call { callee := .builtin .append,args:=#[s,x],argTypes:=#[27,27] })
  (base:Nat) (A:Option Addr) (n c:Nat) (xs news:List Int) (m:Nat) (hs:a.eval s = .slice A n c) (hown:Own base w A n c xs) (hx:a.eval x = .slice (some ⟨w.heap.size,0,none⟩) m m) (hm:news.length=m) (hm0:0<m)
  (hn:n+m<=1099511627776) (hbase:base<=w.heap.size) (hB:Below base W w)
  (h:∀g cap w',Own base w' (some ⟨g,0,none⟩) (n+m) cap (xs++news)→Below base W w'→(w.alloc (.cells (arr news) 3)).grownBy w' (A.map (·.block))→(A.map (·.block)=some g∨g=w.heap.size+1)→K (a.put o.dst (.slice (some ⟨g,0,none⟩) (n+m) cap)) w') :
  if Region.wanted o (yielded ops a.tmps)=true then Oper.wp Tryz.prog o a (w.alloc (.cells (arr news) 3)).drew K Q else E:=by
 obtain ⟨i0,hi,hz0,hz1,hz2⟩:=info_parts fE
 have hl:=hown.lt
 refine step_append_lies (w.alloc (.cells (arr news) 3)).drew hgd s x 27 ho base 3 i0 (.int .i64 0) 1 8 Tryz.underlying27 hi hz0 hz1 hz2 rfl (by omega) (.slice A n c) n (xs.map (Value.int .i64)) hs
  (ak (w':=(w.alloc (.cells (arr news) 3)).drew) hown fun a ha=>Below.heap_alloc w _ _ (hl a ha).2) ⟨w.heap.size,0,none⟩ m m (news.map (Value.int .i64)) hx (by simp [hm])
  xD zA hm0 (by unfold maxLen;omega) (by omega) (show base<=(w.alloc (.cells (arr news) 3)).heap.size by simp;omega) (w.heap.size+1) (show (w.alloc (.cells (arr news) 3)).heap.size=w.heap.size+1 by simp) ?_
 intro g cap w' h1 h2 h3 _
 have h2:(w.alloc (.cells (arr news) 3)).grownBy w' (Value.slice A n c).ownBlock:=⟨h2.os,h2.tape,h2.output,h2.size,h2.block⟩
 have h2':=h2
 rw [fF] at h2' h3
 exact h g cap w' (by simpa [Own] using h1) (vV hown hbase hB h2) h2' h3
def sP (w1 wr:World) (lo:Nat) (A:Option Addr):Prop:=(∀k,lo<=k→k<w1.heap.size→wr.heap[k]?=w1.heap[k]?)/\w1.heap.size<=wr.heap.size/\∀a,A=some a→a.block<lo∨w1.heap.size<=a.block
theorem sP.below {w1 wr w2:World} {lo:Nat} {A:Option Addr} (h:sP w1 wr lo A) (hb:Below wr.heap.size wr w2):sP w1 w2 lo A :=
 ⟨fun k h1 h2=>(hb.block k (by have:=h.2.1;omega)).trans (h.1 k h1 h2),by have:=h.2.1;have:=hb.size;omega,h.2.2⟩
theorem sP.pushed {w1 w2 w4:World} {lo g:Nat} {A:Option Addr} {o:Obj} (h:sP w1 w2 lo A) (hg:(w2.alloc o).grownBy w4 (A.map (·.block))) (hat:A.map (·.block)=some g∨g=w2.heap.size+1) (_hlo:True):sP w1 w4 lo (some ⟨g,0,none⟩):=by
 have hs:=hg.size
 simp only [World.size_alloc] at hs
 have h2:=h.2.1
 refine ⟨fun k h1 h3=>?_,by omega,?_⟩
 ·refine ((hg.block k (by simp;omega) ?_).trans (Below.heap_alloc _ _ _ (by omega))).trans (h.1 k h1 h3)
  cases hA:A with
  | none=>simp
  | some a =>
   simp only [Option.map_some,ne_eq,Option.some.injEq]
   rintro rfl
   have:=h.2.2 a hA
   omega
 ·rintro a ⟨⟩
  rcases hat with hat|hat
  ·cases hA:A with
   | none=>rw [hA] at hat;cases hat
   | some a =>
    rw [hA] at hat
    simp at hat
    have:=h.2.2 a hA
    simp only
    omega
  ·right
   simp only
   omega
theorem oC (d:Dev) (A:Option Addr) (n c:Nat) (fs:List (List Int)) (w:World) (hA:eD w A n fs) (hz:bF fs<=1099511627776) :
  Calls Tryz.prog 156 #[.agg #[.int .i64 d.W,.int .i64 d.H,.int .i64 d.T,.int .i64 d.R],.slice A n c] w fun e w'=>∃A' n' c',e = .returned (.slice A' n' c')/\Own w.heap.size w' A' n' c' (cu d fs)/\Below w.heap.size w w':=by
 have hB0:Below w.heap.size w (w.alloc (.cells #[.int .i64 d.W,.int .i64 d.H,.int .i64 d.T,.int .i64 d.R] 25)):=aB (Below.refl _ _) _
 have HI:=Hd hA
 have HX:=Hd hA.1
 clear hA
 go_enter Tryz.func156,Tryz.ntmps156
 go_wp2_with fail
 refine (jh d A n c fs _ (HI.out.below (aB hB0 _)) hz).mono ?_
 rintro e w1 ⟨A1,n1,c1,rfl,o1,b1⟩
 have hs1:=b1.size
 simp only [World.size_alloc] at hs1 o1
 have B1:=Hd (aA (aB (Below.refl (w.alloc (.cells #[.int .i64 d.W,.int .i64 d.H,.int .i64 d.T,.int .i64 d.R] 25)).heap.size (w.alloc (.cells #[.int .i64 d.W,.int .i64 d.H,.int .i64 d.T,.int .i64 d.R] 25))) _) b1)
 have O0:=Hd ((Own.newAt (w:=(w.alloc (.cells #[.int .i64 d.W,.int .i64 d.H,.int .i64 d.T,.int .i64 d.R] 25))) (base:=(w.alloc (.cells #[.int .i64 d.W,.int .i64 d.H,.int .i64 d.T,.int .i64 d.R] 25)).heap.size) (g:=w.heap.size+1) (by simp) (by simp)).below b1)
 have HT:=Hd o1
 have HTL:=Hd (o1.rd).tlen
 clear b1 o1
 cases hf:ae d fs with
 | false =>
  have HR:Hid (kR d fs=[]):=by unfold Hid;rw [kR,hf];rfl
  have HSB:=Hd (xL hf)
  obtain rfl:0=n1:=by have:=HTL.out;rw [HR.out] at this;exact this
  clear hf
  go_wp2_with fail
  refine wp_loop_rounds 1 ?_;rw [rounds_succ]
  go_wp2_with fail
  go_ret
  exact ⟨_,0,0,rfl,by rw [HSB.out];exact O0.out.more (by simp),aA hB0 B1.out⟩
 | true =>
  have hn36:=(dR hf).2
  have HR:Hid (kR d fs=ay d fs):=by unfold Hid;rw [kR,hf,if_pos rfl]
  have hn1:n1=fs.length:=by have:=HTL.out;rw [HR.out,fV] at this;exact this.symm
  have hntl:=(dR hf).1
  obtain ⟨hN,hN1,hN2⟩:=bO (af hf).1
  have hkk:∀k:Nat,k<n1→jA d (k:Int)=bA d (k:Int):=fun k hk=>mE (af hf).1 (by omega) (by rw [hN];omega)
  have HKK:=Hd hkk
  have HSG:=Hd (qg hf)
  have HN1:=Hd hn1
  rw [←hn1] at hn36
  have HL:=Hd (uN d fs)
  rw [HR.out] at HT HTL
  clear hf hn1 hntl hN hkk
  generalize ay d fs=ts at *
  go_wp2_with fail
  have hsl:(∀k,w.heap.size+1+1<=k→k<w1.heap.size→w1.heap[k]?=w1.heap[k]?):=fun _ _ _=>rfl
  go_loopw [5,7] (fun v i wr=>∃(k:Nat) (A':Option Addr) (c':Nat),k<=n1/\i = .int .i64 k/\v = .slice A' (2 * k) c'/\Own (w.alloc (.cells #[.int .i64 d.W,.int .i64 d.H,.int .i64 d.T,.int .i64 d.R] 25)).heap.size wr A' (2 * k) c' (fG d ts k)/\Below (w.alloc (.cells #[.int .i64 d.W,.int .i64 d.H,.int .i64 d.T,.int .i64 d.R] 25)).heap.size (w.alloc (.cells #[.int .i64 d.W,.int .i64 d.H,.int .i64 d.T,.int .i64 d.R] 25)) wr/\sP w1 wr (w.heap.size+1+1) A') (fun _ i _=>n1 - (intOf i).toNat)
  case atStart=>exact ⟨0,_,0,Nat.zero_le _,rfl,rfl,O0.out,B1.out,fun _ _ _=>rfl,Nat.le_refl _,by rintro a ⟨⟩;exact .inl (by simp)⟩
  case round =>
   obtain ⟨k,A',c',hk,rfl,rfl,ho,hbx,hkp⟩:=hrel
   have HO:=Hd ho
   have HBX:=Hd hbx
   have HKP:=Hd hkp
   have hsx:=hbx.size
   have hkz:=hkp.2.1
   simp only [World.size_alloc] at hsx
   obtain ⟨hcc,hff⟩:=aQ hbx
   clear ho hbx hkp
   by_cases hlt:k<n1
   ·obtain ⟨b,S,m3,p,L,l,q,rfl,hblo,hbhi,hb,x0,x1,x2,x3,r0,r1⟩:=(HT.out.keep (w':=wr) (fun k h1 h2 _=>HKP.out.1 k h1 h2)).tile (k:=k) (by rw [HTL.out];exact hlt)
    have hll:=HL.out k (by rw [HTL.out];exact hlt)
    have HLE:=Hd r1
    have HSO:Hid (jU d k (ts[k]?.getD aZ.zero)=if bA d (k:Int)=1 then [((ts[k]?.getD aZ.zero).les[0]?.getD Le.zero).init,((ts[k]?.getD aZ.zero).les[1]?.getD Le.zero).init] else if bA d (k:Int)=2 then [(ts[k]?.getD aZ.zero).ram,0] else [0,0]):=rfl
    have HSS:=Hd (fG.eq_2 d ts k)
    generalize ts[k]?.getD aZ.zero=t at *
    have HLL:=Hd hll
    have HK1:=Hd (HKK.out k hlt)
    have i0:(0:Int)<=(k:Int):=by omega
    have i1:(k:Int)<(n1:Int):=by omega
    have hww:w.heap.size<wr.heap.size:=by omega
    clear r0 r1 hll
    go_wp2_with fail
    refine (iE d k _ (by omega)).mono ?_
    rintro e w2 ⟨rfl,b2⟩
    rw [HK1.out]
    have hs2:=b2.size
    have z2:=(b2.cell (p:=⟨b,k * 4+2,none⟩) (by simpa using hb)).trans x2
    have z3:=(b2.cell (p:=⟨b,k * 4+3,none⟩) (by simpa using hb)).trans x3
    have z1:=(b2.cell (p:=⟨b,k * 4+1,none⟩) (by simpa using hb)).trans x1
    have E2:=Hd (aA HBX.out b2)
    have O2:=Hd (HO.out.below b2)
    have K2:=Hd (HKP.out.below b2)
    have LE2:=Hd (HLE.out.below b2)
    clear b2 hcc hff x0 x1 x2 x3
    have hk3:=dm d (k:Int)
    generalize bA d (k:Int)=kd at *
    rcases hk3 with h|h|h
    ·subst h
     have HS1:Hid (jU d k t=[0,0]):=by unfold Hid;rw [HSO.out];simp
     go_wp2_with (at_builtin;refine uI rfl _ _ rfl (w.alloc (.cells #[.int .i64 d.W,.int .i64 d.H,.int .i64 d.T,.int .i64 d.R] 25)).heap.size A' (2 * k) c' (fG d ts k) [0,0] 2 rfl O2.out rfl rfl (by omega) (by omega) (by simp only [World.size_alloc];omega) E2.out ?_;rintro g4 cap w4 o4 b4 gr4 hat4)
     go_roundw
     case rel=>exact ⟨k+1,_,_,by omega,by go_num,rfl,by rw [HSS.out,HS1.out];exact o4,b4,K2.out.pushed gr4 hat4 trivial⟩
     case measure=>simp [intOf];omega
    ·subst h
     obtain ⟨b3,S3,m4,p3,rfl,hb3lo,hb3hi,hb3,_,_,_,d3,_⟩:=LE2.out.le (k:=0) (by rw [HLL.out];omega)
     obtain ⟨b4,S4,m5,p4,hbo,_,_,_,_,_,_,d4,_⟩:=LE2.out.le (k:=1) (by rw [HLL.out];omega)
     injection hbo with hbo
     injection hbo with hb4
     subst hb4
     obtain rfl:2=l:=by have hl2:=LE2.out.rd.elen;rw [HLL.out] at hl2;exact hl2
     have HS1:Hid (jU d k t=[((t.les)[0]?.getD Le.zero).init,((t.les)[1]?.getD Le.zero).init]):=by unfold Hid;rw [HSO.out,if_pos rfl]
     generalize ((t.les)[0]?.getD Le.zero).init=x at *
     generalize ((t.les)[1]?.getD Le.zero).init=y at *
     have d3':w2.cell? ⟨b3,3,none⟩=some (.int .i64 x):=by have h:=d3;rw [Nat.zero_mul,Nat.zero_add] at h;exact h
     have d4':w2.cell? ⟨b3,4+3,none⟩=some (.int .i64 y):=by have h:=d4;rw [Nat.one_mul] at h;exact h
     clear d3 d4
     go_wp2_with fail
     go_region_held3 (fun w'=>w'.cell? ⟨b,k * 4+1,none⟩=some (.slice (some ⟨b3,0,none⟩) 2 q)/\w'.cell? ⟨b3,3,none⟩=some (.int .i64 x)/\w'.cell? ⟨b3,4+3,none⟩=some (.int .i64 y))
      (first|exact ⟨z1,d3',d4'⟩|exact ⟨(World.cell?_of_block (a:=⟨b,k * 4+1,none⟩) (Below.heap_alloc _ _ _ (by simp only;omega))).trans z1,(World.cell?_of_block (a:=⟨b3,3,none⟩) (Below.heap_alloc _ _ _ (by simp only;omega))).trans d3',(World.cell?_of_block (a:=⟨b3,4+3,none⟩) (Below.heap_alloc _ _ _ (by simp only;omega))).trans d4'⟩|exact ⟨(World.cell?_of_block (w:=w2) (a:=⟨b,k * 4+1,none⟩) (((K2.out.pushed gr4 hat4 trivial).1 b hblo hbhi).trans (K2.out.1 b hblo hbhi).symm)).trans z1,(World.cell?_of_block (w:=w2) (a:=⟨b3,3,none⟩) (((K2.out.pushed gr4 hat4 trivial).1 b3 hb3lo hb3hi).trans (K2.out.1 b3 hb3lo hb3hi).symm)).trans d3',(World.cell?_of_block (w:=w2) (a:=⟨b3,4+3,none⟩) (((K2.out.pushed gr4 hat4 trivial).1 b3 hb3lo hb3hi).trans (K2.out.1 b3 hb3lo hb3hi).symm)).trans d4'⟩)
      ((refine Bn rfl _ _ (by rfl) (w.alloc (.cells #[.int .i64 d.W,.int .i64 d.H,.int .i64 d.T,.int .i64 d.R] 25)).heap.size A' (2 * k) c' (fG d ts k) [x,y] 2 (by rfl) O2.out (by rfl) rfl (by omega) (by omega) (by simp only [World.size_alloc];omega) E2.out ?_;rintro g4 cap w4 o4 b4 gr4 hat4))
     go_wp2_with fail
     go_roundw
     case rel=>exact ⟨k+1,_,_,by omega,by go_num,rfl,by rw [HSS.out,HS1.out];exact o4,b4,K2.out.pushed gr4 hat4 trivial⟩
     case measure=>simp [intOf];omega
    ·subst h
     have HS1:Hid (jU d k t=[t.ram,0]):=by unfold Hid;rw [HSO.out];simp
     go_wp2_with (at_builtin;refine uI rfl _ _ rfl (w.alloc (.cells #[.int .i64 d.W,.int .i64 d.H,.int .i64 d.T,.int .i64 d.R] 25)).heap.size A' (2 * k) c' (fG d ts k) [t.ram,0] 2 rfl O2.out rfl rfl (by omega) (by omega) (by simp only [World.size_alloc];omega) E2.out ?_;rintro g4 cap w4 o4 b4 gr4 hat4)
     go_roundw
     case rel=>exact ⟨k+1,_,_,by omega,by go_num,rfl,by rw [HSS.out,HS1.out];exact o4,b4,K2.out.pushed gr4 hat4 trivial⟩
     case measure=>simp [intOf];omega
   ·have hkn:n1=k:=by omega
    subst hkn
    go_wp2_with fail
    go_ret
    exact ⟨_,_,_,rfl,by rw [HSG.out,←HN1.out];exact HO.out.more (by simp),aA hB0 HBX.out⟩
end Go.Proofs.YtignkfhdkcgkgaaGreat
