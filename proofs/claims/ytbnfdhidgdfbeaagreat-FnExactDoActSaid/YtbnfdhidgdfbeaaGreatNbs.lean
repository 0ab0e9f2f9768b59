/- append of several integers to a row of the call's own. The initial state of a device, by the reference. Boards in cells: blocks of twelve cells; results that lie in a cell. Boards that come in: the laws' copy of a board. NewBoard of both: the program's and the reference's answers are one. NewBoard: how much a new board holds. -/
import Derived.Laws.CopyOwn
import Derived.Laws.Rows
import Derived.Laws.Tables
import Derived.Lib.SmallJoins
import Derived.Test.YtbnfdhidgdfbeaaGreatBrd
import Derived.Test.YtbnfdhidgdfbeaaGreatCopy
import Derived.Test.YtbnfdhidgdfbeaaGreatData
import Derived.Test.YtbnfdhidgdfbeaaGreatDeco
import Derived.Test.YtbnfdhidgdfbeaaGreatEmpty
import Derived.Test.YtbnfdhidgdfbeaaGreatStart
namespace Go.Proofs.YtbnfdhidgdfbeaaGreat
set_option maxRecDepth 100000
open Go.RowKit

theorem pushN_news {w:World} {news:List Int} (j:Nat) (u:Value) (hu:(news.map (Value.int .i64))[j]?=some u):(w.alloc (.cells (arr news) 3)).cell? ((⟨w.heap.size,0,none⟩:Addr).add j)=some u:=by
 have e1:(⟨w.heap.size,0,none⟩:Addr).add j=⟨w.heap.size,j,none⟩:=by rw [Addr.add_lit];simp
 rw [e1]
 unfold World.cell?
 rw [heap_new]
 simpa [arr] using hu
theorem pushN_one {news:List Int} (u:Value) (hu:u∈news.map (Value.int .i64)):u.oneCell'=true:=by
 simp at hu
 obtain ⟨y,_,rfl⟩:=hu
 rfl
theorem pushN_below {base:Nat} {A:Option Addr} {n c:Nat} {xs news:List Int} {w w' W:World} (hown:Own base w A n c xs) (hbase:base≤w.heap.size) (hB:Below base W w) (h2:(w.alloc (.cells (arr news) 3)).grownBy w' (Value.slice A n c).ownBlock):Below base W w':=by
 rw [ownBlock_slice] at h2
 refine (hB.alloc hbase _).grown h2 (by simp;omega) ?_
 intro k hk
 cases A with
 | none=>cases hk
 | some a' =>
  injection hk with hk
  subst hk
  exact (hown.lt a' rfl).1
theorem wpList_pushN {ops:Array Oper} {rest:List Oper} {o:Oper} {a:Act} {Q:Exit→Act→World→Prop} {w W:World} (hgd:o.guard=none) (s x:Operand)
  (ho:o.op = .call { callee := .builtin .append,args:=#[s,x],argTypes:=#[27,27] })
  (base:Nat) (A:Option Addr) (n c:Nat) (xs news:List Int) (m:Nat) (hs:a.eval s = .slice A n c) (hown:Own base w A n c xs) (hx:a.eval x = .slice (some ⟨w.heap.size,0,none⟩) m m) (hm:news.length=m) (hm0:0<m)
  (hn:n+m≤1099511627776) (hbase:base≤w.heap.size) (hB:Below base W w)
  (h:∀g cap w',Own base w' (some ⟨g,0,none⟩) (n+m) cap (xs++news)→Below base W w'→(w.alloc (.cells (arr news) 3)).grownBy w' (A.map (·.block))→(A.map (·.block)=some g∨g=w.heap.size+1) →
   wpList Tryz.prog ops Q rest (a.put o.dst (.slice (some ⟨g,0,none⟩) (n+m) cap)) w'):wpList Tryz.prog ops Q (o :: rest) a (w.alloc (.cells (arr news) 3)):=by
 obtain ⟨i0,hi,hz0,hz1,hz2⟩:=info_parts int_info
 have hl:=hown.lt
 refine wpList_append_lies (w.alloc (.cells (arr news) 3)) hgd s x 27 ho base 3 i0 (.int .i64 0) 1 8 Tryz.underlying27 hi hz0 hz1 hz2 rfl (by omega) (.slice A n c) n (xs.map (Value.int .i64)) hs
  (ownsRow_block hown fun a ha=>Below.heap_alloc _ _ _ (hl a ha).2) ⟨w.heap.size,0,none⟩ m m (news.map (Value.int .i64)) hx (by simp [hm])
  pushN_news pushN_one hm0 (by unfold maxLen;omega) (by omega) (by simp;omega) (w.heap.size+1) (by simp) ?_
 intro g cap w' h1 h2 h3 _
 have h2':=h2
 rw [ownBlock_slice] at h2' h3
 exact h g cap w' (by simpa [Own] using h1) (pushN_below hown hbase hB h2) h2' h3
theorem step_pushND {ops:Array Oper} {o:Oper} {a:Act} {K:Act→World→Prop} {Q:Exit→Act→World→Prop} {E:Prop} {w W:World} (hgd:o.guard=none) (s x:Operand)
  (ho:o.op = .call { callee := .builtin .append,args:=#[s,x],argTypes:=#[27,27] })
  (base:Nat) (A:Option Addr) (n c:Nat) (xs news:List Int) (m:Nat) (hs:a.eval s = .slice A n c) (hown:Own base w A n c xs) (hx:a.eval x = .slice (some ⟨w.heap.size,0,none⟩) m m) (hm:news.length=m) (hm0:0<m)
  (hn:n+m≤1099511627776) (hbase:base≤w.heap.size) (hB:Below base W w)
  (h:∀g cap w',Own base w' (some ⟨g,0,none⟩) (n+m) cap (xs++news)→Below base W w'→(w.alloc (.cells (arr news) 3)).grownBy w' (A.map (·.block))→(A.map (·.block)=some g∨g=w.heap.size+1)→K (a.put o.dst (.slice (some ⟨g,0,none⟩) (n+m) cap)) w') :
  if Region.wanted o (yielded ops a.tmps)=true then Oper.wp Tryz.prog o a (w.alloc (.cells (arr news) 3)).drew K Q else E:=by
 obtain ⟨i0,hi,hz0,hz1,hz2⟩:=info_parts int_info
 have hl:=hown.lt
 refine step_append_lies (w.alloc (.cells (arr news) 3)).drew hgd s x 27 ho base 3 i0 (.int .i64 0) 1 8 Tryz.underlying27 hi hz0 hz1 hz2 rfl (by omega) (.slice A n c) n (xs.map (Value.int .i64)) hs
  (ownsRow_block (w':=(w.alloc (.cells (arr news) 3)).drew) hown fun a ha=>Below.heap_alloc w _ _ (hl a ha).2) ⟨w.heap.size,0,none⟩ m m (news.map (Value.int .i64)) hx (by simp [hm])
  pushN_news pushN_one hm0 (by unfold maxLen;omega) (by omega) (show base≤(w.alloc (.cells (arr news) 3)).heap.size by simp;omega) (w.heap.size+1) (show (w.alloc (.cells (arr news) 3)).heap.size=w.heap.size+1 by simp) ?_
 intro g cap w' h1 h2 h3 _
 have h2:(w.alloc (.cells (arr news) 3)).grownBy w' (Value.slice A n c).ownBlock:=⟨h2.os,h2.tape,h2.output,h2.size,h2.block⟩
 have h2':=h2
 rw [ownBlock_slice] at h2' h3
 exact h g cap w' (by simpa [Own] using h1) (pushN_below hown hbase hB h2) h2' h3
end Go.Proofs.YtbnfdhidgdfbeaaGreat

namespace Go.Proofs.YtbnfdhidgdfbeaaGreat
set_option maxRecDepth 100000
open Go.RowKit
/-- What lies from lo up to the world w1 is kept; the row A is not among it. -/
def KeptIn (w1 wr:World) (lo:Nat) (A:Option Addr):Prop:=(∀k,lo≤k→k<w1.heap.size→wr.heap[k]?=w1.heap[k]?)∧w1.heap.size≤wr.heap.size∧∀a,A=some a→a.block<lo∨w1.heap.size≤a.block
theorem KeptIn.below {w1 wr w2:World} {lo:Nat} {A:Option Addr} (h:KeptIn w1 wr lo A) (hb:Below wr.heap.size wr w2):KeptIn w1 w2 lo A :=
 ⟨fun k h1 h2=>(hb.block k (by have:=h.2.1;omega)).trans (h.1 k h1 h2),by have:=h.2.1;have:=hb.size;omega,h.2.2⟩
theorem KeptIn.pushed {w1 w2 w4:World} {lo g:Nat} {A:Option Addr} {o:Obj} (h:KeptIn w1 w2 lo A) (hg:(w2.alloc o).grownBy w4 (A.map (·.block))) (hat:A.map (·.block)=some g∨g=w2.heap.size+1) (_hlo:True):KeptIn w1 w4 lo (some ⟨g,0,none⟩):=by
 have hs:=hg.size
 simp only [World.size_alloc] at hs
 have h2:=h.2.1
 refine ⟨fun k h1 h3=>?_,by omega,?_⟩
 ·refine ((hg.block k (by simp;omega) ?_).trans (Below.heap_alloc _ _ _ (by omega))).trans (h.1 k h1 h3)
  cases hA:A with
  | none=>simp
  | some a =>
   simp only [Option.map_some,ne_eq,Option.some.injEq]
   rintro rfl
   have:=h.2.2 a hA
   omega
 ·rintro a ⟨⟩
  rcases hat with hat|hat
  ·cases hA:A with
   | none=>rw [hA] at hat;cases hat
   | some a =>
    rw [hA] at hat
    simp at hat
    have:=h.2.2 a hA
    simp only
    omega
  ·right
   simp only
   omega

set_option maxHeartbeats 2000000 in
theorem semuStart_any (d:Dev) (A:Option Addr) (n c:Nat) (fs:List (List Int)) (w:World) (hA:Rows2 w A n fs) (hz:size2 fs≤1099511627776) :
  Calls Tryz.prog 28 #[.agg #[.int .i64 d.W,.int .i64 d.H,.int .i64 d.T,.int .i64 d.R],.slice A n c] w fun e w'=>∃A' n' c',e = .returned (.slice A' n' c')∧Own w.heap.size w' A' n' c' (startF d fs)∧Below w.heap.size w w':=by
 have hB0:Below w.heap.size w (w.alloc (.cells #[.int .i64 d.W,.int .i64 d.H,.int .i64 d.T,.int .i64 d.R] 25)):=below_new (Below.refl _ _) _
 have HI:=Lib.hid hA
 have HX:=Lib.hid hA.1
 clear hA
 go_enter Tryz.func28,Tryz.ntmps28
 go_wp2_with fail
 refine (sreadFrames_any d A n c fs _ (HI.out.below (below_new hB0 _)) hz).mono ?_
 rintro e w1 ⟨A1,n1,c1,rfl,o1,b1⟩
 have hs1:=b1.size
 simp only [World.size_alloc] at hs1 o1
 have B1:=Lib.hid (below_tr (below_new (Below.refl (w.alloc (.cells #[.int .i64 d.W,.int .i64 d.H,.int .i64 d.T,.int .i64 d.R] 25)).heap.size (w.alloc (.cells #[.int .i64 d.W,.int .i64 d.H,.int .i64 d.T,.int .i64 d.R] 25))) _) b1)
 have O0:=Lib.hid ((Own.newAt (w:=(w.alloc (.cells #[.int .i64 d.W,.int .i64 d.H,.int .i64 d.T,.int .i64 d.R] 25))) (base:=(w.alloc (.cells #[.int .i64 d.W,.int .i64 d.H,.int .i64 d.T,.int .i64 d.R] 25)).heap.size) (g:=w.heap.size+1) (by simp) (by simp)).below b1)
 have HT:=Lib.hid o1
 have HTL:=Lib.hid (o1.rd).tlen
 clear b1 o1
 cases hf:framesOk d fs with
 | false =>
  have HR:Hid (readF d fs=[]):=by unfold Hid;rw [readF,hf];rfl
  have HSB:=Lib.hid (startF_bad hf)
  obtain rfl:0=n1:=by have:=HTL.out;rw [HR.out] at this;exact this
  clear hf
  go_wp2_with fail
  refine wp_loop_rounds 1 ?_;rw [rounds_succ]
  go_wp2_with fail
  go_ret
  exact ⟨_,0,0,rfl,by rw [HSB.out];exact O0.out.more (by simp),below_tr hB0 B1.out⟩
 | true =>
  have hn36:=(frames_n hf).2
  have HR:Hid (readF d fs=tilesOf d fs):=by unfold Hid;rw [readF,hf,if_pos rfl]
  have hn1:n1=fs.length:=by have:=HTL.out;rw [HR.out,tilesOf_length] at this;exact this.symm
  have hntl:=(frames_n hf).1
  obtain ⟨hN,hN1,hN2⟩:=tiles_eq (framesOk_iff hf).1
  have hkk:∀k:Nat,k<n1→tileKind d (k:Int)=kindOf d (k:Int):=fun k hk=>tileKind_in (framesOk_iff hf).1 (by omega) (by rw [hN];omega)
  have HKK:=Lib.hid hkk
  have HSG:=Lib.hid (startF_good hf)
  have HN1:=Lib.hid hn1
  rw [←hn1] at hn36
  have HL:=Lib.hid (les2_tilesOf d fs)
  rw [HR.out] at HT HTL
  clear hf hn1 hntl hN hkk
  generalize tilesOf d fs=ts at *
  go_wp2_with fail
  have hsl:(∀k,w.heap.size+1+1≤k→k<w1.heap.size→w1.heap[k]?=w1.heap[k]?):=fun _ _ _=>rfl
  go_loopw [5,7] (fun v i wr=>∃(k:Nat) (A':Option Addr) (c':Nat),k≤n1∧i = .int .i64 k∧v = .slice A' (2 * k) c'∧Own (w.alloc (.cells #[.int .i64 d.W,.int .i64 d.H,.int .i64 d.T,.int .i64 d.R] 25)).heap.size wr A' (2 * k) c' (startTo d ts k)∧Below (w.alloc (.cells #[.int .i64 d.W,.int .i64 d.H,.int .i64 d.T,.int .i64 d.R] 25)).heap.size (w.alloc (.cells #[.int .i64 d.W,.int .i64 d.H,.int .i64 d.T,.int .i64 d.R] 25)) wr∧KeptIn w1 wr (w.heap.size+1+1) A') (fun _ i _=>n1 - (intOf i).toNat)
  case atStart=>exact ⟨0,_,0,Nat.zero_le _,rfl,rfl,O0.out,B1.out,fun _ _ _=>rfl,Nat.le_refl _,by rintro a ⟨⟩;exact .inl (by simp)⟩
  case round =>
   obtain ⟨k,A',c',hk,rfl,rfl,ho,hbx,hkp⟩:=hrel
   have HO:=Lib.hid ho
   have HBX:=Lib.hid hbx
   have HKP:=Lib.hid hkp
   have hsx:=hbx.size
   have hkz:=hkp.2.1
   simp only [World.size_alloc] at hsx
   obtain ⟨hcc,hff⟩:=bcell hbx
   clear ho hbx hkp
   by_cases hlt:k<n1
   ·obtain ⟨b,S,m3,p,L,l,q,rfl,hblo,hbhi,hb,x0,x1,x2,x3,r0,r1⟩:=(HT.out.keep (w':=wr) (fun k h1 h2 _=>HKP.out.1 k h1 h2)).tile (k:=k) (by rw [HTL.out];exact hlt)
    have hll:=HL.out k (by rw [HTL.out];exact hlt)
    have HLE:=Lib.hid r1
    have HSO:Hid (startOf d k (ts[k]?.getD Tile.zero)=if kindOf d (k:Int)=1 then [((ts[k]?.getD Tile.zero).les[0]?.getD Le.zero).init,((ts[k]?.getD Tile.zero).les[1]?.getD Le.zero).init] else if kindOf d (k:Int)=2 then [(ts[k]?.getD Tile.zero).ram,0] else [0,0]):=rfl
    have HSS:=Lib.hid (startTo.eq_2 d ts k)
    generalize ts[k]?.getD Tile.zero=t at *
    have HLL:=Lib.hid hll
    have HK1:=Lib.hid (HKK.out k hlt)
    have i0:(0:Int)≤(k:Int):=by omega
    have i1:(k:Int)<(n1:Int):=by omega
    have hww:w.heap.size<wr.heap.size:=by omega
    clear r0 r1 hll
    go_wp2_with fail
    refine (stileKind_any d k _ (by omega)).mono ?_
    rintro e w2 ⟨rfl,b2⟩
    rw [HK1.out]
    have hs2:=b2.size
    have z2:=(b2.cell (p:=⟨b,k * 4+2,none⟩) (by simpa using hb)).trans x2
    have z3:=(b2.cell (p:=⟨b,k * 4+3,none⟩) (by simpa using hb)).trans x3
    have z1:=(b2.cell (p:=⟨b,k * 4+1,none⟩) (by simpa using hb)).trans x1
    have E2:=Lib.hid (below_tr HBX.out b2)
    have O2:=Lib.hid (HO.out.below b2)
    have K2:=Lib.hid (HKP.out.below b2)
    have LE2:=Lib.hid (HLE.out.below b2)
    clear b2 hcc hff x0 x1 x2 x3
    have hk3:=kindOf_bd d (k:Int)
    generalize kindOf d (k:Int)=kd at *
    rcases hk3 with h|h|h
    ·subst h
     have HS1:Hid (startOf d k t=[0,0]):=by unfold Hid;rw [HSO.out];simp
     go_wp2_with (at_builtin;refine wpList_pushN rfl _ _ rfl (w.alloc (.cells #[.int .i64 d.W,.int .i64 d.H,.int .i64 d.T,.int .i64 d.R] 25)).heap.size A' (2 * k) c' (startTo d ts k) [0,0] 2 rfl O2.out rfl rfl (by omega) (by omega) (by simp only [World.size_alloc];omega) E2.out ?_;rintro g4 cap w4 o4 b4 gr4 hat4)
     go_roundw
     case rel=>exact ⟨k+1,_,_,by omega,by go_num,rfl,by rw [HSS.out,HS1.out];exact o4,b4,K2.out.pushed gr4 hat4 trivial⟩
     case measure=>simp [intOf];omega
    ·subst h
     obtain ⟨b3,S3,m4,p3,rfl,hb3lo,hb3hi,hb3,_,_,_,d3,_⟩:=LE2.out.le (k:=0) (by rw [HLL.out];omega)
     obtain ⟨b4,S4,m5,p4,hbo,_,_,_,_,_,_,d4,_⟩:=LE2.out.le (k:=1) (by rw [HLL.out];omega)
     injection hbo with hbo
     injection hbo with hb4
     subst hb4
     obtain rfl:2=l:=by have hl2:=LE2.out.rd.elen;rw [HLL.out] at hl2;exact hl2
     have HS1:Hid (startOf d k t=[((t.les)[0]?.getD Le.zero).init,((t.les)[1]?.getD Le.zero).init]):=by unfold Hid;rw [HSO.out,if_pos rfl]
     generalize ((t.les)[0]?.getD Le.zero).init=x at *
     generalize ((t.les)[1]?.getD Le.zero).init=y at *
     have d3':w2.cell? ⟨b3,3,none⟩=some (.int .i64 x):=by have h:=d3;rw [Nat.zero_mul,Nat.zero_add] at h;exact h
     have d4':w2.cell? ⟨b3,4+3,none⟩=some (.int .i64 y):=by have h:=d4;rw [Nat.one_mul] at h;exact h
     clear d3 d4
     go_wp2_with fail
     go_region_held3 (fun w'=>w'.cell? ⟨b,k * 4+1,none⟩=some (.slice (some ⟨b3,0,none⟩) 2 q)∧w'.cell? ⟨b3,3,none⟩=some (.int .i64 x)∧w'.cell? ⟨b3,4+3,none⟩=some (.int .i64 y))
      (first|exact ⟨z1,d3',d4'⟩|exact ⟨(World.cell?_of_block (a:=⟨b,k * 4+1,none⟩) (Below.heap_alloc _ _ _ (by simp only;omega))).trans z1,(World.cell?_of_block (a:=⟨b3,3,none⟩) (Below.heap_alloc _ _ _ (by simp only;omega))).trans d3',(World.cell?_of_block (a:=⟨b3,4+3,none⟩) (Below.heap_alloc _ _ _ (by simp only;omega))).trans d4'⟩|exact ⟨(World.cell?_of_block (w:=w2) (a:=⟨b,k * 4+1,none⟩) (((K2.out.pushed gr4 hat4 trivial).1 b hblo hbhi).trans (K2.out.1 b hblo hbhi).symm)).trans z1,(World.cell?_of_block (w:=w2) (a:=⟨b3,3,none⟩) (((K2.out.pushed gr4 hat4 trivial).1 b3 hb3lo hb3hi).trans (K2.out.1 b3 hb3lo hb3hi).symm)).trans d3',(World.cell?_of_block (w:=w2) (a:=⟨b3,4+3,none⟩) (((K2.out.pushed gr4 hat4 trivial).1 b3 hb3lo hb3hi).trans (K2.out.1 b3 hb3lo hb3hi).symm)).trans d4'⟩)
      ((refine step_pushND rfl _ _ (by rfl) (w.alloc (.cells #[.int .i64 d.W,.int .i64 d.H,.int .i64 d.T,.int .i64 d.R] 25)).heap.size A' (2 * k) c' (startTo d ts k) [x,y] 2 (by rfl) O2.out (by rfl) rfl (by omega) (by omega) (by simp only [World.size_alloc];omega) E2.out ?_;rintro g4 cap w4 o4 b4 gr4 hat4))
     go_wp2_with fail
     go_roundw
     case rel=>exact ⟨k+1,_,_,by omega,by go_num,rfl,by rw [HSS.out,HS1.out];exact o4,b4,K2.out.pushed gr4 hat4 trivial⟩
     case measure=>simp [intOf];omega
    ·subst h
     have HS1:Hid (startOf d k t=[t.ram,0]):=by unfold Hid;rw [HSO.out];simp
     go_wp2_with (at_builtin;refine wpList_pushN rfl _ _ rfl (w.alloc (.cells #[.int .i64 d.W,.int .i64 d.H,.int .i64 d.T,.int .i64 d.R] 25)).heap.size A' (2 * k) c' (startTo d ts k) [t.ram,0] 2 rfl O2.out rfl rfl (by omega) (by omega) (by simp only [World.size_alloc];omega) E2.out ?_;rintro g4 cap w4 o4 b4 gr4 hat4)
     go_roundw
     case rel=>exact ⟨k+1,_,_,by omega,by go_num,rfl,by rw [HSS.out,HS1.out];exact o4,b4,K2.out.pushed gr4 hat4 trivial⟩
     case measure=>simp [intOf];omega
   ·have hkn:n1=k:=by omega
    subst hkn
    go_wp2_with fail
    go_ret
    exact ⟨_,_,_,rfl,by rw [HSG.out,←HN1.out];exact HO.out.more (by simp),below_tr hB0 HBX.out⟩
end Go.Proofs.YtbnfdhidgdfbeaaGreat

namespace Go.Proofs.YtbnfdhidgdfbeaaGreat
set_option maxRecDepth 100000
open Go.RowKit

theorem cells12 {w:World} {g:Nat} {v0 v1 v2 v3 v4 v5 v6 v7 v8 v9 v10 v11:Value} {t:TypeId} (h:w.heap[g]?=some (.cells #[v0,v1,v2,v3,v4,v5,v6,v7,v8,v9,v10,v11] t (0,0))):w.cell? ⟨g,0,none⟩=some v0∧w.cell? ⟨g,1,none⟩=some v1∧w.cell? ⟨g,2,none⟩=some v2∧w.cell? ⟨g,3,none⟩=some v3∧w.cell? ⟨g,4,none⟩=some v4∧w.cell? ⟨g,5,none⟩=some v5∧w.cell? ⟨g,6,none⟩=some v6∧w.cell? ⟨g,7,none⟩=some v7∧w.cell? ⟨g,8,none⟩=some v8∧w.cell? ⟨g,9,none⟩=some v9∧w.cell? ⟨g,10,none⟩=some v10∧w.cell? ⟨g,11,none⟩=some v11 :=
 ⟨cell_heap h rfl,cell_heap h rfl,cell_heap h rfl,cell_heap h rfl,cell_heap h rfl,cell_heap h rfl,cell_heap h rfl,cell_heap h rfl,cell_heap h rfl,cell_heap h rfl,cell_heap h rfl,cell_heap h rfl⟩
theorem heap_setFar {w:World} {g:Nat} {o:Obj} (h:w.heap[g]?=some o) {p:Addr} (hp:g≠p.block) (v:Value):(w.setCell p v).heap[g]?=some o:=(Below.heap_setCell w p v g hp).trans h
theorem heap_setAt {w:World} {g k:Nat} {cs cs':Array Value} {t:TypeId} (h:w.heap[g]?=some (.cells cs t (0,0))) (v:Value) (e:cs.setIfInBounds k v=cs'):(w.setCell ⟨g,k,none⟩ v).heap[g]?=some (.cells cs' t (0,0)):=by
 rw [←e];exact Go.Joins.block_setCell h v
theorem Chg.set {lo hi g k:Nat} {w w':World} (h:Chg lo hi w w') (h1:lo≤g) (h2:g<hi) (v:Value):Chg lo hi w (w'.setCell ⟨g,k,none⟩ v):=by
 have b:=(Below.refl g w').setCell (p:=⟨g,k,none⟩) (Nat.le_refl g) v
 exact ⟨b.os.trans h.os,b.tape.trans h.tape,b.output.trans h.output,Nat.le_trans h.size b.size,fun i hi' hn=>(Below.heap_setCell w' ⟨g,k,none⟩ v i (by show i≠g;omega)).trans (h.block i hi' hn)⟩
/-- A board's box g0, the result's block g1, and the block g of the board that the call makes. -/
def Three (w:World) (g0 g1 g:Nat) (cs cs1 cs':Array Value):Prop:=w.heap[g0]?=some (.cells cs 57 (0,0))∧w.heap[g1]?=some (.cells cs1 31 (0,0))∧w.heap[g]?=some (.cells cs' 31 (0,0))
theorem Three.tr {w w':World} {g0 g1 g:Nat} {cs cs1 cs':Array Value} (h:Three w g0 g1 g cs cs1 cs') (hb:Below w.heap.size w w'):Three w' g0 g1 g cs cs1 cs':=⟨heap_tr hb h.1,heap_tr hb h.2.1,heap_tr hb h.2.2⟩
theorem Three.set {w:World} {g0 g1 g k:Nat} {cs cs1 cs' cs2:Array Value} (h:Three w g0 g1 g cs cs1 cs') (hn:g0≠g) (hn1:g1≠g) (v:Value) (e:cs'.setIfInBounds k v=cs2):Three (w.setCell ⟨g,k,none⟩ v) g0 g1 g cs cs1 cs2:=⟨heap_setFar h.1 hn v,heap_setFar h.2.1 hn1 v,heap_setAt h.2.2 v e⟩
theorem results_cell1 {fn:Func} {p:Tmp} {ty t:TypeId} {tmps cs:Array Value} {P:Program} {w:World} {g:Nat} {fs:Array Field} (h:fn.results=#[.cell p ty]) (ht:tmps.getD p undef = .pointer (some ⟨g,0,none⟩)) (hg:w.heap[g]?=some (.cells cs t (0,0)))
  (hu:P.underlying ty=some (.struct fs)) (hi:(P.info? ty).map (·.size)=some cs.size):(results fn tmps).run P w = .ok (.agg cs) w:=by
 have hl:(loadVar ty ⟨g,0,none⟩).run P w = .ok (.agg cs) w:=run_loadVar_row w g t ty cs (0,0) (.struct fs) hg hu rfl hi
 simp only [results,h]
 simp only [Array.getD_eq_getD_getElem?] at ht
 simp [ht,asAddr,hl]
theorem results_cell2 {fn:Func} {p u:Tmp} {ty t:TypeId} {tmps cs:Array Value} {P:Program} {w:World} {g:Nat} {fs:Array Field} (h:fn.results=#[.cell p ty,.tmp u]) (ht:tmps.getD p undef = .pointer (some ⟨g,0,none⟩)) (hg:w.heap[g]?=some (.cells cs t (0,0)))
  (hu:P.underlying ty=some (.struct fs)) (hi:(P.info? ty).map (·.size)=some cs.size):(results fn tmps).run P w = .ok (.tuple #[.agg cs,tmps.getD u undef]) w:=by
 have hl:(loadVar ty ⟨g,0,none⟩).run P w = .ok (.agg cs) w:=run_loadVar_row w g t ty cs (0,0) (.struct fs) hg hu rfl hi
 simp only [results,h]
 simp only [Array.getD_eq_getD_getElem?] at ht
 simp [ht,asAddr,hl]
theorem boardAt_mk {lo hi l1 h1 l2 h2 l3 h3:Nat} {w:World} {b:Bd} {s:Sl3} (k1:Own2 l1 h1 w s.A1 s.n1 s.c1 b.frames) (k2:Own l2 w s.A2 s.n2 s.c2 b.state) (l:Lies s.A2 l2 h2) (k3:Own2 l3 h3 w s.A3 s.n3 s.c3 b.saved)
  (e0:lo≤l1∧l1≤h1∧h1≤l2∧l2≤h2∧h2≤l3∧l3≤h3∧h3≤hi):BoardAt lo hi w b s :=
 ⟨l1,h1,l2,h2,l3,h3,k1,k2,l,k3,.inl e0.2.2.1,.inl (by omega),.inl e0.2.2.2.2.1,⟨e0.1,by omega⟩,⟨by omega,by omega⟩,⟨by omega,by omega⟩⟩
theorem set12 {w:World} {g:Nat} {v0 v1 v2 v3 v4 v5 v6 v7 v8 v9 v10 v11 u0 u1 u2 u3 u4 u5 u6 u7 u8 u9 u10 u11:Value} {t:TypeId} (h:w.heap[g]?=some (.cells #[v0,v1,v2,v3,v4,v5,v6,v7,v8,v9,v10,v11] t (0,0))):((((((((((((w.setCell ⟨g,0,none⟩ u0).setCell ⟨g,1,none⟩ u1).setCell ⟨g,2,none⟩ u2).setCell ⟨g,3,none⟩ u3).setCell ⟨g,4,none⟩ u4).setCell ⟨g,5,none⟩ u5).setCell ⟨g,6,none⟩ u6).setCell ⟨g,7,none⟩ u7).setCell ⟨g,8,none⟩ u8).setCell ⟨g,9,none⟩ u9).setCell ⟨g,10,none⟩ u10).setCell ⟨g,11,none⟩ u11).heap[g]?=some (.cells #[u0,u1,u2,u3,u4,u5,u6,u7,u8,u9,u10,u11] t (0,0)):=by
 have h1:=heap_setAt (k:=0) (cs':=#[u0,v1,v2,v3,v4,v5,v6,v7,v8,v9,v10,v11]) h u0 rfl
 have h2:=heap_setAt (k:=1) (cs':=#[u0,u1,v2,v3,v4,v5,v6,v7,v8,v9,v10,v11]) h1 u1 rfl
 have h3:=heap_setAt (k:=2) (cs':=#[u0,u1,u2,v3,v4,v5,v6,v7,v8,v9,v10,v11]) h2 u2 rfl
 have h4:=heap_setAt (k:=3) (cs':=#[u0,u1,u2,u3,v4,v5,v6,v7,v8,v9,v10,v11]) h3 u3 rfl
 have h5:=heap_setAt (k:=4) (cs':=#[u0,u1,u2,u3,u4,v5,v6,v7,v8,v9,v10,v11]) h4 u4 rfl
 have h6:=heap_setAt (k:=5) (cs':=#[u0,u1,u2,u3,u4,u5,v6,v7,v8,v9,v10,v11]) h5 u5 rfl
 have h7:=heap_setAt (k:=6) (cs':=#[u0,u1,u2,u3,u4,u5,u6,v7,v8,v9,v10,v11]) h6 u6 rfl
 have h8:=heap_setAt (k:=7) (cs':=#[u0,u1,u2,u3,u4,u5,u6,u7,v8,v9,v10,v11]) h7 u7 rfl
 have h9:=heap_setAt (k:=8) (cs':=#[u0,u1,u2,u3,u4,u5,u6,u7,u8,v9,v10,v11]) h8 u8 rfl
 have h10:=heap_setAt (k:=9) (cs':=#[u0,u1,u2,u3,u4,u5,u6,u7,u8,u9,v10,v11]) h9 u9 rfl
 have h11:=heap_setAt (k:=10) (cs':=#[u0,u1,u2,u3,u4,u5,u6,u7,u8,u9,u10,v11]) h10 u10 rfl
 have h12:=heap_setAt (k:=11) (cs':=#[u0,u1,u2,u3,u4,u5,u6,u7,u8,u9,u10,u11]) h11 u11 rfl
 exact h12
end Go.Proofs.YtbnfdhidgdfbeaaGreat

namespace Go.Proofs.YtbnfdhidgdfbeaaGreat
set_option maxRecDepth 100000
open Go.RowKit

set_option maxHeartbeats 4000000 in
theorem toBoard_any (b:Bd) (s:Sl3) (w:World) (h:BoardRd w b s) (zf:size2 b.frames≤16777216) (zs:s.n2≤16777216) (zv:size2 b.saved≤16777216) :
  Calls Tryz.prog 33 #[.agg (bdArr b s)] w fun e w'=>∃t,e = .returned (.agg (bdArr b t))∧BoardAt w.heap.size w'.heap.size w' b t∧Below w.heap.size w w':=by
 obtain ⟨d,fs,st,ph,r,sv⟩:=b
 obtain ⟨A1,n1,c1,A2,n2,c2,A3,n3,c3⟩:=s
 have HI:=Lib.hid h
 dsimp only at zf zs zv
 clear h
 go_enter Tryz.func33,Tryz.ntmps33
 go_wp2_with fail
 refine (toDevice_any d _).mono ?_
 rintro e w1 ⟨rfl,b1⟩
 have hs1:=b1.size
 simp only [World.size_alloc] at hs1
 have HB:=Lib.hid (below_tr (below_new (below_new (below_new (Below.refl w.heap.size w) _) _) _) b1)
 have HT:Hid (Three w1 w.heap.size (w.heap.size+1) (w.heap.size+1+1) (bdArr ⟨d,fs,st,ph,r,sv⟩ ⟨A1,n1,c1,A2,n2,c2,A3,n3,c3⟩) #[.int .i64 0,.int .i64 0,.int .i64 0,.int .i64 0,.slice none 0 0,.slice none 0 0,.int .i64 0,.int .i64 0,.int .i64 0,.int .i64 0,.int .i64 0,.slice none 0 0] #[.int .i64 0,.int .i64 0,.int .i64 0,.int .i64 0,.slice none 0 0,.slice none 0 0,.int .i64 0,.int .i64 0,.int .i64 0,.int .i64 0,.int .i64 0,.slice none 0 0]) :=
  ⟨heap_tr b1 (heap_al _ (heap_al _ (heap_new _ _))),heap_tr b1 (heap_al _ (heap_newAt (by simp))),heap_tr b1 (heap_newAt (by simp))⟩
 have hg:w.heap.size≠w.heap.size+1+1:=by omega
 have hg1:w.heap.size+1≠w.heap.size+1+1:=by omega
 obtain ⟨x0,x1,x2,x3,x4,x5,x6,x7,x8,x9,x10,x11⟩:=cells12 HT.out.1
 obtain ⟨z0,z1,z2,z3,z4,z5,z6,z7,z8,z9,z10,z11⟩:=cells12 HT.out.2.2
 obtain ⟨u0,u1,u2,u3,u4,u5,u6,u7,u8,u9,u10,u11⟩:=cells12 HT.out.2.1
 have y0:=fun k=>frozen_heap HT.out.1 k
 have y1:=fun k=>frozen_heap HT.out.2.1 k
 have y2:=fun k=>frozen_heap HT.out.2.2 k
 clear b1
 go_wp2_with fail
 refine (toIntSS_any A1 n1 c1 fs _ (HI.out.frames.below (by repeat (first|with_reducible exact HB.out|with_reducible refine Below.setCell ?_ (by simp only;omega) _|with_reducible refine below_new ?_ _|with_reducible exact Below.refl _ _))) zf).mono ?_
 rintro e w2 ⟨B1,rfl,o1,b2⟩
 have hs2:=b2.size
 simp only [World.size_setCell] at hs2
 replace HB:=Lib.hid (below_tr (a:=w) (by repeat (first|with_reducible exact HB.out|with_reducible refine Below.setCell ?_ (by simp only;omega) _|with_reducible refine below_new ?_ _|with_reducible exact Below.refl _ _)) b2)
 replace HT:Hid (Three w2 w.heap.size (w.heap.size+1) (w.heap.size+1+1) (bdArr ⟨d,fs,st,ph,r,sv⟩ ⟨A1,n1,c1,A2,n2,c2,A3,n3,c3⟩) #[.int .i64 0,.int .i64 0,.int .i64 0,.int .i64 0,.slice none 0 0,.slice none 0 0,.int .i64 0,.int .i64 0,.int .i64 0,.int .i64 0,.int .i64 0,.slice none 0 0] #[.int .i64 d.W,.int .i64 d.H,.int .i64 d.T,.int .i64 d.R,.slice none 0 0,.slice none 0 0,.int .i64 0,.int .i64 0,.int .i64 0,.int .i64 0,.int .i64 0,.slice none 0 0]):=Three.tr ((((HT.out.set hg hg1 (.int .i64 d.W) rfl).set hg hg1 (.int .i64 d.H) rfl).set hg hg1 (.int .i64 d.T) rfl).set hg hg1 (.int .i64 d.R) rfl) b2
 have O2:=Lib.hid o1
 clear x0 z0 u0 x1 z1 u1 x2 z2 u2 x3 z3 u3 x4 z4 u4 x5 z5 u5 x6 z6 u6 x7 z7 u7 x8 z8 u8 x9 z9 u9 x10 z10 u10 x11 z11 u11 y0 y1 y2
 obtain ⟨x0,x1,x2,x3,x4,x5,x6,x7,x8,x9,x10,x11⟩:=cells12 HT.out.1
 obtain ⟨z0,z1,z2,z3,z4,z5,z6,z7,z8,z9,z10,z11⟩:=cells12 HT.out.2.2
 obtain ⟨u0,u1,u2,u3,u4,u5,u6,u7,u8,u9,u10,u11⟩:=cells12 HT.out.2.1
 have y0:=fun k=>frozen_heap HT.out.1 k
 have y1:=fun k=>frozen_heap HT.out.2.1 k
 have y2:=fun k=>frozen_heap HT.out.2.2 k
 clear b2 o1
 go_wp2_with fail
 refine (toIntS_any A2 n2 c2 st _ (HI.out.state.below (by repeat (first|with_reducible exact HB.out|with_reducible refine Below.setCell ?_ (by simp only;omega) _|with_reducible refine below_new ?_ _|with_reducible exact Below.refl _ _))) zs).mono ?_
 rintro e w3 ⟨B2,rfl,o2,b3⟩
 have hs3:=b3.size
 simp only [World.size_setCell] at hs3
 replace HB:=Lib.hid (below_tr (a:=w) (by repeat (first|with_reducible exact HB.out|with_reducible refine Below.setCell ?_ (by simp only;omega) _|with_reducible refine below_new ?_ _|with_reducible exact Below.refl _ _)) b3)
 replace HT:Hid (Three w3 w.heap.size (w.heap.size+1) (w.heap.size+1+1) (bdArr ⟨d,fs,st,ph,r,sv⟩ ⟨A1,n1,c1,A2,n2,c2,A3,n3,c3⟩) #[.int .i64 0,.int .i64 0,.int .i64 0,.int .i64 0,.slice none 0 0,.slice none 0 0,.int .i64 0,.int .i64 0,.int .i64 0,.int .i64 0,.int .i64 0,.slice none 0 0] #[.int .i64 d.W,.int .i64 d.H,.int .i64 d.T,.int .i64 d.R,.slice B1 n1 n1,.slice none 0 0,.int .i64 0,.int .i64 0,.int .i64 0,.int .i64 0,.int .i64 0,.slice none 0 0]):=Three.tr (HT.out.set hg hg1 (.slice B1 n1 n1) rfl) b3
 replace O2:=Lib.hid ((O2.out.chg (lo':=w.heap.size+2) (hi':=w.heap.size+3) (by repeat (first|with_reducible exact Chg.refl _ _ _|with_reducible refine Chg.set ?_ (by omega) (by omega) _)) (by simp only [World.size_setCell];omega)).below b3)
 have lO3:=o2.lies
 have O3:=Lib.hid o2
 simp only [World.size_setCell] at lO3
 clear x0 z0 u0 x1 z1 u1 x2 z2 u2 x3 z3 u3 x4 z4 u4 x5 z5 u5 x6 z6 u6 x7 z7 u7 x8 z8 u8 x9 z9 u9 x10 z10 u10 x11 z11 u11 y0 y1 y2
 obtain ⟨x0,x1,x2,x3,x4,x5,x6,x7,x8,x9,x10,x11⟩:=cells12 HT.out.1
 obtain ⟨z0,z1,z2,z3,z4,z5,z6,z7,z8,z9,z10,z11⟩:=cells12 HT.out.2.2
 obtain ⟨u0,u1,u2,u3,u4,u5,u6,u7,u8,u9,u10,u11⟩:=cells12 HT.out.2.1
 have y0:=fun k=>frozen_heap HT.out.1 k
 have y1:=fun k=>frozen_heap HT.out.2.1 k
 have y2:=fun k=>frozen_heap HT.out.2.2 k
 clear b3 o2
 go_wp2_with fail
 refine (toRegion_any r _).mono ?_
 rintro e w4 ⟨rfl,b4⟩
 have hs4:=b4.size
 simp only [World.size_setCell] at hs4
 replace HB:=Lib.hid (below_tr (a:=w) (by repeat (first|with_reducible exact HB.out|with_reducible refine Below.setCell ?_ (by simp only;omega) _|with_reducible refine below_new ?_ _|with_reducible exact Below.refl _ _)) b4)
 replace HT:Hid (Three w4 w.heap.size (w.heap.size+1) (w.heap.size+1+1) (bdArr ⟨d,fs,st,ph,r,sv⟩ ⟨A1,n1,c1,A2,n2,c2,A3,n3,c3⟩) #[.int .i64 0,.int .i64 0,.int .i64 0,.int .i64 0,.slice none 0 0,.slice none 0 0,.int .i64 0,.int .i64 0,.int .i64 0,.int .i64 0,.int .i64 0,.slice none 0 0] #[.int .i64 d.W,.int .i64 d.H,.int .i64 d.T,.int .i64 d.R,.slice B1 n1 n1,.slice B2 n2 n2,.int .i64 ph,.int .i64 0,.int .i64 0,.int .i64 0,.int .i64 0,.slice none 0 0]):=Three.tr ((HT.out.set hg hg1 (.slice B2 n2 n2) rfl).set hg hg1 (.int .i64 ph) rfl) b4
 replace O2:=Lib.hid ((O2.out.chg (lo':=w.heap.size+2) (hi':=w.heap.size+3) (by repeat (first|with_reducible exact Chg.refl _ _ _|with_reducible refine Chg.set ?_ (by omega) (by omega) _)) (by simp only [World.size_setCell];omega)).below b4)
 replace O3:=Lib.hid ((O3.out.chg (lo':=w.heap.size+2) (hi':=w.heap.size+3) (by repeat (first|with_reducible exact Chg.refl _ _ _|with_reducible refine Chg.set ?_ (by omega) (by omega) _)) lO3 (by omega)).below b4)
 clear x0 z0 u0 x1 z1 u1 x2 z2 u2 x3 z3 u3 x4 z4 u4 x5 z5 u5 x6 z6 u6 x7 z7 u7 x8 z8 u8 x9 z9 u9 x10 z10 u10 x11 z11 u11 y0 y1 y2
 obtain ⟨x0,x1,x2,x3,x4,x5,x6,x7,x8,x9,x10,x11⟩:=cells12 HT.out.1
 obtain ⟨z0,z1,z2,z3,z4,z5,z6,z7,z8,z9,z10,z11⟩:=cells12 HT.out.2.2
 obtain ⟨u0,u1,u2,u3,u4,u5,u6,u7,u8,u9,u10,u11⟩:=cells12 HT.out.2.1
 have y0:=fun k=>frozen_heap HT.out.1 k
 have y1:=fun k=>frozen_heap HT.out.2.1 k
 have y2:=fun k=>frozen_heap HT.out.2.2 k
 clear b4
 go_wp2_with fail
 refine (toIntSS_any A3 n3 c3 sv _ (HI.out.saved.below (by repeat (first|with_reducible exact HB.out|with_reducible refine Below.setCell ?_ (by simp only;omega) _|with_reducible refine below_new ?_ _|with_reducible exact Below.refl _ _))) zv).mono ?_
 rintro e w5 ⟨B3,rfl,o3,b5⟩
 have hs5:=b5.size
 simp only [World.size_setCell] at hs5
 replace HB:=Lib.hid (below_tr (a:=w) (by repeat (first|with_reducible exact HB.out|with_reducible refine Below.setCell ?_ (by simp only;omega) _|with_reducible refine below_new ?_ _|with_reducible exact Below.refl _ _)) b5)
 replace HT:Hid (Three w5 w.heap.size (w.heap.size+1) (w.heap.size+1+1) (bdArr ⟨d,fs,st,ph,r,sv⟩ ⟨A1,n1,c1,A2,n2,c2,A3,n3,c3⟩) #[.int .i64 0,.int .i64 0,.int .i64 0,.int .i64 0,.slice none 0 0,.slice none 0 0,.int .i64 0,.int .i64 0,.int .i64 0,.int .i64 0,.int .i64 0,.slice none 0 0] #[.int .i64 d.W,.int .i64 d.H,.int .i64 d.T,.int .i64 d.R,.slice B1 n1 n1,.slice B2 n2 n2,.int .i64 ph,.int .i64 r.X0,.int .i64 r.Y0,.int .i64 r.X1,.int .i64 r.Y1,.slice none 0 0]):=Three.tr ((((HT.out.set hg hg1 (.int .i64 r.X0) rfl).set hg hg1 (.int .i64 r.Y0) rfl).set hg hg1 (.int .i64 r.X1) rfl).set hg hg1 (.int .i64 r.Y1) rfl) b5
 replace O2:=Lib.hid ((O2.out.chg (lo':=w.heap.size+2) (hi':=w.heap.size+3) (by repeat (first|with_reducible exact Chg.refl _ _ _|with_reducible refine Chg.set ?_ (by omega) (by omega) _)) (by simp only [World.size_setCell];omega)).below b5)
 replace O3:=Lib.hid ((O3.out.chg (lo':=w.heap.size+2) (hi':=w.heap.size+3) (by repeat (first|with_reducible exact Chg.refl _ _ _|with_reducible refine Chg.set ?_ (by omega) (by omega) _)) lO3 (by omega)).below b5)
 have O5:=Lib.hid o3
 clear x0 z0 u0 x1 z1 u1 x2 z2 u2 x3 z3 u3 x4 z4 u4 x5 z5 u5 x6 z6 u6 x7 z7 u7 x8 z8 u8 x9 z9 u9 x10 z10 u10 x11 z11 u11 y0 y1 y2
 obtain ⟨x0,x1,x2,x3,x4,x5,x6,x7,x8,x9,x10,x11⟩:=cells12 HT.out.1
 obtain ⟨z0,z1,z2,z3,z4,z5,z6,z7,z8,z9,z10,z11⟩:=cells12 HT.out.2.2
 obtain ⟨u0,u1,u2,u3,u4,u5,u6,u7,u8,u9,u10,u11⟩:=cells12 HT.out.2.1
 have y0:=fun k=>frozen_heap HT.out.1 k
 have y1:=fun k=>frozen_heap HT.out.2.1 k
 have y2:=fun k=>frozen_heap HT.out.2.2 k
 clear b5 o3
 go_wp2_with fail
 generalize hWF:World.setCell _ _ _=WF
 have hb:WF.heap[w.heap.size+1]?=some (.cells (bdArr ⟨d,fs,st,ph,r,sv⟩ ⟨B1,n1,n1,B2,n2,n2,B3,n3,n3⟩) 31 (0,0)):=by
  rw [←hWF]
  exact set12 (heap_setFar HT.out.2.1 hg1 _)
 have hsz:WF.heap.size=w5.heap.size:=by rw [←hWF];simp only [World.size_setCell]
 have hB:Below w.heap.size w WF:=by rw [←hWF];repeat (first|with_reducible exact HB.out|with_reducible refine Below.setCell ?_ (by simp only;omega) _|with_reducible refine below_new ?_ _|with_reducible exact Below.refl _ _)
 have hC:Chg (w.heap.size+1) (w.heap.size+3) w5 WF:=by rw [←hWF];repeat (first|with_reducible exact Chg.refl _ _ _|with_reducible refine Chg.set ?_ (by omega) (by omega) _)
 clear hWF x0 x1 x2 x3 x4 x5 x6 x7 x8 x9 x10 x11 z0 z1 z2 z3 z4 z5 z6 z7 z8 z9 z10 z11 u0 u1 u2 u3 u4 u5 u6 u7 u8 u9 u10 u11 y0 y1 y2
 refine bodyPost_ret (v := .agg (bdArr ⟨d,fs,st,ph,r,sv⟩ ⟨B1,n1,n1,B2,n2,n2,B3,n3,n3⟩)) (results_cell1 Tryz.results33 rfl hb Tryz.underlying31 (by kernel_rfl)) rfl ⟨⟨B1,n1,n1,B2,n2,n2,B3,n3,n3⟩,rfl,?_,hB⟩
 have K2:=O2.out.chg hC (by simp only [World.size_setCell];omega)
 have K3:=O3.out.chg hC lO3 (by omega)
 have K5:=O5.out.chg hC (by simp only [World.size_setCell];omega)
 simp only [World.size_setCell] at K2 K3 K5
 exact boardAt_mk K2 K3 lO3 K5 (by omega)
end Go.Proofs.YtbnfdhidgdfbeaaGreat

namespace Go.Proofs.YtbnfdhidgdfbeaaGreat
set_option maxRecDepth 100000
open Go.RowKit

def zBd:Bd:=⟨⟨0,0,0,0⟩,[],[],0,⟨0,0,0,0⟩,[]⟩
end Go.Proofs.YtbnfdhidgdfbeaaGreat

namespace Go.Proofs.YtbnfdhidgdfbeaaGreat
set_option maxRecDepth 100000
open Go.RowKit

theorem cells4 {w:World} {g:Nat} {v0 v1 v2 v3:Value} {t:TypeId} (h:w.heap[g]?=some (.cells #[v0,v1,v2,v3] t (0,0))):w.cell? ⟨g,0,none⟩=some v0∧w.cell? ⟨g,1,none⟩=some v1∧w.cell? ⟨g,2,none⟩=some v2∧w.cell? ⟨g,3,none⟩=some v3:=⟨cell_heap h rfl,cell_heap h rfl,cell_heap h rfl,cell_heap h rfl⟩
theorem size2_le_of {xss:List (List Int)} {M:Nat} (h:∀j,j<xss.length→(xss[j]?.getD []).length≤M):size2 xss≤xss.length * (M+1)∧sizeTo xss xss.length≤xss.length * M:=by
 have key:∀k,k≤xss.length→sizeTo xss k≤k * M:=by
  intro k hk
  induction k with
  | zero=>exact Nat.zero_le _
  | succ k ih =>
   have hl:=h k (by omega)
   rw [sizeTo,Nat.succ_mul]
   have:=ih (by omega)
   omega
 have:=key xss.length (Nat.le_refl _)
 refine ⟨?_,this⟩
 unfold size2
 rw [Nat.mul_succ]
 omega
end Go.Proofs.YtbnfdhidgdfbeaaGreat
