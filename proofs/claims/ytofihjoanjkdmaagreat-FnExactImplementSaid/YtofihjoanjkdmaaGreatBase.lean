/- Words for memory: slices that read as lists, owned rows, and how they are kept. -/
import Derived.BigQuiet
import Derived.Deep.AppendLies
import Derived.Deep.QuietTactic
import Derived.Deep.RegionHeld3
import Derived.Deep.RegionWith
import Derived.Laws.MakeOwn
import Derived.Lib.Hide
import Derived.Maps.AppendAt
import Derived.Test.YtofihjoanjkdmaaGreatRows
import Derived.WalkKit
import Derived.WalkSpells
namespace Go.Proofs.YtofihjoanjkdmaaGreat
set_option maxRecDepth 100000
open Go.RowKit
abbrev Oh:=Option Addr
structure Hv(p:Prop):Prop where out:p
theorem Hd{p:Prop}(h:p):Hv p:=⟨h⟩
theorem aA{a b c:World}(h:Below a.heap.size a b)(k:Below b.heap.size b c):Below a.heap.size a c:=h.trans (k.mono h.size)
theorem ae{B:Nat}{a w:World}(h:Below B a w)(n:Nat):Below B a (w.drewN n):=⟨h.os,h.tape,h.output,h.size,h.block⟩
theorem aB{a b:World}(h:Below a.heap.size a b)(o:Obj):Below a.heap.size a (b.alloc o):=h.alloc h.size o
theorem aJ{a b:World}(h:Below a.heap.size a b){k:Nat}(hk:k<a.heap.size):k<b.heap.size:=Nat.lt_of_lt_of_le hk h.size
theorem az{W g:World}(hb:Below W.heap.size W g):(∀b o,b<W.heap.size→g.cell? ⟨b,o,none⟩=W.cell? ⟨b,o,none⟩)/\(∀b o,b<W.heap.size→g.frozen? ⟨b,o,none⟩=W.frozen? ⟨b,o,none⟩) :=
 ⟨fun b o h=>hb.cell (p:=⟨b,o,none⟩) h,fun b o h=>hb.frozen (p:=⟨b,o,none⟩) h⟩
def bT(w:World)(A:Oh)(n:Nat)(xs:List Int):Prop :=
 xs.length=n/\(0<n→∃b o,A=some ⟨b,o,none⟩/\b<w.heap.size/\∀j,j<n→w.cell? ⟨b,o+j,none⟩=some (.int .i64 (xs[j]?.getD 0)))
theorem bT.below{w w':World}{A:Oh}{n:Nat}{xs:List Int}(h:bT w A n xs)(hb:Below w.heap.size w w'):bT w' A n xs:=by
 refine⟨h.1,fun hn=>?_⟩;obtain⟨b,o,e,g,hc⟩:=h.2 hn;exact⟨b,o,e,aJ hb g,fun j hj=>(hb.cell (p:=⟨b,o+j,none⟩) g).trans (hc j hj)⟩
def Own(base:Nat)(w:World)(A:Oh)(n c:Nat)(xs:List Int):Prop :=
 w.ownsRow base 3 1 (.slice A n c) n (xs.map (Value.int .i64))
theorem Own.len{base:Nat}{w:World}{A:Oh}{n c:Nat}{xs:List Int}(h:Own base w A n c xs):xs.length=n:=by
 have:=h.1;simpa using this
theorem Own.lt{base:Nat}{w:World}{A:Oh}{n c:Nat}{xs:List Int}(h:Own base w A n c xs):∀a,A=some a→base<=a.block/\a.block<w.heap.size:=by
 rintro a rfl
 rcases h.2 with⟨u,_⟩|⟨g,cap,cur,u,hb,z,_⟩
 ·cases u
 injection u with hA
 injection hA with hA
 subst hA;refine⟨hb,?_⟩
 rcases Nat.lt_or_ge g w.heap.size with j|q
 ·exact j
 rw[Array.getElem?_eq_none q]at z;cases z
theorem fU{w w':World}{base:Nat}{e:TypeId}{size:Nat}{A:Oh}{n c m:Nat}{xs:List Value}(h:w.ownsRow base e size (.slice A n c) m xs)
  (hk:∀a,A=some a→w'.heap[a.block]?=w.heap[a.block]?):w'.ownsRow base e size (.slice A n c) m xs:=by
 refine⟨h.1,?_⟩
 rcases h.2 with h0|⟨g,cap,cur,j,hb,q,r⟩
 ·exact .inl h0
 refine .inr ⟨g,cap,cur,j,hb,?_,r⟩;injection j with hA
 rw[←q];exact hk _ hA
theorem Own.below{base:Nat}{w w':World}{A:Oh}{n c:Nat}{xs:List Int}(h:Own base w A n c xs)(hb:Below w.heap.size w w'):Own base w' A n c xs :=
 fU h fun a g=>hb.block _ (h.lt a g).2
theorem Own.more{base j:Nat}{w:World}{A:Oh}{n c:Nat}{xs:List Int}(h:Own base w A n c xs)(hb:j<=base):Own j w A n c xs:=by
 refine⟨h.1,?_⟩
 rcases h.2 with h0|⟨g,cap,cur,q,hg,r⟩
 ·exact .inl h0
 exact .inr ⟨g,cap,cur,q,Nat.le_trans hb hg,r⟩
theorem Own.ints{base:Nat}{w:World}{A:Oh}{n c:Nat}{xs:List Int}(h:Own base w A n c xs):bT w A n xs:=by
 refine⟨h.len,fun hn=>?_⟩;have hl:=h.lt
 rcases h.2 with⟨_,h0⟩|⟨g,cap,cur,D,hb,u,z,q,B,ht⟩
 ·omega
 injection D with hA
 subst hA;refine⟨g,0,rfl,(hl _ rfl).2,fun j hj=>?_⟩
 have hx:(xs.map (Value.int .i64))[j]?=some (.int .i64 (xs[j]?.getD 0)):=by
  have:j<xs.length:=by have:=h.len;omega
  simp[this]
 rw[←ht,List.getElem?_take]at hx;simp only[Nat.mul_one]at hx;rw[if_pos hj]at hx
 simpa [World.cell?,u]using hx
theorem Own.nil{base:Nat}{w:World}:Own base w none 0 0 []:=⟨rfl,.inl ⟨rfl,rfl⟩⟩
theorem Own.made{w:World}{base g:Nat}{n:Nat}{cur:Array Value}{xs:List Int}(j:w.heap[g]?=some (.cells cur 3 (0,0)))(hb:base<=g)(hn:n<=maxLen)(hc:cur.toList=xs.map (Value.int .i64))(hl:xs.length=n):Own base w (some ⟨g,0,none⟩) n n xs:=by
 have q:cur.size=n:=by rw[←Array.length_toList,hc,List.length_map,hl]
 refine⟨by simp[hl],.inr ⟨g,n,cur,rfl,hb,j,Nat.le_refl _,hn,by omega,?_⟩⟩;rw[hc,List.take_of_length_le (by simp[hl])]
def arr(xs:List Int):Array Value:=(xs.map (Value.int .i64)).toArray
theorem kM(n:Nat):madeCells #[Value.int .i64 0] n=arr (List.replicate n 0):=by
 apply Array.ext';rw[toList_madeCells_one];simp[arr]
theorem Own.arr{w:World}{base g n:Nat}{xs:List Int}(j:w.heap[g]?=some (.cells (arr xs) 3 (0,0)))(hb:base<=g)(hn:n<=maxLen)(hl:xs.length=n):Own base w (some ⟨g,0,none⟩) n n xs :=
 Own.made j hb hn (by simp[Go.Proofs.YtofihjoanjkdmaaGreat.arr]) hl
theorem aG(w:World)(o:Obj):(w.alloc o).heap[w.heap.size]?=some o:=heap_alloc_new w o
theorem dQ{P:Program}(t e:TypeId)(i:TypeInfo)(z:Value)(ht:P.underlying t=some (.slice e))(hi:P.info? e=some i)(B:i.zero=some z)
  (j q:IntKind) (n c:Nat) (D:n<=c) (g:i.bytes*c<=281474976710656) (u:c<=9223372036854775807) (w:World) :
  (Instr.makeSlice t (.int j (n:Int)) (.int q (c:Int))).run P w=.ok (.slice (some ⟨w.heap.size,0,none⟩) n c) (w.alloc (.cells (madeCells z.cells (c*i.size)) e)):=by
 have hb:(i.bytes:Int)*(c:Int)<=281474976710656:=by
  have h:((i.bytes*c:Nat):Int)<=281474976710656:=by omega
  rwa[Int.natCast_mul]at h
 have hr:=run_make (P:=P) w t e i z ht hi B j q n c (by omega) (by omega) hb (by omega);simp only[Int.toNat_natCast]at hr;exact hr
theorem aH{w:World}{g:Nat}{o:Obj}(h:w.heap[g]?=some o):g<w.heap.size:=by
 rcases Nat.lt_or_ge g w.heap.size with q|j
 ·exact q
 rw[Array.getElem?_eq_none j]at h;cases h
theorem nP{w:World}{g:Nat}{cs:Array Value}{t:TypeId}(h:w.heap[g]?=some (.cells cs t (0,0)))(j:Nat)(v:Value):(w.setCell ⟨g,j,none⟩ v).heap[g]?=some (.cells (cs.setIfInBounds j v) t (0,0)):=by
 simp[World.setCell,Array.getElem?_modify,h]
theorem aF{w w':World}(h:Below w.heap.size w w'){g:Nat}{o:Obj}(hg:w.heap[g]?=some o):w'.heap[g]?=some o:=(h.block g (aH hg)).trans hg
theorem dP{w:World}{g:Nat}{o:Obj}(j:Obj)(hg:w.heap[g]?=some o):(w.alloc j).heap[g]?=some o:=(Below.heap_alloc w j g (aH hg)).trans hg
theorem aC{w:World}{g k:Nat}{cs:Array Value}{t:TypeId}{v:Value}(h:w.heap[g]?=some (.cells cs t (0,0)))(j:cs[k]?=some v):w.cell? ⟨g,k,none⟩=some v:=by unfold World.cell?;rw[h];exact j
theorem yU{w:World}{g:Nat}{j:Value}{r:List Value}{e:TypeId}(h:w.heap[g]?=some (.cells (j::r).toArray e (0,0))):w.cell? ⟨g,0,none⟩=some j/\g<w.heap.size:=⟨aC (k:=0) h (by simp),aH h⟩
theorem cs2{w:World}{g:Nat}{j q:Value}{r:List Value}{e:TypeId}(h:w.heap[g]?=some (.cells (j::q::r).toArray e (0,0))):w.cell? ⟨g,0,none⟩=some j/\w.cell? ⟨g,1,none⟩=some q:=⟨aC (k:=0) h (by simp),aC (k:=1) h (by simp)⟩
theorem iC{w:World}{g:Nat}{j q:Value}{r:List Value}{e:TypeId}(h:w.heap[g]?=some (.cells (j::q::r).toArray e (0,0))):w.cell? ⟨g,0,none⟩=some j/\w.cell? ⟨g,1,none⟩=some q/\g<w.heap.size:=⟨aC (k:=0) h (by simp),aC (k:=1) h (by simp),aH h⟩
theorem cs3{w:World}{g:Nat}{q u j:Value}{r:List Value}{e:TypeId}(h:w.heap[g]?=some (.cells (q::u::j::r).toArray e (0,0))):w.cell? ⟨g,0,none⟩=some q/\w.cell? ⟨g,1,none⟩=some u/\w.cell? ⟨g,2,none⟩=some j:=⟨aC (k:=0) h (by simp),aC (k:=1) h (by simp),aC (k:=2) h (by simp)⟩
theorem j6{w:World}{g:Nat}{q u j:Value}{r:List Value}{e:TypeId}(h:w.heap[g]?=some (.cells (q::u::j::r).toArray e (0,0))):w.cell? ⟨g,0,none⟩=some q/\w.cell? ⟨g,1,none⟩=some u/\w.cell? ⟨g,2,none⟩=some j/\g<w.heap.size:=⟨aC (k:=0) h (by simp),aC (k:=1) h (by simp),aC (k:=2) h (by simp),aH h⟩
theorem cs4{w:World}{g:Nat}{q u j z:Value}{r:List Value}{e:TypeId}(h:w.heap[g]?=some (.cells (q::u::j::z::r).toArray e (0,0))):w.cell? ⟨g,0,none⟩=some q/\w.cell? ⟨g,1,none⟩=some u/\w.cell? ⟨g,2,none⟩=some j/\w.cell? ⟨g,3,none⟩=some z:=⟨aC (k:=0) h (by simp),aC (k:=1) h (by simp),aC (k:=2) h (by simp),aC (k:=3) h (by simp)⟩
theorem bA{w:World}{g:Nat}{q u j z:Value}{r:List Value}{e:TypeId}(h:w.heap[g]?=some (.cells (q::u::j::z::r).toArray e (0,0))):w.cell? ⟨g,0,none⟩=some q/\w.cell? ⟨g,1,none⟩=some u/\w.cell? ⟨g,2,none⟩=some j/\w.cell? ⟨g,3,none⟩=some z/\g<w.heap.size:=⟨aC (k:=0) h (by simp),aC (k:=1) h (by simp),aC (k:=2) h (by simp),aC (k:=3) h (by simp),aH h⟩
theorem Ob{w:World}{g:Nat}{q z j B u:Value}{r:List Value}{e:TypeId}(h:w.heap[g]?=some (.cells (q::z::j::B::u::r).toArray e (0,0))):w.cell? ⟨g,0,none⟩=some q/\w.cell? ⟨g,1,none⟩=some z/\w.cell? ⟨g,2,none⟩=some j/\w.cell? ⟨g,3,none⟩=some B/\w.cell? ⟨g,4,none⟩=some u/\g<w.heap.size:=⟨aC (k:=0) h (by simp),aC (k:=1) h (by simp),aC (k:=2) h (by simp),aC (k:=3) h (by simp),aC (k:=4) h (by simp),aH h⟩
theorem Oc{w:World}{g:Nat}{q B j D u z:Value}{r:List Value}{e:TypeId}(h:w.heap[g]?=some (.cells (q::B::j::D::u::z::r).toArray e (0,0))):w.cell? ⟨g,0,none⟩=some q/\w.cell? ⟨g,1,none⟩=some B/\w.cell? ⟨g,2,none⟩=some j/\w.cell? ⟨g,3,none⟩=some D/\w.cell? ⟨g,4,none⟩=some u/\w.cell? ⟨g,5,none⟩=some z/\g<w.heap.size:=⟨aC (k:=0) h (by simp),aC (k:=1) h (by simp),aC (k:=2) h (by simp),aC (k:=3) h (by simp),aC (k:=4) h (by simp),aC (k:=5) h (by simp),aH h⟩
theorem Od{w:World}{g:Nat}{q D j G u z B:Value}{r:List Value}{e:TypeId}(h:w.heap[g]?=some (.cells (q::D::j::G::u::z::B::r).toArray e (0,0))):w.cell? ⟨g,0,none⟩=some q/\w.cell? ⟨g,1,none⟩=some D/\w.cell? ⟨g,2,none⟩=some j/\w.cell? ⟨g,3,none⟩=some G/\w.cell? ⟨g,4,none⟩=some u/\w.cell? ⟨g,5,none⟩=some z/\w.cell? ⟨g,6,none⟩=some B/\g<w.heap.size:=⟨aC (k:=0) h (by simp),aC (k:=1) h (by simp),aC (k:=2) h (by simp),aC (k:=3) h (by simp),aC (k:=4) h (by simp),aC (k:=5) h (by simp),aC (k:=6) h (by simp),aH h⟩
theorem Ag{w:World}{g:Nat}{q D j H u z B G:Value}{r:List Value}{e:TypeId}(h:w.heap[g]?=some (.cells (q::D::j::H::u::z::B::G::r).toArray e (0,0))):w.cell? ⟨g,0,none⟩=some q/\w.cell? ⟨g,1,none⟩=some D/\w.cell? ⟨g,2,none⟩=some j/\w.cell? ⟨g,3,none⟩=some H/\w.cell? ⟨g,4,none⟩=some u/\w.cell? ⟨g,5,none⟩=some z/\w.cell? ⟨g,6,none⟩=some B/\w.cell? ⟨g,7,none⟩=some G/\g<w.heap.size:=⟨aC (k:=0) h (by simp),aC (k:=1) h (by simp),aC (k:=2) h (by simp),aC (k:=3) h (by simp),aC (k:=4) h (by simp),aC (k:=5) h (by simp),aC (k:=6) h (by simp),aC (k:=7) h (by simp),aH h⟩
theorem hd2{p0 g:Prop}(q:p0)(j:g):Hv p0/\Hv g:=⟨Hd q,Hd j⟩
theorem hd3{p0 j g:Prop}(q:p0)(z:j)(u:g):Hv p0/\Hv j/\Hv g:=⟨Hd q,Hd z,Hd u⟩
theorem hd4{p0 q j g:Prop}(z:p0)(D:q)(B:j)(u:g):Hv p0/\Hv q/\Hv j/\Hv g:=⟨Hd z,Hd D,Hd B,Hd u⟩
theorem hd5{p0 q j g u:Prop}(B:p0)(H:q)(G:j)(z:g)(D:u):Hv p0/\Hv q/\Hv j/\Hv g/\Hv u:=⟨Hd B,Hd H,Hd G,Hd z,Hd D⟩
theorem hd6{p0 u j g z q:Prop}(D:p0)(I:u)(H:j)(B:g)(G:z)(J:q):Hv p0/\Hv u/\Hv j/\Hv g/\Hv z/\Hv q:=⟨Hd D,Hd I,Hd H,Hd B,Hd G,Hd J⟩
theorem hd7{p0 u j g z q B:Prop}(G:p0)(K:u)(I:j)(D:g)(H:z)(Q:q)(J:B):Hv p0/\Hv u/\Hv j/\Hv g/\Hv z/\Hv q/\Hv B:=⟨Hd G,Hd K,Hd I,Hd D,Hd H,Hd Q,Hd J⟩
theorem hd8{p0 z q j B u D g:Prop}(H:p0)(Q:z)(J:q)(G:j)(I:B)(U:u)(K:D)(R:g):Hv p0/\Hv z/\Hv q/\Hv j/\Hv B/\Hv u/\Hv D/\Hv g:=⟨Hd H,Hd Q,Hd J,Hd G,Hd I,Hd U,Hd K,Hd R⟩
theorem ib{k n:Nat}(h:k<n):(0:Int)<=(k:Int)/\(k:Int)<(n:Int):=by omega
theorem dT{k n:Nat}(h:k<n):decide ((k:Int)<(n:Int))=true:=by simp;omega
theorem dF{k n:Nat}(h:n<=k):decide ((k:Int)<(n:Int))=false:=by simp;omega
theorem aN{w:World}{g:Nat}{cs:Array Value}{t:TypeId}(h:w.heap[g]?=some (.cells cs t (0,0)))(k:Nat):w.frozen? ⟨g,k,none⟩=false:=by unfold World.frozen?;rw[h];simp
theorem fQ{p:Nat→Prop}{k:Nat}(h:∀j,j<k→p j)(hk:p k):∀j,j<k+1→p j:=by
 intro j hj
 rcases Nat.lt_or_ge j k with h1|h1
 ·exact h j h1
 obtain rfl:j=k:=by omega
 exact hk
theorem aQ{k:IntKind}{a b:Int}(h:a=b):Ending.returned (.int k a)=.returned (.int k b):=by rw[h]
theorem fH{a b:Bool}(h:a=b):Ending.returned (.bool a)=.returned (.bool b):=by rw[h]
theorem iE:(Tryz.prog.info? 3).map (fun i=>(i.zero,i.size,i.bytes))=some (some (.int .i64 0),1,8):=by kernel_rfl
def inR(n lo hi:Int):Bool:=decide (lo<=n) && decide (n<=hi)
theorem aR{n lo hi:Int}:inR n lo hi=true↔lo<=n/\n<=hi:=by simp[inR]
theorem uT{n lo hi:Int}:inR n lo hi=false↔n<lo∨hi<n:=by
 simp only[inR,Bool.and_eq_false_iff,decide_eq_false_iff_not];omega
structure Dev where
 W:Int
 H:Int
 T:Int
 R:Int
abbrev K3e(w:World)(g:Nat)(q u j:Value):Prop:=w.cell? ⟨g,0,none⟩=some (q)/\w.cell? ⟨g,1,none⟩=some (u)/\w.cell? ⟨g,2,none⟩=some (j)
abbrev K4(w:World)(g:Nat)(q u j z:Value)(R:Prop):Prop:=w.cell? ⟨g,0,none⟩=some (q)/\w.cell? ⟨g,1,none⟩=some (u)/\w.cell? ⟨g,2,none⟩=some (j)/\w.cell? ⟨g,3,none⟩=some (z)/\R
abbrev K4e(w:World)(g:Nat)(q u j z:Value):Prop:=w.cell? ⟨g,0,none⟩=some (q)/\w.cell? ⟨g,1,none⟩=some (u)/\w.cell? ⟨g,2,none⟩=some (j)/\w.cell? ⟨g,3,none⟩=some (z)
abbrev KD(w:World)(g:Nat)(d:Dev)(R:Prop):Prop:=w.cell? ⟨g,0,none⟩=some (.int .i64 d.W)/\w.cell? ⟨g,1,none⟩=some (.int .i64 d.H)/\w.cell? ⟨g,2,none⟩=some (.int .i64 d.T)/\w.cell? ⟨g,3,none⟩=some (.int .i64 d.R)/\R
abbrev KDe(w:World)(g:Nat)(d:Dev):Prop:=w.cell? ⟨g,0,none⟩=some (.int .i64 d.W)/\w.cell? ⟨g,1,none⟩=some (.int .i64 d.H)/\w.cell? ⟨g,2,none⟩=some (.int .i64 d.T)/\w.cell? ⟨g,3,none⟩=some (.int .i64 d.R)
abbrev dv(d:Dev):Array Value:=#[.int .i64 d.W,.int .i64 d.H,.int .i64 d.T,.int .i64 d.R]
structure Reg where
 X0:Int
 Y0:Int
 X1:Int
 Y1:Int
end Go.Proofs.YtofihjoanjkdmaaGreat
