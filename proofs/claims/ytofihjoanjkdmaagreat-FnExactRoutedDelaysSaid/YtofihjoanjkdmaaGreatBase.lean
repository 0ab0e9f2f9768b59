/- Words for memory: slices that read as lists, owned rows, and how they are kept. -/
import Derived.BigQuiet
import Derived.Deep.AppendLies
import Derived.Deep.QuietTactic
import Derived.Deep.RegionHeld3
import Derived.Deep.RegionWith
import Derived.Laws.MakeOwn
import Derived.Lib.Hide
import Derived.Maps.AppendAt
import Derived.Test.YtofihjoanjkdmaaGreatRows
import Derived.WalkKit
import Derived.WalkSpells
namespace Go.Proofs.YtofihjoanjkdmaaGreat
set_option maxRecDepth 100000
open Go.RowKit
theorem Hd {p:Prop} (h:p):Hid p:=Lib.hid h
theorem aA {a b c:World} (h:Below a.heap.size a b) (k:Below b.heap.size b c):Below a.heap.size a c:=h.trans (k.mono h.size)
theorem bB {B:Nat} {a w:World} (h:Below B a w) (n:Nat):Below B a (w.drewN n):=⟨h.os,h.tape,h.output,h.size,h.block⟩
theorem aD {a b:World} (h:Below a.heap.size a b) (o:Obj):Below a.heap.size a (b.alloc o):=h.alloc h.size o
theorem aK {a b:World} (h:Below a.heap.size a b) {k:Nat} (hk:k<a.heap.size):k<b.heap.size:=Nat.lt_of_lt_of_le hk h.size
theorem bG {W g:World} (j:Below W.heap.size W g):(∀b o,b<W.heap.size→g.cell? ⟨b,o,none⟩=W.cell? ⟨b,o,none⟩)/\(∀b o,b<W.heap.size→g.frozen? ⟨b,o,none⟩=W.frozen? ⟨b,o,none⟩) :=
 ⟨fun b o h=>j.cell (p:=⟨b,o,none⟩) h,fun b o h=>j.frozen (p:=⟨b,o,none⟩) h⟩
def dE (w:World) (A:Option Addr) (n:Nat) (xs:List Int):Prop :=
 xs.length=n/\(0<n→∃b o,A=some ⟨b,o,none⟩/\b<w.heap.size/\∀j,j<n→w.cell? ⟨b,o+j,none⟩=some (.int .i64 (xs[j]?.getD 0)))
theorem dE.below {w w':World} {A:Option Addr} {n:Nat} {xs:List Int} (h:dE w A n xs) (q:Below w.heap.size w w'):dE w' A n xs:=by
 refine ⟨h.1,fun hn=>?_⟩
 obtain ⟨b,o,e,g,hc⟩:=h.2 hn
 exact ⟨b,o,e,aK q g,fun j hj=>(q.cell (p:=⟨b,o+j,none⟩) g).trans (hc j hj)⟩
def Own (base:Nat) (w:World) (A:Option Addr) (n c:Nat) (xs:List Int):Prop :=
 w.ownsRow base 3 1 (.slice A n c) n (xs.map (Value.int .i64))
theorem Own.len {base:Nat} {w:World} {A:Option Addr} {n c:Nat} {xs:List Int} (h:Own base w A n c xs):xs.length=n:=by
 have:=h.1;simpa using this
theorem Own.lt {base:Nat} {w:World} {A:Option Addr} {n c:Nat} {xs:List Int} (h:Own base w A n c xs):∀a,A=some a→base<=a.block/\a.block<w.heap.size:=by
 rintro a rfl
 rcases h.2 with ⟨q,_⟩|⟨g,D,cur,q,B,z,_⟩
 ·cases q
 injection q with hA
 injection hA with hA
 subst hA
 refine ⟨B,?_⟩
 rcases Nat.lt_or_ge g w.heap.size with u|j
 ·exact u
 rw [Array.getElem?_eq_none j] at z;cases z
theorem fq {w w':World} {base:Nat} {e:TypeId} {size:Nat} {A:Option Addr} {n c m:Nat} {xs:List Value} (h:w.ownsRow base e size (.slice A n c) m xs)
  (hk:∀a,A=some a→w'.heap[a.block]?=w.heap[a.block]?):w'.ownsRow base e size (.slice A n c) m xs:=by
 refine ⟨h.1,?_⟩
 rcases h.2 with h0|⟨g,j,cur,q,z,u,r⟩
 ·exact .inl h0
 refine .inr ⟨g,j,cur,q,z,?_,r⟩
 injection q with hA
 rw [←u]
 exact hk _ hA
theorem Own.below {base:Nat} {w w':World} {A:Option Addr} {n c:Nat} {xs:List Int} (h:Own base w A n c xs) (j:Below w.heap.size w w'):Own base w' A n c xs :=
 fq h fun a g=>j.block _ (h.lt a g).2
theorem Own.more {base j:Nat} {w:World} {A:Option Addr} {n c:Nat} {xs:List Int} (h:Own base w A n c xs) (u:j<=base):Own j w A n c xs:=by
 refine ⟨h.1,?_⟩
 rcases h.2 with h0|⟨g,q,cur,z,hg,r⟩
 ·exact .inl h0
 exact .inr ⟨g,q,cur,z,Nat.le_trans u hg,r⟩
theorem Own.ints {base:Nat} {w:World} {A:Option Addr} {n c:Nat} {xs:List Int} (h:Own base w A n c xs):dE w A n xs:=by
 refine ⟨h.len,fun hn=>?_⟩
 have hl:=h.lt
 rcases h.2 with ⟨_,h0⟩|⟨g,D,cur,z,I,G,B,u,H,ht⟩
 ·omega
 injection z with hA
 subst hA
 refine ⟨g,0,rfl,(hl _ rfl).2,fun j hj=>?_⟩
 have q:(xs.map (Value.int .i64))[j]?=some (.int .i64 (xs[j]?.getD 0)):=by
  have:j<xs.length:=by have:=h.len;omega
  simp [this]
 rw [←ht,List.getElem?_take] at q
 simp only [Nat.mul_one] at q
 rw [if_pos hj] at q
 simpa [World.cell?,G] using q
theorem Own.nil {base:Nat} {w:World}:Own base w none 0 0 []:=⟨rfl,.inl ⟨rfl,rfl⟩⟩
theorem Own.made {w:World} {base g:Nat} {n:Nat} {cur:Array Value} {xs:List Int} (j:w.heap[g]?=some (.cells cur 3 (0,0))) (q:base<=g) (hn:n<=maxLen) (hc:cur.toList=xs.map (Value.int .i64)) (hl:xs.length=n):Own base w (some ⟨g,0,none⟩) n n xs:=by
 have u:cur.size=n:=by rw [←Array.length_toList,hc,List.length_map,hl]
 refine ⟨by simp [hl],.inr ⟨g,n,cur,rfl,q,j,Nat.le_refl _,hn,by omega,?_⟩⟩
 rw [hc,List.take_of_length_le (by simp [hl])]
def arr (xs:List Int):Array Value:=(xs.map (Value.int .i64)).toArray
theorem sw (n:Nat):madeCells #[Value.int .i64 0] n=arr (List.replicate n 0):=by
 apply Array.ext'
 rw [toList_madeCells_one]
 simp [arr]
theorem Own.arr {w:World} {base g n:Nat} {xs:List Int} (j:w.heap[g]?=some (.cells (arr xs) 3 (0,0))) (q:base<=g) (hn:n<=maxLen) (hl:xs.length=n):Own base w (some ⟨g,0,none⟩) n n xs :=
 Own.made j q hn (by simp [Go.Proofs.YtofihjoanjkdmaaGreat.arr]) hl
theorem aI (w:World) (o:Obj):(w.alloc o).heap[w.heap.size]?=some o:=heap_alloc_new w o
theorem dP {P:Program} (t e:TypeId) (i:TypeInfo) (z:Value) (ht:P.underlying t=some (.slice e)) (hi:P.info? e=some i) (u:i.zero=some z)
  (j q:IntKind) (n c:Nat) (B:n<=c) (g:i.bytes * c<=281474976710656) (G:c<=9223372036854775807) (w:World) :
  (Instr.makeSlice t (.int j (n:Int)) (.int q (c:Int))).run P w = .ok (.slice (some ⟨w.heap.size,0,none⟩) n c) (w.alloc (.cells (madeCells z.cells (c * i.size)) e)):=by
 have D:(i.bytes:Int) * (c:Int)<=281474976710656:=by
  have h:((i.bytes * c:Nat):Int)<=281474976710656:=by omega
  rwa [Int.natCast_mul] at h
 have hr:=run_make (P:=P) w t e i z ht hi u j q n c (by omega) (by omega) D (by omega)
 simp only [Int.toNat_natCast] at hr
 exact hr
theorem aB {w:World} {g:Nat} {o:Obj} (h:w.heap[g]?=some o):g<w.heap.size:=by
 rcases Nat.lt_or_ge g w.heap.size with q|j
 ·exact q
 rw [Array.getElem?_eq_none j] at h;cases h
theorem jf {w:World} {g:Nat} {cs:Array Value} {t:TypeId} (h:w.heap[g]?=some (.cells cs t (0,0))) (j:Nat) (v:Value):(w.setCell ⟨g,j,none⟩ v).heap[g]?=some (.cells (cs.setIfInBounds j v) t (0,0)):=by
 simp [World.setCell,Array.getElem?_modify,h]
theorem aC {w w':World} (h:Below w.heap.size w w') {g:Nat} {o:Obj} (hg:w.heap[g]?=some o):w'.heap[g]?=some o:=(h.block g (aB hg)).trans hg
theorem bS {w:World} {g:Nat} {o:Obj} (j:Obj) (hg:w.heap[g]?=some o):(w.alloc j).heap[g]?=some o:=(Below.heap_alloc w j g (aB hg)).trans hg
theorem aF {w:World} {g k:Nat} {cs:Array Value} {t:TypeId} {v:Value} (h:w.heap[g]?=some (.cells cs t (0,0))) (j:cs[k]?=some v):w.cell? ⟨g,k,none⟩=some v:=by unfold World.cell?;rw [h];exact j
theorem EQ {w:World} {g:Nat} {j:Value} {r:List Value} {e:TypeId} (h:w.heap[g]?=some (.cells (j::r).toArray e (0,0))):w.cell? ⟨g,0,none⟩=some j/\g<w.heap.size:=⟨aF (k:=0) h (by simp),aB h⟩
theorem cs2 {w:World} {g:Nat} {j q:Value} {r:List Value} {e:TypeId} (h:w.heap[g]?=some (.cells (j::q::r).toArray e (0,0))):w.cell? ⟨g,0,none⟩=some j/\w.cell? ⟨g,1,none⟩=some q:=⟨aF (k:=0) h (by simp),aF (k:=1) h (by simp)⟩
theorem fZ {w:World} {g:Nat} {j q:Value} {r:List Value} {e:TypeId} (h:w.heap[g]?=some (.cells (j::q::r).toArray e (0,0))):w.cell? ⟨g,0,none⟩=some j/\w.cell? ⟨g,1,none⟩=some q/\g<w.heap.size:=⟨aF (k:=0) h (by simp),aF (k:=1) h (by simp),aB h⟩
theorem cs3 {w:World} {g:Nat} {q u j:Value} {r:List Value} {e:TypeId} (h:w.heap[g]?=some (.cells (q::u::j::r).toArray e (0,0))):w.cell? ⟨g,0,none⟩=some q/\w.cell? ⟨g,1,none⟩=some u/\w.cell? ⟨g,2,none⟩=some j:=⟨aF (k:=0) h (by simp),aF (k:=1) h (by simp),aF (k:=2) h (by simp)⟩
theorem jU {w:World} {g:Nat} {q u j:Value} {r:List Value} {e:TypeId} (h:w.heap[g]?=some (.cells (q::u::j::r).toArray e (0,0))):w.cell? ⟨g,0,none⟩=some q/\w.cell? ⟨g,1,none⟩=some u/\w.cell? ⟨g,2,none⟩=some j/\g<w.heap.size:=⟨aF (k:=0) h (by simp),aF (k:=1) h (by simp),aF (k:=2) h (by simp),aB h⟩
theorem cs4 {w:World} {g:Nat} {u z q j:Value} {r:List Value} {e:TypeId} (h:w.heap[g]?=some (.cells (u::z::q::j::r).toArray e (0,0))):w.cell? ⟨g,0,none⟩=some u/\w.cell? ⟨g,1,none⟩=some z/\w.cell? ⟨g,2,none⟩=some q/\w.cell? ⟨g,3,none⟩=some j:=⟨aF (k:=0) h (by simp),aF (k:=1) h (by simp),aF (k:=2) h (by simp),aF (k:=3) h (by simp)⟩
theorem bX {w:World} {g:Nat} {u z q j:Value} {r:List Value} {e:TypeId} (h:w.heap[g]?=some (.cells (u::z::q::j::r).toArray e (0,0))):w.cell? ⟨g,0,none⟩=some u/\w.cell? ⟨g,1,none⟩=some z/\w.cell? ⟨g,2,none⟩=some q/\w.cell? ⟨g,3,none⟩=some j/\g<w.heap.size:=⟨aF (k:=0) h (by simp),aF (k:=1) h (by simp),aF (k:=2) h (by simp),aF (k:=3) h (by simp),aB h⟩
theorem Fb {w:World} {g:Nat} {u B q j z:Value} {r:List Value} {e:TypeId} (h:w.heap[g]?=some (.cells (u::B::q::j::z::r).toArray e (0,0))):w.cell? ⟨g,0,none⟩=some u/\w.cell? ⟨g,1,none⟩=some B/\w.cell? ⟨g,2,none⟩=some q/\w.cell? ⟨g,3,none⟩=some j/\w.cell? ⟨g,4,none⟩=some z/\g<w.heap.size:=⟨aF (k:=0) h (by simp),aF (k:=1) h (by simp),aF (k:=2) h (by simp),aF (k:=3) h (by simp),aF (k:=4) h (by simp),aB h⟩
theorem FR {w:World} {g:Nat} {z D u q B j:Value} {r:List Value} {e:TypeId} (h:w.heap[g]?=some (.cells (z::D::u::q::B::j::r).toArray e (0,0))):w.cell? ⟨g,0,none⟩=some z/\w.cell? ⟨g,1,none⟩=some D/\w.cell? ⟨g,2,none⟩=some u/\w.cell? ⟨g,3,none⟩=some q/\w.cell? ⟨g,4,none⟩=some B/\w.cell? ⟨g,5,none⟩=some j/\g<w.heap.size:=⟨aF (k:=0) h (by simp),aF (k:=1) h (by simp),aF (k:=2) h (by simp),aF (k:=3) h (by simp),aF (k:=4) h (by simp),aF (k:=5) h (by simp),aB h⟩
theorem Fe {w:World} {g:Nat} {z G u q D j B:Value} {r:List Value} {e:TypeId} (h:w.heap[g]?=some (.cells (z::G::u::q::D::j::B::r).toArray e (0,0))):w.cell? ⟨g,0,none⟩=some z/\w.cell? ⟨g,1,none⟩=some G/\w.cell? ⟨g,2,none⟩=some u/\w.cell? ⟨g,3,none⟩=some q/\w.cell? ⟨g,4,none⟩=some D/\w.cell? ⟨g,5,none⟩=some j/\w.cell? ⟨g,6,none⟩=some B/\g<w.heap.size:=⟨aF (k:=0) h (by simp),aF (k:=1) h (by simp),aF (k:=2) h (by simp),aF (k:=3) h (by simp),aF (k:=4) h (by simp),aF (k:=5) h (by simp),aF (k:=6) h (by simp),aB h⟩
theorem cs8 {w:World} {g:Nat} {z H u q G j B D:Value} {r:List Value} {e:TypeId} (h:w.heap[g]?=some (.cells (z::H::u::q::G::j::B::D::r).toArray e (0,0))):w.cell? ⟨g,0,none⟩=some z/\w.cell? ⟨g,1,none⟩=some H/\w.cell? ⟨g,2,none⟩=some u/\w.cell? ⟨g,3,none⟩=some q/\w.cell? ⟨g,4,none⟩=some G/\w.cell? ⟨g,5,none⟩=some j/\w.cell? ⟨g,6,none⟩=some B/\w.cell? ⟨g,7,none⟩=some D:=⟨aF (k:=0) h (by simp),aF (k:=1) h (by simp),aF (k:=2) h (by simp),aF (k:=3) h (by simp),aF (k:=4) h (by simp),aF (k:=5) h (by simp),aF (k:=6) h (by simp),aF (k:=7) h (by simp)⟩
theorem j6 {w:World} {g:Nat} {z H u q G j B D:Value} {r:List Value} {e:TypeId} (h:w.heap[g]?=some (.cells (z::H::u::q::G::j::B::D::r).toArray e (0,0))):w.cell? ⟨g,0,none⟩=some z/\w.cell? ⟨g,1,none⟩=some H/\w.cell? ⟨g,2,none⟩=some u/\w.cell? ⟨g,3,none⟩=some q/\w.cell? ⟨g,4,none⟩=some G/\w.cell? ⟨g,5,none⟩=some j/\w.cell? ⟨g,6,none⟩=some B/\w.cell? ⟨g,7,none⟩=some D/\g<w.heap.size:=⟨aF (k:=0) h (by simp),aF (k:=1) h (by simp),aF (k:=2) h (by simp),aF (k:=3) h (by simp),aF (k:=4) h (by simp),aF (k:=5) h (by simp),aF (k:=6) h (by simp),aF (k:=7) h (by simp),aB h⟩
theorem hd2 {g j:Prop} (q:g) (u:j):Hid g/\Hid j:=⟨Hd q,Hd u⟩
theorem hd3 {q g j:Prop} (B:q) (z:g) (u:j):Hid q/\Hid g/\Hid j:=⟨Hd B,Hd z,Hd u⟩
theorem hd4 {u j q g:Prop} (D:u) (B:j) (z:q) (G:g):Hid u/\Hid j/\Hid q/\Hid g:=⟨Hd D,Hd B,Hd z,Hd G⟩
theorem hd5 {z q u g j:Prop} (H:z) (G:q) (D:u) (I:g) (B:j):Hid z/\Hid q/\Hid u/\Hid g/\Hid j:=⟨Hd H,Hd G,Hd D,Hd I,Hd B⟩
theorem hd6 {B u z j q g:Prop} (J:B) (G:u) (D:z) (K:j) (H:q) (I:g):Hid B/\Hid u/\Hid z/\Hid j/\Hid q/\Hid g:=⟨Hd J,Hd G,Hd D,Hd K,Hd H,Hd I⟩
theorem hd7 {D u B j q g z:Prop} (Q:D) (H:u) (G:B) (R:j) (I:q) (K:g) (J:z):Hid D/\Hid u/\Hid B/\Hid j/\Hid q/\Hid g/\Hid z:=⟨Hd Q,Hd H,Hd G,Hd R,Hd I,Hd K,Hd J⟩
theorem hd8 {D u B j q g z G:Prop} (R:D) (I:u) (H:B) (V:j) (J:q) (Q:g) (K:z) (U:G):Hid D/\Hid u/\Hid B/\Hid j/\Hid q/\Hid g/\Hid z/\Hid G:=⟨Hd R,Hd I,Hd H,Hd V,Hd J,Hd Q,Hd K,Hd U⟩
theorem ib {k n:Nat} (h:k<n):(0:Int)<=(k:Int)/\(k:Int)<(n:Int):=by omega
theorem dT {k n:Nat} (h:k<n):decide ((k:Int)<(n:Int))=true:=by simp;omega
theorem dF {k n:Nat} (h:n<=k):decide ((k:Int)<(n:Int))=false:=by simp;omega
theorem aW {w:World} {g:Nat} {cs:Array Value} {t:TypeId} (h:w.heap[g]?=some (.cells cs t (0,0))) (k:Nat):w.frozen? ⟨g,k,none⟩=false:=by unfold World.frozen?;rw [h];simp
theorem bU {p:Nat→Prop} {k:Nat} (h:∀j,j<k→p j) (hk:p k):∀j,j<k+1→p j:=by
 intro j hj
 rcases Nat.lt_or_ge j k with h1|h1
 ·exact h j h1
 obtain rfl:j=k:=by omega
 exact hk
theorem aL {k:IntKind} {a b:Int} (h:a=b):Ending.returned (.int k a) = .returned (.int k b):=by rw [h]
theorem cK {a b:Bool} (h:a=b):Ending.returned (.bool a) = .returned (.bool b):=by rw [h]
theorem kC:(Tryz.prog.info? 3).map (fun i=>(i.zero,i.size,i.bytes))=some (some (.int .i64 0),1,8):=by kernel_rfl
def inR (n lo hi:Int):Bool:=decide (lo<=n) && decide (n<=hi)
theorem aU {n lo hi:Int}:inR n lo hi=true↔lo<=n/\n<=hi:=by simp [inR]
theorem qc {n lo hi:Int}:inR n lo hi=false↔n<lo∨hi<n:=by
 simp only [inR,Bool.and_eq_false_iff,decide_eq_false_iff_not];omega
structure Dev where
 W:Int
 H:Int
 T:Int
 R:Int
abbrev K4 (w:World) (g:Nat) (u z q j:Value) (R:Prop):Prop:=w.cell? ⟨g,0,none⟩=some (u)/\w.cell? ⟨g,1,none⟩=some (z)/\w.cell? ⟨g,2,none⟩=some (q)/\w.cell? ⟨g,3,none⟩=some (j)/\R
abbrev K8 (w:World) (g:Nat) (z H u q G j B D:Value) (R:Prop):Prop:=w.cell? ⟨g,0,none⟩=some (z)/\w.cell? ⟨g,1,none⟩=some (H)/\w.cell? ⟨g,2,none⟩=some (u)/\w.cell? ⟨g,3,none⟩=some (q)/\w.cell? ⟨g,4,none⟩=some (G)/\w.cell? ⟨g,5,none⟩=some (j)/\w.cell? ⟨g,6,none⟩=some (B)/\w.cell? ⟨g,7,none⟩=some (D)/\R
abbrev K8e (w:World) (g:Nat) (z H u q G j B D:Value):Prop:=w.cell? ⟨g,0,none⟩=some (z)/\w.cell? ⟨g,1,none⟩=some (H)/\w.cell? ⟨g,2,none⟩=some (u)/\w.cell? ⟨g,3,none⟩=some (q)/\w.cell? ⟨g,4,none⟩=some (G)/\w.cell? ⟨g,5,none⟩=some (j)/\w.cell? ⟨g,6,none⟩=some (B)/\w.cell? ⟨g,7,none⟩=some (D)
abbrev KD (w:World) (g:Nat) (d:Dev) (R:Prop):Prop:=w.cell? ⟨g,0,none⟩=some (.int .i64 d.W)/\w.cell? ⟨g,1,none⟩=some (.int .i64 d.H)/\w.cell? ⟨g,2,none⟩=some (.int .i64 d.T)/\w.cell? ⟨g,3,none⟩=some (.int .i64 d.R)/\R
abbrev KDe (w:World) (g:Nat) (d:Dev):Prop:=w.cell? ⟨g,0,none⟩=some (.int .i64 d.W)/\w.cell? ⟨g,1,none⟩=some (.int .i64 d.H)/\w.cell? ⟨g,2,none⟩=some (.int .i64 d.T)/\w.cell? ⟨g,3,none⟩=some (.int .i64 d.R)
abbrev dv (d:Dev):Array Value:=#[.int .i64 d.W,.int .i64 d.H,.int .i64 d.T,.int .i64 d.R]
structure Reg where
 X0:Int
 Y0:Int
 X1:Int
 Y1:Int
end Go.Proofs.YtofihjoanjkdmaaGreat
