/- Words for memory: slices that read as lists, owned rows, and how they are kept. -/
import Derived.BigQuiet
import Derived.Deep.AppendLies
import Derived.Deep.QuietTactic
import Derived.Deep.RegionHeld3
import Derived.Deep.RegionWith
import Derived.Laws.MakeOwn
import Derived.Lib.Hide
import Derived.Maps.AppendAt
import Derived.Test.YtofihjoanjkdmaaGreatRows
import Derived.WalkKit
import Derived.WalkSpells
namespace Go.Proofs.YtofihjoanjkdmaaGreat
set_option maxRecDepth 100000
open Go.RowKit
theorem Hd {p:Prop} (h:p):Hid p:=Lib.hid h
theorem aA {a b c:World} (h:Below a.heap.size a b) (k:Below b.heap.size b c):Below a.heap.size a c:=h.trans (k.mono h.size)
theorem bE {B:Nat} {a w:World} (h:Below B a w) (n:Nat):Below B a (w.drewN n):=⟨h.os,h.tape,h.output,h.size,h.block⟩
theorem aB {a b:World} (h:Below a.heap.size a b) (o:Obj):Below a.heap.size a (b.alloc o):=h.alloc h.size o
theorem aK {a b:World} (h:Below a.heap.size a b) {k:Nat} (hk:k<a.heap.size):k<b.heap.size:=Nat.lt_of_lt_of_le hk h.size
theorem bG {W g:World} (j:Below W.heap.size W g):(∀b o,b<W.heap.size→g.cell? ⟨b,o,none⟩=W.cell? ⟨b,o,none⟩)/\(∀b o,b<W.heap.size→g.frozen? ⟨b,o,none⟩=W.frozen? ⟨b,o,none⟩) :=
 ⟨fun b o h=>j.cell (p:=⟨b,o,none⟩) h,fun b o h=>j.frozen (p:=⟨b,o,none⟩) h⟩
def dP (w:World) (A:Option Addr) (n:Nat) (xs:List Int):Prop :=
 xs.length=n/\(0<n→∃b o,A=some ⟨b,o,none⟩/\b<w.heap.size/\∀j,j<n→w.cell? ⟨b,o+j,none⟩=some (.int .i64 (xs[j]?.getD 0)))
theorem dP.below {w w':World} {A:Option Addr} {n:Nat} {xs:List Int} (h:dP w A n xs) (q:Below w.heap.size w w'):dP w' A n xs:=by
 refine ⟨h.1,fun hn=>?_⟩
 obtain ⟨b,o,e,g,hc⟩:=h.2 hn
 exact ⟨b,o,e,aK q g,fun j hj=>(q.cell (p:=⟨b,o+j,none⟩) g).trans (hc j hj)⟩
def Own (base:Nat) (w:World) (A:Option Addr) (n c:Nat) (xs:List Int):Prop :=
 w.ownsRow base 3 1 (.slice A n c) n (xs.map (Value.int .i64))
theorem Own.len {base:Nat} {w:World} {A:Option Addr} {n c:Nat} {xs:List Int} (h:Own base w A n c xs):xs.length=n:=by
 have:=h.1;simpa using this
theorem Own.lt {base:Nat} {w:World} {A:Option Addr} {n c:Nat} {xs:List Int} (h:Own base w A n c xs):∀a,A=some a→base<=a.block/\a.block<w.heap.size:=by
 rintro a rfl
 rcases h.2 with ⟨q,_⟩|⟨g,D,cur,q,B,z,_⟩
 ·cases q
 injection q with hA
 injection hA with hA
 subst hA
 refine ⟨B,?_⟩
 rcases Nat.lt_or_ge g w.heap.size with j|u
 ·exact j
 rw [Array.getElem?_eq_none u] at z;cases z
theorem fF {w w':World} {base:Nat} {e:TypeId} {size:Nat} {A:Option Addr} {n c m:Nat} {xs:List Value} (h:w.ownsRow base e size (.slice A n c) m xs)
  (hk:∀a,A=some a→w'.heap[a.block]?=w.heap[a.block]?):w'.ownsRow base e size (.slice A n c) m xs:=by
 refine ⟨h.1,?_⟩
 rcases h.2 with h0|⟨g,j,cur,q,z,u,r⟩
 ·exact .inl h0
 refine .inr ⟨g,j,cur,q,z,?_,r⟩
 injection q with hA
 rw [←u]
 exact hk _ hA
theorem Own.below {base:Nat} {w w':World} {A:Option Addr} {n c:Nat} {xs:List Int} (h:Own base w A n c xs) (g:Below w.heap.size w w'):Own base w' A n c xs :=
 fF h fun a j=>g.block _ (h.lt a j).2
theorem Own.more {base j:Nat} {w:World} {A:Option Addr} {n c:Nat} {xs:List Int} (h:Own base w A n c xs) (u:j<=base):Own j w A n c xs:=by
 refine ⟨h.1,?_⟩
 rcases h.2 with h0|⟨g,q,cur,z,hg,r⟩
 ·exact .inl h0
 exact .inr ⟨g,q,cur,z,Nat.le_trans u hg,r⟩
theorem Own.ints {base:Nat} {w:World} {A:Option Addr} {n c:Nat} {xs:List Int} (h:Own base w A n c xs):dP w A n xs:=by
 refine ⟨h.len,fun hn=>?_⟩
 have hl:=h.lt
 rcases h.2 with ⟨_,h0⟩|⟨g,z,cur,G,I,H,B,u,D,ht⟩
 ·omega
 injection G with hA
 subst hA
 refine ⟨g,0,rfl,(hl _ rfl).2,fun j hj=>?_⟩
 have q:(xs.map (Value.int .i64))[j]?=some (.int .i64 (xs[j]?.getD 0)):=by
  have:j<xs.length:=by have:=h.len;omega
  simp [this]
 rw [←ht,List.getElem?_take] at q
 simp only [Nat.mul_one] at q
 rw [if_pos hj] at q
 simpa [World.cell?,H] using q
theorem Own.nil {base:Nat} {w:World}:Own base w none 0 0 []:=⟨rfl,.inl ⟨rfl,rfl⟩⟩
theorem Own.made {w:World} {base g:Nat} {n:Nat} {cur:Array Value} {xs:List Int} (q:w.heap[g]?=some (.cells cur 3 (0,0))) (j:base<=g) (hn:n<=maxLen) (hc:cur.toList=xs.map (Value.int .i64)) (hl:xs.length=n):Own base w (some ⟨g,0,none⟩) n n xs:=by
 have u:cur.size=n:=by rw [←Array.length_toList,hc,List.length_map,hl]
 refine ⟨by simp [hl],.inr ⟨g,n,cur,rfl,j,q,Nat.le_refl _,hn,by omega,?_⟩⟩
 rw [hc,List.take_of_length_le (by simp [hl])]
def arr (xs:List Int):Array Value:=(xs.map (Value.int .i64)).toArray
theorem nu (n:Nat):madeCells #[Value.int .i64 0] n=arr (List.replicate n 0):=by
 apply Array.ext'
 rw [toList_madeCells_one]
 simp [arr]
theorem Own.arr {w:World} {base g n:Nat} {xs:List Int} (q:w.heap[g]?=some (.cells (arr xs) 3 (0,0))) (j:base<=g) (hn:n<=maxLen) (hl:xs.length=n):Own base w (some ⟨g,0,none⟩) n n xs :=
 Own.made q j hn (by simp [Go.Proofs.YtofihjoanjkdmaaGreat.arr]) hl
theorem aI (w:World) (o:Obj):(w.alloc o).heap[w.heap.size]?=some o:=heap_alloc_new w o
theorem bv {P:Program} (t e:TypeId) (i:TypeInfo) (z:Value) (ht:P.underlying t=some (.slice e)) (hi:P.info? e=some i) (G:i.zero=some z)
  (q j:IntKind) (n c:Nat) (B:n<=c) (g:i.bytes * c<=281474976710656) (u:c<=9223372036854775807) (w:World) :
  (Instr.makeSlice t (.int q (n:Int)) (.int j (c:Int))).run P w = .ok (.slice (some ⟨w.heap.size,0,none⟩) n c) (w.alloc (.cells (madeCells z.cells (c * i.size)) e)):=by
 have D:(i.bytes:Int) * (c:Int)<=281474976710656:=by
  have h:((i.bytes * c:Nat):Int)<=281474976710656:=by omega
  rwa [Int.natCast_mul] at h
 have hr:=run_make (P:=P) w t e i z ht hi G q j n c (by omega) (by omega) D (by omega)
 simp only [Int.toNat_natCast] at hr
 exact hr
theorem aC {w:World} {g:Nat} {o:Obj} (h:w.heap[g]?=some o):g<w.heap.size:=by
 rcases Nat.lt_or_ge g w.heap.size with j|q
 ·exact j
 rw [Array.getElem?_eq_none q] at h;cases h
theorem iK {w:World} {g:Nat} {cs:Array Value} {t:TypeId} (h:w.heap[g]?=some (.cells cs t (0,0))) (j:Nat) (v:Value):(w.setCell ⟨g,j,none⟩ v).heap[g]?=some (.cells (cs.setIfInBounds j v) t (0,0)):=by
 simp [World.setCell,Array.getElem?_modify,h]
theorem aD {w w':World} (h:Below w.heap.size w w') {g:Nat} {o:Obj} (hg:w.heap[g]?=some o):w'.heap[g]?=some o:=(h.block g (aC hg)).trans hg
theorem aW {w:World} {g:Nat} {o:Obj} (j:Obj) (hg:w.heap[g]?=some o):(w.alloc j).heap[g]?=some o:=(Below.heap_alloc w j g (aC hg)).trans hg
theorem jg {w:World} {g:Nat} {o:Obj} (h:w.heap.size=g):(w.alloc o).heap[g]?=some o:=by subst h;exact aI w o
theorem aF {w:World} {g k:Nat} {cs:Array Value} {t:TypeId} {v:Value} (h:w.heap[g]?=some (.cells cs t (0,0))) (j:cs[k]?=some v):w.cell? ⟨g,k,none⟩=some v:=by unfold World.cell?;rw [h];exact j
theorem wO {w:World} {g:Nat} {j:Value} {r:List Value} {e:TypeId} (h:w.heap[g]?=some (.cells (j::r).toArray e (0,0))):w.cell? ⟨g,0,none⟩=some j/\g<w.heap.size:=⟨aF (k:=0) h (by simp),aC h⟩
theorem cs2 {w:World} {g:Nat} {q j:Value} {r:List Value} {e:TypeId} (h:w.heap[g]?=some (.cells (q::j::r).toArray e (0,0))):w.cell? ⟨g,0,none⟩=some q/\w.cell? ⟨g,1,none⟩=some j:=⟨aF (k:=0) h (by simp),aF (k:=1) h (by simp)⟩
theorem jv {w:World} {g:Nat} {q j:Value} {r:List Value} {e:TypeId} (h:w.heap[g]?=some (.cells (q::j::r).toArray e (0,0))):w.cell? ⟨g,0,none⟩=some q/\w.cell? ⟨g,1,none⟩=some j/\g<w.heap.size:=⟨aF (k:=0) h (by simp),aF (k:=1) h (by simp),aC h⟩
theorem cs3 {w:World} {g:Nat} {q j u:Value} {r:List Value} {e:TypeId} (h:w.heap[g]?=some (.cells (q::j::u::r).toArray e (0,0))):w.cell? ⟨g,0,none⟩=some q/\w.cell? ⟨g,1,none⟩=some j/\w.cell? ⟨g,2,none⟩=some u:=⟨aF (k:=0) h (by simp),aF (k:=1) h (by simp),aF (k:=2) h (by simp)⟩
theorem jX {w:World} {g:Nat} {q j u:Value} {r:List Value} {e:TypeId} (h:w.heap[g]?=some (.cells (q::j::u::r).toArray e (0,0))):w.cell? ⟨g,0,none⟩=some q/\w.cell? ⟨g,1,none⟩=some j/\w.cell? ⟨g,2,none⟩=some u/\g<w.heap.size:=⟨aF (k:=0) h (by simp),aF (k:=1) h (by simp),aF (k:=2) h (by simp),aC h⟩
theorem cs4 {w:World} {g:Nat} {q j z u:Value} {r:List Value} {e:TypeId} (h:w.heap[g]?=some (.cells (q::j::z::u::r).toArray e (0,0))):w.cell? ⟨g,0,none⟩=some q/\w.cell? ⟨g,1,none⟩=some j/\w.cell? ⟨g,2,none⟩=some z/\w.cell? ⟨g,3,none⟩=some u:=⟨aF (k:=0) h (by simp),aF (k:=1) h (by simp),aF (k:=2) h (by simp),aF (k:=3) h (by simp)⟩
theorem cO {w:World} {g:Nat} {q j z u:Value} {r:List Value} {e:TypeId} (h:w.heap[g]?=some (.cells (q::j::z::u::r).toArray e (0,0))):w.cell? ⟨g,0,none⟩=some q/\w.cell? ⟨g,1,none⟩=some j/\w.cell? ⟨g,2,none⟩=some z/\w.cell? ⟨g,3,none⟩=some u/\g<w.heap.size:=⟨aF (k:=0) h (by simp),aF (k:=1) h (by simp),aF (k:=2) h (by simp),aF (k:=3) h (by simp),aC h⟩
theorem F6 {w:World} {g:Nat} {u j B z q:Value} {r:List Value} {e:TypeId} (h:w.heap[g]?=some (.cells (u::j::B::z::q::r).toArray e (0,0))):w.cell? ⟨g,0,none⟩=some u/\w.cell? ⟨g,1,none⟩=some j/\w.cell? ⟨g,2,none⟩=some B/\w.cell? ⟨g,3,none⟩=some z/\w.cell? ⟨g,4,none⟩=some q/\g<w.heap.size:=⟨aF (k:=0) h (by simp),aF (k:=1) h (by simp),aF (k:=2) h (by simp),aF (k:=3) h (by simp),aF (k:=4) h (by simp),aC h⟩
theorem F7 {w:World} {g:Nat} {u j D B q z:Value} {r:List Value} {e:TypeId} (h:w.heap[g]?=some (.cells (u::j::D::B::q::z::r).toArray e (0,0))):w.cell? ⟨g,0,none⟩=some u/\w.cell? ⟨g,1,none⟩=some j/\w.cell? ⟨g,2,none⟩=some D/\w.cell? ⟨g,3,none⟩=some B/\w.cell? ⟨g,4,none⟩=some q/\w.cell? ⟨g,5,none⟩=some z/\g<w.heap.size:=⟨aF (k:=0) h (by simp),aF (k:=1) h (by simp),aF (k:=2) h (by simp),aF (k:=3) h (by simp),aF (k:=4) h (by simp),aF (k:=5) h (by simp),aC h⟩
theorem F4 {w:World} {g:Nat} {z j G D u B q:Value} {r:List Value} {e:TypeId} (h:w.heap[g]?=some (.cells (z::j::G::D::u::B::q::r).toArray e (0,0))):w.cell? ⟨g,0,none⟩=some z/\w.cell? ⟨g,1,none⟩=some j/\w.cell? ⟨g,2,none⟩=some G/\w.cell? ⟨g,3,none⟩=some D/\w.cell? ⟨g,4,none⟩=some u/\w.cell? ⟨g,5,none⟩=some B/\w.cell? ⟨g,6,none⟩=some q/\g<w.heap.size:=⟨aF (k:=0) h (by simp),aF (k:=1) h (by simp),aF (k:=2) h (by simp),aF (k:=3) h (by simp),aF (k:=4) h (by simp),aF (k:=5) h (by simp),aF (k:=6) h (by simp),aC h⟩
theorem cs8 {w:World} {g:Nat} {z j H G u B q D:Value} {r:List Value} {e:TypeId} (h:w.heap[g]?=some (.cells (z::j::H::G::u::B::q::D::r).toArray e (0,0))):w.cell? ⟨g,0,none⟩=some z/\w.cell? ⟨g,1,none⟩=some j/\w.cell? ⟨g,2,none⟩=some H/\w.cell? ⟨g,3,none⟩=some G/\w.cell? ⟨g,4,none⟩=some u/\w.cell? ⟨g,5,none⟩=some B/\w.cell? ⟨g,6,none⟩=some q/\w.cell? ⟨g,7,none⟩=some D:=⟨aF (k:=0) h (by simp),aF (k:=1) h (by simp),aF (k:=2) h (by simp),aF (k:=3) h (by simp),aF (k:=4) h (by simp),aF (k:=5) h (by simp),aF (k:=6) h (by simp),aF (k:=7) h (by simp)⟩
theorem mK {w:World} {g:Nat} {z j H G u B q D:Value} {r:List Value} {e:TypeId} (h:w.heap[g]?=some (.cells (z::j::H::G::u::B::q::D::r).toArray e (0,0))):w.cell? ⟨g,0,none⟩=some z/\w.cell? ⟨g,1,none⟩=some j/\w.cell? ⟨g,2,none⟩=some H/\w.cell? ⟨g,3,none⟩=some G/\w.cell? ⟨g,4,none⟩=some u/\w.cell? ⟨g,5,none⟩=some B/\w.cell? ⟨g,6,none⟩=some q/\w.cell? ⟨g,7,none⟩=some D/\g<w.heap.size:=⟨aF (k:=0) h (by simp),aF (k:=1) h (by simp),aF (k:=2) h (by simp),aF (k:=3) h (by simp),aF (k:=4) h (by simp),aF (k:=5) h (by simp),aF (k:=6) h (by simp),aF (k:=7) h (by simp),aC h⟩
theorem hd2 {j g:Prop} (u:j) (q:g):Hid j/\Hid g:=⟨Hd u,Hd q⟩
theorem hd3 {q g j:Prop} (B:q) (u:g) (z:j):Hid q/\Hid g/\Hid j:=⟨Hd B,Hd u,Hd z⟩
theorem hd4 {u g q j:Prop} (G:u) (z:g) (B:q) (D:j):Hid u/\Hid g/\Hid q/\Hid j:=⟨Hd G,Hd z,Hd B,Hd D⟩
theorem hd5 {z j u q g:Prop} (I:z) (B:j) (G:u) (H:q) (D:g):Hid z/\Hid j/\Hid u/\Hid q/\Hid g:=⟨Hd I,Hd B,Hd G,Hd H,Hd D⟩
theorem hd6 {B q z u g j:Prop} (K:B) (D:q) (I:z) (J:u) (G:g) (H:j):Hid B/\Hid q/\Hid z/\Hid u/\Hid g/\Hid j:=⟨Hd K,Hd D,Hd I,Hd J,Hd G,Hd H⟩
theorem hd7 {D q B u g j z:Prop} (Q:D) (G:q) (J:B) (K:u) (H:g) (I:j) (R:z):Hid D/\Hid q/\Hid B/\Hid u/\Hid g/\Hid j/\Hid z:=⟨Hd Q,Hd G,Hd J,Hd K,Hd H,Hd I,Hd R⟩
theorem hd8 {D q B u g j z G:Prop} (U:D) (H:q) (K:B) (Q:u) (I:g) (J:j) (V:z) (R:G):Hid D/\Hid q/\Hid B/\Hid u/\Hid g/\Hid j/\Hid z/\Hid G:=⟨Hd U,Hd H,Hd K,Hd Q,Hd I,Hd J,Hd V,Hd R⟩
theorem ib {k n:Nat} (h:k<n):(0:Int)<=(k:Int)/\(k:Int)<(n:Int):=by omega
theorem dT {k n:Nat} (h:k<n):decide ((k:Int)<(n:Int))=true:=by simp;omega
theorem dF {k n:Nat} (h:n<=k):decide ((k:Int)<(n:Int))=false:=by simp;omega
theorem aX {w:World} {g:Nat} {cs:Array Value} {t:TypeId} (h:w.heap[g]?=some (.cells cs t (0,0))) (k:Nat):w.frozen? ⟨g,k,none⟩=false:=by unfold World.frozen?;rw [h];simp
theorem bW {p:Nat→Prop} {k:Nat} (h:∀j,j<k→p j) (hk:p k):∀j,j<k+1→p j:=by
 intro j hj
 rcases Nat.lt_or_ge j k with h1|h1
 ·exact h j h1
 obtain rfl:j=k:=by omega
 exact hk
theorem aL {k:IntKind} {a b:Int} (h:a=b):Ending.returned (.int k a) = .returned (.int k b):=by rw [h]
theorem dC {a b:Bool} (h:a=b):Ending.returned (.bool a) = .returned (.bool b):=by rw [h]
theorem jL:(Tryz.prog.info? 3).map (fun i=>(i.zero,i.size,i.bytes))=some (some (.int .i64 0),1,8):=by kernel_rfl
def inR (n lo hi:Int):Bool:=decide (lo<=n) && decide (n<=hi)
theorem aR {n lo hi:Int}:inR n lo hi=true↔lo<=n/\n<=hi:=by simp [inR]
theorem qj {n lo hi:Int}:inR n lo hi=false↔n<lo∨hi<n:=by
 simp only [inR,Bool.and_eq_false_iff,decide_eq_false_iff_not];omega
structure Dev where
 W:Int
 H:Int
 T:Int
 R:Int
abbrev K3 (w:World) (g:Nat) (q j u:Value) (R:Prop):Prop:=w.cell? ⟨g,0,none⟩=some (q)/\w.cell? ⟨g,1,none⟩=some (j)/\w.cell? ⟨g,2,none⟩=some (u)/\R
abbrev K3e (w:World) (g:Nat) (q j u:Value):Prop:=w.cell? ⟨g,0,none⟩=some (q)/\w.cell? ⟨g,1,none⟩=some (j)/\w.cell? ⟨g,2,none⟩=some (u)
abbrev K4 (w:World) (g:Nat) (q j z u:Value) (R:Prop):Prop:=w.cell? ⟨g,0,none⟩=some (q)/\w.cell? ⟨g,1,none⟩=some (j)/\w.cell? ⟨g,2,none⟩=some (z)/\w.cell? ⟨g,3,none⟩=some (u)/\R
abbrev K5 (w:World) (g:Nat) (u j B z q:Value) (R:Prop):Prop:=w.cell? ⟨g,0,none⟩=some (u)/\w.cell? ⟨g,1,none⟩=some (j)/\w.cell? ⟨g,2,none⟩=some (B)/\w.cell? ⟨g,3,none⟩=some (z)/\w.cell? ⟨g,4,none⟩=some (q)/\R
abbrev K8e (w:World) (g:Nat) (z j H G u B q D:Value):Prop:=w.cell? ⟨g,0,none⟩=some (z)/\w.cell? ⟨g,1,none⟩=some (j)/\w.cell? ⟨g,2,none⟩=some (H)/\w.cell? ⟨g,3,none⟩=some (G)/\w.cell? ⟨g,4,none⟩=some (u)/\w.cell? ⟨g,5,none⟩=some (B)/\w.cell? ⟨g,6,none⟩=some (q)/\w.cell? ⟨g,7,none⟩=some (D)
abbrev KD (w:World) (g:Nat) (d:Dev) (R:Prop):Prop:=w.cell? ⟨g,0,none⟩=some (.int .i64 d.W)/\w.cell? ⟨g,1,none⟩=some (.int .i64 d.H)/\w.cell? ⟨g,2,none⟩=some (.int .i64 d.T)/\w.cell? ⟨g,3,none⟩=some (.int .i64 d.R)/\R
abbrev KDe (w:World) (g:Nat) (d:Dev):Prop:=w.cell? ⟨g,0,none⟩=some (.int .i64 d.W)/\w.cell? ⟨g,1,none⟩=some (.int .i64 d.H)/\w.cell? ⟨g,2,none⟩=some (.int .i64 d.T)/\w.cell? ⟨g,3,none⟩=some (.int .i64 d.R)
abbrev dv (d:Dev):Array Value:=#[.int .i64 d.W,.int .i64 d.H,.int .i64 d.T,.int .i64 d.R]
structure Reg where
 X0:Int
 Y0:Int
 X1:Int
 Y1:Int
end Go.Proofs.YtofihjoanjkdmaaGreat
