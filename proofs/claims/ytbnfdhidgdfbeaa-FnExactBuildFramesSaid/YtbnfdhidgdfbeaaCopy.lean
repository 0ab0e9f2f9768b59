/- Appending lists and rows; the copies of lists of lists. -/
import Derived.Test.YtbnfdhidgdfbeaaRow2W
namespace Go.Proofs.Ytbnfdhidgdfbeaa
set_option maxRecDepth 100000
open Go.RowKit

theorem own_grown_lo {base:Nat} {W w w':World} {A:Option Addr} {lo:Nat} (hB:Below lo W w) (hg:w.grownBy w' (A.map (·.block))) (hA:∀a,A=some a→base≤a.block) (hb:lo≤base) (hs:lo≤w.heap.size):Below lo W w' :=
 hB.grown hg hs (by
  cases A with
  | none=>simp
  | some a =>
   have:=hA a rfl
   simp only [Option.map_some,Option.some.injEq]
   rintro k rfl
   omega)

/-- append of one row to a slice of slices of the call's own. -/
theorem wpList_push2 {ops:Array Oper} {rest:List Oper} {o:Oper} {a:Act} {Q:Exit→Act→World→Prop} {w W:World} (hgd:o.guard=none) (s x:Operand)
  (ho:o.op = .call { callee := .builtin .append,args:=#[s,x],argTypes:=#[26,26] })
  (lo hi:Nat) (A:Option Addr) (n c:Nat) (xss:List (List Int)) (base:Nat) (A1:Option Addr) (m1 c1:Nat) (xs:List Int) (hs:a.eval s = .slice A n c) (hown:Own2 lo hi w A n c xss) (hrow:Own base w A1 m1 c1 xs) (hx:a.eval x = .slice (some ⟨w.heap.size,0,none⟩) 1 1)
  (hn:n≤1099511627776) (hhb:hi≤base) (hlb:lo≤base) (hhw:hi≤w.heap.size) (hlw:lo≤w.heap.size) (hB:Below lo W w)
  (h:∀g cap w',Own2 lo w'.heap.size w' (some ⟨g,0,none⟩) (n+1) cap (xss++[xs])→Below lo W w' →
   wpList Try.prog ops Q rest (a.put o.dst (.slice (some ⟨g,0,none⟩) (n+1) cap)) w'):wpList Try.prog ops Q (o :: rest) a (w.alloc (.cells #[.slice A1 m1 c1] 44)):=by
 obtain ⟨i0,hi0,hz0,hz1,hz2⟩:=info_parts slc_info
 obtain ⟨vs,h1,h2,h3⟩:=hown
 have hl:=ownsRow_lt h1
 refine wpList_append_lies (w.alloc (.cells #[.slice A1 m1 c1] 44)) hgd s x 26 ho lo 44 i0 (.slice none 0 0) 1 24 Try.underlying26 hi0 hz0 hz1 hz2 rfl (by omega) (.slice A n c) n (vs.map SV.val) hs
  (ownsRow_block h1 fun a ha=>Below.heap_alloc _ _ _ (hl a ha).2) ⟨w.heap.size,0,none⟩ 1 1 [.slice A1 m1 c1] hx rfl
  (fun j u hu=>?_) (fun u hu=>?_) (by omega) (by unfold maxLen;omega) (by omega) (by simp;omega) (w.heap.size+1) (by simp) ?_
 ·rcases j with _|j
  ·simp at hu
   subst hu
   rw [add_lit0']
   unfold World.cell?
   rw [heap_new]
   rfl
  ·simp at hu
 ·simp at hu;subst hu;rfl
 ·intro g cap w' k1 k2 k3 k4
  rw [ownBlock_slice] at k2 k3
  have hkeep:∀k e cs f,k<w.heap.size→w.heap[k]?=some (.cells cs e f)→e=3→w'.heap[k]?=w.heap[k]?:=by
   intro k e cs f hk hh he
   refine (k2.block k (by simp;omega) ?_).trans (Below.heap_alloc _ _ _ hk)
   cases hA:A with
   | none=>simp
   | some a' =>
    simp only [Option.map_some,ne_eq,Option.some.injEq]
    rintro rfl
    rcases h1.2 with ⟨hv,_⟩|⟨g',cap',cur',hv,_,hh',_⟩
    ·injection hv with hv _ _
     rw [hA] at hv
     cases hv
    ·injection hv with hv _ _
     rw [hA] at hv
     injection hv with hv
     subst hv
     rw [hh] at hh'
     injection hh' with hh'
     injection hh' with _ hty
     rw [he] at hty
     exact absurd hty (by decide)
  have hin:Inner lo hi w' vs xss:=h3.keep fun k e cs f hk _ _ hh he=>hkeep k e cs f hk hh he
  have hro:Own base w' A1 m1 c1 xs:=ownsRow_block hrow fun a ha=>by
   have hla:=hrow.lt a ha
   rcases hrow.2 with ⟨hv,_⟩|⟨g',cap',cur',hv,_,hh',_⟩
   ·injection hv with hv _ _
    rw [hv] at ha
    cases ha
   ·injection hv with hv _ _
    rw [hv] at ha
    injection ha with ha
    subst ha
    exact hkeep g' _ _ _ hla.2 hh' rfl
  have hsz:w.heap.size≤w'.heap.size:=by have:=k2.size;simp at this;omega
  have hsn:=hin.snoc hro hhb hlb
  rw [Nat.max_eq_right (by omega)] at hsn
  refine h g cap w' ⟨vs++[(A1,m1,c1)],by simpa [SV.val] using k1,by rintro a ⟨⟩;exact k4,hsn⟩ ?_
  exact own_grown_lo (base:=lo) (hB.alloc hlw _) k2 (fun a ha=>(hl a ha).1) (Nat.le_refl _) (by simp;omega)
end Go.Proofs.Ytbnfdhidgdfbeaa
