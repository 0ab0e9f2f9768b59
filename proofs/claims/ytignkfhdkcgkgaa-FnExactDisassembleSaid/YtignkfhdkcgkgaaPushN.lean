/- append of several integers to a row of the call's own. -/
import Derived.Test.YtignkfhdkcgkgaaCopy
namespace Go.Proofs.Ytignkfhdkcgkgaa
set_option maxRecDepth 100000
open Go.RowKit

theorem pushN_news {w:World} {news:List Int} (j:Nat) (u:Value) (hu:(news.map (Value.int .i64))[j]?=some u):(w.alloc (.cells (arr news) 3)).cell? ((⟨w.heap.size,0,none⟩:Addr).add j)=some u:=by
 have e1:(⟨w.heap.size,0,none⟩:Addr).add j=⟨w.heap.size,j,none⟩:=by rw [Addr.add_lit];simp
 rw [e1]
 unfold World.cell?
 rw [heap_new]
 simpa [arr] using hu
theorem pushN_one {news:List Int} (u:Value) (hu:u∈news.map (Value.int .i64)):u.oneCell'=true:=by
 simp at hu
 obtain ⟨y,_,rfl⟩:=hu
 rfl
theorem pushN_below {base:Nat} {A:Option Addr} {n c:Nat} {xs news:List Int} {w w' W:World} (hown:Own base w A n c xs) (hbase:base≤w.heap.size) (hB:Below base W w) (h2:(w.alloc (.cells (arr news) 3)).grownBy w' (Value.slice A n c).ownBlock):Below base W w':=by
 rw [ownBlock_slice] at h2
 refine (hB.alloc hbase _).grown h2 (by simp;omega) ?_
 intro k hk
 cases A with
 | none=>cases hk
 | some a' =>
  injection hk with hk
  subst hk
  exact (hown.lt a' rfl).1
theorem wpList_pushN {ops:Array Oper} {rest:List Oper} {o:Oper} {a:Act} {Q:Exit→Act→World→Prop} {w W:World} (hgd:o.guard=none) (s x:Operand)
  (ho:o.op = .call { callee := .builtin .append,args:=#[s,x],argTypes:=#[28,28] })
  (base:Nat) (A:Option Addr) (n c:Nat) (xs news:List Int) (m:Nat) (hs:a.eval s = .slice A n c) (hown:Own base w A n c xs) (hx:a.eval x = .slice (some ⟨w.heap.size,0,none⟩) m m) (hm:news.length=m) (hm0:0<m)
  (hn:n+m≤1099511627776) (hbase:base≤w.heap.size) (hB:Below base W w)
  (h:∀g cap w',Own base w' (some ⟨g,0,none⟩) (n+m) cap (xs++news)→Below base W w'→(w.alloc (.cells (arr news) 3)).grownBy w' (A.map (·.block))→(A.map (·.block)=some g∨g=w.heap.size+1) →
   wpList Try.prog ops Q rest (a.put o.dst (.slice (some ⟨g,0,none⟩) (n+m) cap)) w'):wpList Try.prog ops Q (o :: rest) a (w.alloc (.cells (arr news) 3)):=by
 obtain ⟨i0,hi,hz0,hz1,hz2⟩:=info_parts int_info
 have hl:=hown.lt
 refine wpList_append_lies (w.alloc (.cells (arr news) 3)) hgd s x 28 ho base 3 i0 (.int .i64 0) 1 8 Try.underlying28 hi hz0 hz1 hz2 rfl (by omega) (.slice A n c) n (xs.map (Value.int .i64)) hs
  (ownsRow_block hown fun a ha=>Below.heap_alloc _ _ _ (hl a ha).2) ⟨w.heap.size,0,none⟩ m m (news.map (Value.int .i64)) hx (by simp [hm])
  pushN_news pushN_one hm0 (by unfold maxLen;omega) (by omega) (by simp;omega) (w.heap.size+1) (by simp) ?_
 intro g cap w' h1 h2 h3 _
 have h2':=h2
 rw [ownBlock_slice] at h2' h3
 exact h g cap w' (by simpa [Own] using h1) (pushN_below hown hbase hB h2) h2' h3
end Go.Proofs.Ytignkfhdkcgkgaa
