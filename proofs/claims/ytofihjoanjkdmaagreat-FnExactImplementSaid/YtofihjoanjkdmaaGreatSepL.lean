/- A list of numbers appended to a row of numbers among the pieces. -/
import Derived.Test.YtofihjoanjkdmaaGreatSep
namespace Go.Proofs.YtofihjoanjkdmaaGreat
set_option maxRecDepth 100000
open Go.RowKit
theorem sK{P:Program}(w:World)(base:Nat)(t u e:TypeId)(i:TypeInfo)(size:Nat)(ht:P.underlying t=some (.slice e))(hi:P.info? e=some i)
  (v:Value) (n:Nat) (xs:List Value) (j:w.ownsRow base e size v n xs) (B:Oh) (c:Nat):(Builtin.append_ #[t,t] u #[v,.slice B 0 c]).run P w=.ok v w:=by
 cases B with
 | none=>exact qJ w base t u e i size ht hi v n xs j c
 | some z =>
  rcases j.2 with⟨rfl,rfl⟩|⟨g,cap,cur,rfl,_,_,q,_⟩
  ·simp[Builtin.append_,run_underlying ht,sizeOf,typeInfo,hi,Builtin.lenOf,Builtin.firstCells,loadCells,loadCellsFrom]
  simp[Builtin.append_,run_underlying ht,sizeOf,typeInfo,hi,Builtin.lenOf,Builtin.firstCells,q,storeCells,loadCells,loadCellsFrom]
section
variable {ops:Array Oper} {rest:List Oper} {o:Oper} {a:Act} {Q:Exit→Act→World→Prop} {K:Act→World→Prop} {E:Prop} {w W:World}
theorem zz(s x:Operand)
  (ho:o.op=.call { callee := .builtin .append,args:=#[s,x],argTypes:=#[26,26] })
  (q:List Pc) (S:aD W w q) (i:Nat) (A:Oh) (n c:Nat) (xs:List Int) (B:Oh) (m d:Nat) (ys:List Int) (hi:q[i]?=some (.cel (aI xs) (.slice A n c))) (hs:a.eval s=.slice A n c) (hx:a.eval x=.slice B m d) (hr:bT w B m ys)
  (hn:n+m<=1099511627776)
  (h:∀A' Z w',aD W w' (q.set i (.cel (aI (xs++ys)) (.slice A' (n+m) Z)))→w.heap.size<=w'.heap.size→K (a.put o.dst (.slice A' (n+m) Z)) w'):Oper.wp Tryz.prog o a w K Q:=by
 obtain⟨V,D,I,J,U⟩:=info_parts iE
 rcases Nat.eq_zero_or_pos m with h0|h0
 ·subst h0;have hy:ys=[]:=List.eq_nil_of_length_eq_zero hr.1;subst hy;have G:=sK (P:=Tryz.prog) w 0 26 o.type 3 V 1 Tryz.underlying26 D _ _ _ (qF q S i n c A xs hi) B d
  have H:q.set i (.cel (aI (xs++[])) (.slice A (n+0) c))=q:=by
   rw[List.append_nil];refine List.ext_getElem? fun j=>?_;rw[List.getElem?_set]
   split
   ·rename_i e;subst e
    split
    ·exact hi.symm
    rename_i ah;rw[List.getElem?_eq_none (by omega)]
   rfl
  unfold Oper.wp execOp;simp only[ho,resolve,invoke,builtin,Sem.run_bind,Sem.run_pure,Result.andThen_ok,List.map_toArray,List.map_cons,List.map_nil,hs,hx,G];exact h A c w (by rw[H];exact S) (Nat.le_refl _)
 obtain⟨b,o',rfl,_,hc⟩:=hr.2 h0
 refine wp_append_lies w s x 26 ho 0 3 V (.int .i64 0) 1 8 Tryz.underlying26 D I J U rfl (by omega) (.slice A n c) n (xs.map (Value.int .i64)) hs (qF q S i n c A xs hi) ⟨b,o',none⟩ m d (ys.map (Value.int .i64)) hx (by simp[hr.1])
  (fun j u z=>?_) (fun u z=>by simp at z;obtain⟨y,_,rfl⟩:=z;rfl) h0 (by unfold maxLen;omega) (by omega) (Nat.zero_le _) _ rfl
  fun g cap w' g1 R Y _=>by rw[fu]at R Y;exact h _ cap w' (rZ q S i n (n+m) c A xs ys hi g1 R Y) R.size
 have hj:j<m:=by
  have:=(List.getElem?_eq_some_iff.1 z).1
  simpa [hr.1]using this
 rw[Addr.add_lit,hc j hj];have:j<ys.length:=by rw[hr.1];exact hj
 simp[this]at z;simp[this,←z]
theorem eX(u:o.guard=none)(s x:Operand)
  (ho:o.op=.call { callee := .builtin .append,args:=#[s,x],argTypes:=#[26,26] })
  (g:List Pc) (S:aD W w g) (i:Nat) (A:Oh) (n c:Nat) (xs:List Int) (B:Oh) (m d:Nat) (ys:List Int) (hi:g[i]?=some (.cel (aI xs) (.slice A n c))) (hs:a.eval s=.slice A n c) (hx:a.eval x=.slice B m d) (hr:bT w B m ys)
  (hn:n+m<=1099511627776)
  (h:∀q j w',aD W w' (g.set i (.cel (aI (xs++ys)) (.slice q (n+m) j)))→w.heap.size<=w'.heap.size→wpList Tryz.prog ops Q rest (a.put o.dst (.slice q (n+m) j)) w'):wpList Tryz.prog ops Q (o::rest) a w :=
 wpList_plain u fun _ G=>zz s x ho g S i A n c xs B m d ys hi hs hx hr hn fun q j w' D z=>G _ _ (h q j w' D z)
theorem nk(j:o.guard=none)(s x:Operand)
  (ho:o.op=.call { callee := .builtin .append,args:=#[s,x],argTypes:=#[26,26] })
  (g:List Pc) (S:aD W w g) (i:Nat) (A:Oh) (n c:Nat) (xs:List Int) (B:Oh) (m d:Nat) (ys:List Int) (hi:g[i]?=some (.cel (aI xs) (.slice A n c))) (hs:a.eval s=.slice A n c) (hx:a.eval x=.slice B m d) (hr:bT w B m ys)
  (hn:n+m<=1099511627776)
  (h:∀u q w',aD W w' (g.set i (.cel (aI (xs++ys)) (.slice u (n+m) q)))→w.heap.size<=w'.heap.size→K (a.put o.dst (.slice u (n+m) q)) w'):if Region.wanted o (yielded ops a.tmps)=true then Oper.wp Tryz.prog o a w K Q else E:=by
 have z:Region.wanted o (yielded ops a.tmps)=true:=by simp[Region.wanted,j]
 rw[if_pos z];exact zz s x ho g S i A n c xs B m d ys hi hs hx hr hn h
end
end Go.Proofs.YtofihjoanjkdmaaGreat
