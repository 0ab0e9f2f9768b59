/- Rows of rows among the pieces, taken apart: the block of the headers, and the rows behind them. -/
import Derived.Test.YtofihjoanjkdmaaGreatLayF7
import Derived.Test.YtofihjoanjkdmaaGreatResc
import Derived.Test.YtofihjoanjkdmaaGreatSepL
namespace Go.Proofs.YtofihjoanjkdmaaGreat
set_option maxRecDepth 100000
open Go.RowKit
theorem aJ.take {W w:World} {ps:List Pc} (h:aJ W w ps) (i m:Nat) {cs:List Cel} {vs:List Value} {c:Cel} {v:Value} (hi:ps[i]?=some (.cels cs vs)) (hc:cs[m]?=some c) (z:vs[m]?=some v) :
  aJ W w (ps.set i (.cels (cs.set m (.int 0)) (vs.set m (.int .i64 0)))++[.cel c v]):=by
 obtain ⟨h1,F,h2,h3,h4⟩:=h
 have hl:=h2.lt
 obtain ⟨J,B,I,rfl,D,q⟩:=h2.at_ hi
 have g:fB w cs vs B:=D
 obtain ⟨G,K,H,j,F2,e1,e2,rfl,h5,u⟩:=g.at_ (List.getElem?_eq_some_iff.1 hc).1
 rw [hc] at e1
 rw [z] at e2
 injection e1 with e1
 injection e2 with e2
 subst e1 e2
 have n1:=u w (.int 0) (.int .i64 0) [] (ed.2 ⟨rfl,rfl⟩) (fun _ _=>rfl) (fun _ _=>rfl)
 have n2:=q w (.cels (cs.set m (.int 0)) (vs.set m (.int .i64 0))) _ n1 (Nat.le_refl _) (fun _ _=>rfl) (fun _ _=>rfl)
 refine ⟨h1,_,n2.append (show jG w [.cel c v] j from ⟨j,[],(List.append_nil _).symm,h5,rfl⟩),?_,fun k hk=>h4 k ?_⟩
 ·refine List.Perm.nodup ?_ h3
  rw [List.nil_append]
  refine List.perm_iff_count.2 fun a=>?_
  simp only [List.count_append]
  omega
 simp only [List.mem_append,List.nil_append] at hk ⊢
 rcases hk with (hk|(hk|hk)|hk)|hk <;> simp [hk]
abbrev Bz (n:Nat):Array Value:=(List.replicate n (Value.slice none 0 0)).toArray
def BJ (W:World) (ln sn:Nat) (p:Value) (w':World):Prop:=∃q g j,p = .pointer (some ⟨q,0,none⟩)/\aJ W w' [.blk q #[.slice (some ⟨g,0,none⟩) ln ln,.slice (some ⟨j,0,none⟩) sn sn] 52,.blk g (Bz ln) 26,.cels ((List.replicate ln []).map aH) (Bz ln).toList,.blk j (Bz sn) 26,.cels ((List.replicate sn []).map aH) (Bz sn).toList]
theorem BJ.drew {W w':World} {ln sn:Nat} {p:Value} (h:BJ W ln sn p w'):BJ W ln sn p w'.drew:=by
 obtain ⟨q,g,j,h1,h2⟩:=h
 exact ⟨q,g,j,h1,h2.drew⟩
theorem Chg.refl' (lo hi:Nat) (w:World):Chg lo hi w w:=⟨rfl,rfl,rfl,Nat.le_refl _,fun _ _ _=>rfl⟩
theorem aJ.lowerC {V W w w':World} {ps:List Pc} {lo hi:Nat} (h:aJ W w ps) (j:Below V.heap.size V W) (h1:V.heap.size<=lo) (h2:hi<=W.heap.size) (ho:Chg lo hi w w'):aJ V w' ps:=by
 obtain ⟨u,F,g,z,q⟩:=h
 exact ⟨kT (aA j u) ho h1,F,g.keep ho.size fun k hk=>ho.block k (g.lt k hk) (.inr (Nat.le_trans h2 (q k hk))),z,fun k hk=>Nat.le_trans j.size (q k hk)⟩
end Go.Proofs.YtofihjoanjkdmaaGreat
