/- Rows of rows among the pieces, taken apart: the block of the headers, and the rows behind them. -/
import Derived.Test.YtofihjoanjkdmaaGreatLayF7
import Derived.Test.YtofihjoanjkdmaaGreatResc
import Derived.Test.YtofihjoanjkdmaaGreatSepL
namespace Go.Proofs.YtofihjoanjkdmaaGreat
set_option maxRecDepth 100000
open Go.RowKit
theorem aJ.take {W w:World} {g:List Pc} (h:aJ W w g) (i m:Nat) {cs:List Cel} {vs:List Value} {c:Cel} {v:Value} (hi:g[i]?=some (.cels cs vs)) (hc:cs[m]?=some c) (u:vs[m]?=some v) :
  aJ W w (g.set i (.cels (cs.set m (.int 0)) (vs.set m (.int .i64 0)))++[.cel c v]):=by
 obtain ⟨h1,F,h2,h3,h4⟩:=h
 have hl:=h2.lt
 obtain ⟨H,B,K,rfl,D,G⟩:=h2.at_ hi
 have j:ek w cs vs B:=D
 obtain ⟨J,I,Q,q,F2,e1,e2,rfl,h5,z⟩:=j.at_ (List.getElem?_eq_some_iff.1 hc).1
 rw [hc] at e1
 rw [u] at e2
 injection e1 with e1
 injection e2 with e2
 subst e1 e2
 have n1:=z w (.int 0) (.int .i64 0) [] (fU.2 ⟨rfl,rfl⟩) (fun _ _=>rfl) (fun _ _=>rfl)
 have n2:=G w (.cels (cs.set m (.int 0)) (vs.set m (.int .i64 0))) _ n1 (Nat.le_refl _) (fun _ _=>rfl) (fun _ _=>rfl)
 refine ⟨h1,_,n2.append (show iO w [.cel c v] q from ⟨q,[],(List.append_nil _).symm,h5,rfl⟩),?_,fun k hk=>h4 k ?_⟩
 ·refine List.Perm.nodup ?_ h3
  rw [List.nil_append]
  refine List.perm_iff_count.2 fun a=>?_
  simp only [List.count_append]
  omega
 simp only [List.mem_append,List.nil_append] at hk ⊢
 rcases hk with (hk|(hk|hk)|hk)|hk <;> simp [hk]
theorem aJ.putIn {W w:World} {u:List Pc} (h:aJ W w u) (i j m:Nat) (B:i≠j) {cs:List Cel} {vs:List Value} {c:Cel} {v:Value} (hi:u[i]?=some (.cels cs vs)) (J:m<cs.length) (hj:u[j]?=some (.cel c v)) :
  aJ W w ((u.set j (.cels [] [])).set i (.cels (cs.set m c) (vs.set m v))):=by
 obtain ⟨K,D,Q,V,n1,n2,n3,_,_,H⟩:=h.two i j B hi hj
 have z:ek w cs vs K:=Q
 obtain ⟨c0,v0,R,Fm,F2,_,_,rfl,h5,I⟩:=z.at_ J
 refine H w _ (R++(D++F2)) (I w c v D V (fun _ _=>rfl) (fun _ _=>rfl)) ?_ (fun k hk=>?_) (iU.refl _ _)
 ·rw [List.nodup_append,List.nodup_append] at n1 ⊢
  obtain ⟨G,⟨a2,U,Z⟩,Y⟩:=n1
  refine ⟨G,⟨n2,U,fun x q y g e=>?_⟩,fun x q y g e=>?_⟩
  ·subst e
   exact n3 x q (by simp [g])
  subst e
  rcases List.mem_append.1 g with g|g
  ·exact n3 x g (by simp [q])
  exact Y x q x (by simp [g]) rfl
 simp only [List.mem_append] at hk ⊢
 rcases hk with hk|hk|hk
 ·exact .inl (.inl hk)
 ·exact .inr (.inl hk)
 exact .inl (.inr (.inr hk))
theorem aJ.fuse {W w:World} {q:List Pc} (h:aJ W w q) (i j:Nat) (B:i≠j) {g n:Nat} {cs:List Cel} {vs:Array Value} {t:TypeId} (hi:q[i]?=some (.blk g vs t)) (hj:q[j]?=some (.cels cs vs.toList)) (hn:vs.size=n) (u:n<=maxLen) :
  aJ W w ((q.set j (.cels [] [])).set i (.cel (.row t 1 cs) (.slice (some ⟨g,0,none⟩) n n))):=by
 obtain ⟨J,D,H,I,n1,n2,n3,_,_,G⟩:=h.two i j B hi hj
 obtain ⟨rfl,_,z,_⟩:=H
 refine G w _ ([g]++D) (eY.2 ⟨_,n,n,vs.toList,D,rfl,⟨by simp [hn],.inr ⟨g,n,vs,rfl,Nat.zero_le _,z,Nat.le_refl _,u,by simp [hn],?_⟩⟩,rfl,I⟩) ?_ (fun k hk=>?_) (iU.refl _ _)
 ·rw [Nat.mul_one,List.take_of_length_le (by simp [hn])]
 ·rw [List.singleton_append,List.nodup_cons]
  exact ⟨fun u=>n3 g u (by simp),n2⟩
 rcases List.mem_append.1 hk with hk|hk
 ·exact .inl hk
 exact .inr (.inl hk)
theorem sP (L:List (List Int)) (m:Nat) (r:List Int):(L.set m r).map aG=(L.map aG).set m (aG r):=List.map_set ..
theorem aJ.rowAt {W w:World} {q:List Pc} (h:aJ W w q) (i m:Nat) {L:List (List Int)} {vs:Array Value} (hi:q[i]?=some (.cels (L.map aG) vs.toList)) (G:m<L.length) :
  ∃B g j,vs[m]?=some (.slice B g j)/\(L[m]?.getD []).length=g/\aJ W w (q.set i (.cels ((L.map aG).set m (.int 0)) (vs.toList.set m (.int .i64 0)))++[.cel (aG (L[m]?.getD [])) (.slice B g j)]):=by
 obtain ⟨H,I,_⟩:=h.part i hi
 have u:ek w (L.map aG) vs.toList H:=I
 have hc:(L.map aG)[m]?=some (aG (L[m]?.getD [])):=by rw [List.getElem?_map,List.getElem?_eq_getElem G];rfl
 obtain ⟨J,D,Q,K,F2,e1,e2,_,h5,_⟩:=u.at_ (List.getElem?_eq_some_iff.1 hc).1
 rw [hc] at e1
 injection e1 with e1
 subst e1
 have z:RdC w w.heap.size (aG (L[m]?.getD [])) D:=h5.rd
 obtain ⟨B,g,j,rfl⟩:=eX (e:=3) (s:=1) z
 refine ⟨B,g,j,by rw [←Array.getElem?_toList];exact e2,z.ints.1,h.take i m hi hc e2⟩
theorem aJ.rowBack {W w:World} {g:List Pc} (h:aJ W w g) (i j m:Nat) (q:i≠j) {L:List (List Int)} {vs:Array Value} {r:List Int} {v:Value} (hi:g[i]?=some (.cels ((L.map aG).set m (.int 0)) (vs.toList.set m (.int .i64 0)))) (u:m<L.length) (hj:g[j]?=some (.cel (aG r) v)) :
  aJ W w ((g.set j (.cels [] [])).set i (.cels ((L.set m r).map aG) (vs.setIfInBounds m v).toList)):=by
 have h1:=h.putIn i j m q hi (by simpa using u) hj
 rw [List.set_set,List.set_set] at h1
 rw [sP,Array.toList_setIfInBounds]
 exact h1
theorem aJ.rowPut {W w:World} {g:List Pc} (h:aJ W w g) (i j m:Nat) (q:i≠j) {L:List (List Int)} {vs:Array Value} {r:List Int} {v:Value} (hi:g[i]?=some (.cels (L.map aG) vs.toList)) (u:m<L.length) (hj:g[j]?=some (.cel (aG r) v)) :
  aJ W w ((g.set j (.cels [] [])).set i (.cels ((L.set m r).map aG) (vs.setIfInBounds m v).toList)):=by
 have h1:=h.putIn i j m q hi (by simpa using u) hj
 rw [sP,Array.toList_setIfInBounds]
 exact h1
theorem aJ.rowsN {W w:World} {j:List Pc} (h:aJ W w j) (i:Nat) {L:List (List Int)} {vs:Array Value} (hi:j[i]?=some (.cels (L.map aG) vs.toList)):vs.size=L.length:=by
 obtain ⟨q,u,_⟩:=h.part i hi
 have g:ek w (L.map aG) vs.toList q:=u
 have h2:=g.len
 simpa using h2
theorem iO.perm {w:World} {I qs:List Pc} (J:I.Perm qs):∀{F:List Nat},iO w I F→∃G,iO w qs G/\F.Perm G:=by
 induction J with
 | nil=>exact fun h=>⟨_,h,List.Perm.refl _⟩
 | cons p _ ih =>
  rintro F ⟨g,F2,rfl,h1,h2⟩
  obtain ⟨G,B,D⟩:=ih h2
  exact ⟨g++G,⟨g,G,rfl,h1,B⟩,D.append_left g⟩
 | swap p q _ =>
  rintro F ⟨g,_,rfl,h1,F2,j,rfl,h2,h3⟩
  refine ⟨F2++(g++j),⟨F2,g++j,rfl,h2,g,j,rfl,h1,h3⟩,?_⟩
  rw [←List.append_assoc,←List.append_assoc]
  exact List.perm_append_comm.append_right j
 | trans _ _ z u =>
  intro F h
  obtain ⟨G,B,D⟩:=z h
  obtain ⟨H,Q,K⟩:=u B
  exact ⟨H,Q,D.trans K⟩
theorem aJ.perm {W w:World} {g qs:List Pc} (h:aJ W w g) (u:g.Perm qs):aJ W w qs:=by
 obtain ⟨h1,F,h2,h3,h4⟩:=h
 obtain ⟨G,q,j⟩:=h2.perm u
 exact ⟨h1,G,q,j.nodup h3,fun k hk=>h4 k (j.mem_iff.2 hk)⟩
theorem xB (w:World):∀n:Nat,ek w (List.replicate n (aG [])) (List.replicate n (.slice none 0 0)) []
 | 0=>fF.2 ⟨rfl,rfl⟩
 | n+1=>by
  rw [List.replicate_succ,List.replicate_succ]
  exact dR.2 ⟨_,_,[],[],rfl,rfl,gB.2 ⟨Own.nil,rfl⟩,xB w n⟩
theorem aJ.pushNils {W w:World} {g:List Pc} (h:aJ W w g) (n:Nat):aJ W (w.alloc (.cells (List.replicate n (Value.slice none 0 0)).toArray 26)) (g++[.blk w.heap.size (List.replicate n (Value.slice none 0 0)).toArray 26]++[.cels ((List.replicate n []).map aG) (List.replicate n (Value.slice none 0 0))]) :=
 (h.pushBlk _ _).push (Below.refl _ _) (G:=[]) (show ek _ _ _ [] from by rw [List.map_replicate];exact xB _ n) (by simp) (by simp)
theorem lU (n:Nat) (hn:n<=1048576) (w:World):(Instr.makeSlice 50 (.int .i64 (n:Int)) (.int .i64 (n:Int))).run Tryz.prog w = .ok (.slice (some ⟨w.heap.size,0,none⟩) n n) (w.alloc (.cells (List.replicate n (Value.slice none 0 0)).toArray 26)):=by
 obtain ⟨u,hi,j,g,q⟩:=info_parts tN
 have h:=dP (P:=Tryz.prog) 50 26 u _ Tryz.underlying50 hi j .i64 .i64 n n (Nat.le_refl _) (by rw [q];omega) (by omega) w
 rw [g,Nat.mul_one] at h
 rw [h]
 congr 3
 refine Array.ext' ?_
 exact toList_madeCells_one _ _
abbrev kS (n:Nat):Array Value:=(List.replicate n (Value.slice none 0 0)).toArray
def ni (W:World) (ln sn:Nat) (p:Value) (w':World):Prop:=∃j q g,p = .pointer (some ⟨j,0,none⟩)/\aJ W w' [.blk j #[.slice (some ⟨q,0,none⟩) ln ln,.slice (some ⟨g,0,none⟩) sn sn] 52,.blk q (kS ln) 26,.cels ((List.replicate ln []).map aG) (kS ln).toList,.blk g (kS sn) 26,.cels ((List.replicate sn []).map aG) (kS sn).toList]
theorem ni.drew {W w':World} {ln sn:Nat} {p:Value} (h:ni W ln sn p w'):ni W ln sn p w'.drew:=by
 obtain ⟨j,q,g,h1,h2⟩:=h
 exact ⟨j,q,g,h1,h2.drew⟩
theorem Bh {W w:World} (h:aJ W w []) (ln sn:Nat):ni W ln sn (.pointer (some ⟨w.heap.size+1+1,0,none⟩)) (((w.alloc (.cells (kS ln) 26)).alloc (.cells (kS sn) 26)).alloc (.cells #[.slice (some ⟨w.heap.size,0,none⟩) ln ln,.slice (some ⟨w.heap.size+1,0,none⟩) sn sn] 52)):=by
 have h1:=(((h.pushNils ln).pushNils sn).pushBlk #[.slice (some ⟨w.heap.size,0,none⟩) ln ln,.slice (some ⟨w.heap.size+1,0,none⟩) sn sn] 52)
 simp only [World.size_alloc] at h1
 refine ⟨w.heap.size+1+1,w.heap.size,w.heap.size+1,rfl,h1.perm ?_⟩
 exact List.perm_append_comm (l₁:=[_,_,_,_]) (l₂:=[_])
theorem Bi {W w:World} (h:aJ W w []) (ln sn:Nat):ni W ln sn (.pointer (some ⟨w.heap.size+1+1,0,none⟩)) (((w.alloc (.cells (kS sn) 26)).alloc (.cells (kS ln) 26)).alloc (.cells #[.slice (some ⟨w.heap.size+1,0,none⟩) ln ln,.slice (some ⟨w.heap.size,0,none⟩) sn sn] 52)):=by
 have h1:=(((h.pushNils sn).pushNils ln).pushBlk #[.slice (some ⟨w.heap.size+1,0,none⟩) ln ln,.slice (some ⟨w.heap.size,0,none⟩) sn sn] 52)
 simp only [World.size_alloc] at h1
 refine ⟨w.heap.size+1+1,w.heap.size+1,w.heap.size,rfl,h1.perm ?_⟩
 exact (List.perm_append_comm (l₁:=[_,_,_,_]) (l₂:=[_])).trans (List.Perm.cons _ (List.perm_append_comm (l₁:=[_,_]) (l₂:=[_,_])))
theorem Bj {W w:World} (h:aJ W w []) (ln sn:Nat):ni W ln sn (.pointer (some ⟨w.heap.size+1,0,none⟩)) (((w.alloc (.cells (kS ln) 26)).alloc (.cells #[.slice (some ⟨w.heap.size,0,none⟩) ln ln,.slice (some ⟨w.heap.size+1+1,0,none⟩) sn sn] 52)).alloc (.cells (kS sn) 26)):=by
 have h1:=(((h.pushNils ln).pushBlk #[.slice (some ⟨w.heap.size,0,none⟩) ln ln,.slice (some ⟨w.heap.size+1+1,0,none⟩) sn sn] 52).pushNils sn)
 simp only [World.size_alloc] at h1
 refine ⟨w.heap.size+1,w.heap.size,w.heap.size+1+1,rfl,h1.perm ?_⟩
 exact List.perm_middle (l₁:=[_,_]) (l₂:=[_,_])
theorem Bl {W w:World} (h:aJ W w []) (ln sn:Nat):ni W ln sn (.pointer (some ⟨w.heap.size+1,0,none⟩)) (((w.alloc (.cells (kS sn) 26)).alloc (.cells #[.slice (some ⟨w.heap.size+1+1,0,none⟩) ln ln,.slice (some ⟨w.heap.size,0,none⟩) sn sn] 52)).alloc (.cells (kS ln) 26)):=by
 have h1:=(((h.pushNils sn).pushBlk #[.slice (some ⟨w.heap.size+1+1,0,none⟩) ln ln,.slice (some ⟨w.heap.size,0,none⟩) sn sn] 52).pushNils ln)
 simp only [World.size_alloc] at h1
 refine ⟨w.heap.size+1,w.heap.size+1+1,w.heap.size,rfl,h1.perm ?_⟩
 exact (List.perm_middle (l₁:=[_,_]) (l₂:=[_,_])).trans (List.Perm.cons _ (List.perm_append_comm (l₁:=[_,_]) (l₂:=[_,_])))
theorem Bn {W w:World} (h:aJ W w []) (ln sn:Nat):ni W ln sn (.pointer (some ⟨w.heap.size,0,none⟩)) (((w.alloc (.cells #[.slice (some ⟨w.heap.size+1,0,none⟩) ln ln,.slice (some ⟨w.heap.size+1+1,0,none⟩) sn sn] 52)).alloc (.cells (kS ln) 26)).alloc (.cells (kS sn) 26)):=by
 have h1:=(((h.pushBlk #[.slice (some ⟨w.heap.size+1,0,none⟩) ln ln,.slice (some ⟨w.heap.size+1+1,0,none⟩) sn sn] 52).pushNils ln).pushNils sn)
 simp only [World.size_alloc] at h1
 refine ⟨w.heap.size,w.heap.size+1,w.heap.size+1+1,rfl,h1.perm ?_⟩
 exact List.Perm.refl _
theorem Bo {W w:World} (h:aJ W w []) (ln sn:Nat):ni W ln sn (.pointer (some ⟨w.heap.size,0,none⟩)) (((w.alloc (.cells #[.slice (some ⟨w.heap.size+1+1,0,none⟩) ln ln,.slice (some ⟨w.heap.size+1,0,none⟩) sn sn] 52)).alloc (.cells (kS sn) 26)).alloc (.cells (kS ln) 26)):=by
 have h1:=(((h.pushBlk #[.slice (some ⟨w.heap.size+1+1,0,none⟩) ln ln,.slice (some ⟨w.heap.size+1,0,none⟩) sn sn] 52).pushNils sn).pushNils ln)
 simp only [World.size_alloc] at h1
 refine ⟨w.heap.size,w.heap.size+1+1,w.heap.size+1,rfl,h1.perm ?_⟩
 exact List.Perm.cons _ (List.perm_append_comm (l₁:=[_,_]) (l₂:=[_,_]))
theorem Chg.refl' (lo hi:Nat) (w:World):Chg lo hi w w:=⟨rfl,rfl,rfl,Nat.le_refl _,fun _ _ _=>rfl⟩
theorem uH (w:World) (o:Obj):w.drew.alloc o=(w.alloc o).drew:=rfl
theorem aJ.lowerC {V W w w':World} {g:List Pc} {lo hi:Nat} (h:aJ W w g) (j:Below V.heap.size V W) (h1:V.heap.size<=lo) (h2:hi<=W.heap.size) (ho:Chg lo hi w w'):aJ V w' g:=by
 obtain ⟨z,F,q,B,u⟩:=h
 exact ⟨kR (aA j z) ho h1,F,q.keep ho.size fun k hk=>ho.block k (q.lt k hk) (.inr (Nat.le_trans h2 (u k hk))),B,fun k hk=>Nat.le_trans j.size (u k hk)⟩
end Go.Proofs.YtofihjoanjkdmaaGreat
