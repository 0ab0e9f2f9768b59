/- Rows of rows among the pieces, taken apart: the block of the headers, and the rows behind them. -/
import Derived.Test.YtofihjoanjkdmaaGreatLayF7
import Derived.Test.YtofihjoanjkdmaaGreatResc
import Derived.Test.YtofihjoanjkdmaaGreatSepL
namespace Go.Proofs.YtofihjoanjkdmaaGreat
set_option maxRecDepth 100000
open Go.RowKit
theorem aD.take{W w:World}{g:List Pc}(h:aD W w g)(i m:Nat){cs:List Cel}{vs:List Value}{c:Cel}{v:Value}(hi:g[i]?=some (.cels cs vs))(hc:cs[m]?=some c)(G:vs[m]?=some v) :
  aD W w (g.set i (.cels (cs.set m (.int 0)) (vs.set m (.int .i64 0)))++[.cel c v]):=by
 obtain⟨h1,F,h2,h3,u⟩:=h;have hl:=h2.lt;obtain⟨H,z,I,rfl,k1,k2⟩:=h2.at_ hi;have j:dh w cs vs z:=k1;obtain⟨c0,K,J,q,F2,e1,e2,rfl,B,D⟩:=j.at_ (List.getElem?_eq_some_iff.1 hc).1;rw[hc]at e1;rw[G]at e2;injection e1 with e1
 injection e2 with e2
 subst e1 e2;have n1:=D w (.int 0) (.int .i64 0) [] (dZ.2 ⟨rfl,rfl⟩) (fun _ _=>rfl) (fun _ _=>rfl);have n2:=k2 w (.cels (cs.set m (.int 0)) (vs.set m (.int .i64 0))) _ n1 (Nat.le_refl _) (fun _ _=>rfl) (fun _ _=>rfl);refine⟨h1,_,n2.append (show iW w [.cel c v] q from⟨q,[],(List.append_nil _).symm,B,rfl⟩),?_,fun k hk=>u k ?_⟩
 ·refine List.Perm.nodup ?_ h3;rw[List.nil_append];refine List.perm_iff_count.2 fun a=>?_;simp only[List.count_append];omega
 simp only[List.mem_append,List.nil_append]at hk ⊢
 rcases hk with(hk|(hk|hk)|hk)|hk <;> simp[hk]
theorem aD.putIn{W w:World}{q:List Pc}(h:aD W w q)(i j m:Nat)(z:i≠j){cs:List Cel}{vs:List Value}{c:Cel}{v:Value}(hi:q[i]?=some (.cels cs vs))(hm:m<cs.length)(hj:q[j]?=some (.cel c v)) :
  aD W w ((q.set j (.cels [] [])).set i (.cels (cs.set m c) (vs.set m v))):=by
 obtain⟨I,B,k1,k2,n1,n2,n3,_,_,H⟩:=h.two i j z hi hj;have u:dh w cs vs I:=k1;obtain⟨c0,R,G,Y,F2,_,_,rfl,U,K⟩:=u.at_ hm;refine H w _ (G++(B++F2)) (K w c v B k2 (fun _ _=>rfl) (fun _ _=>rfl)) ?_ (fun k hk=>?_) (iZ.refl _ _)
 ·rw[List.nodup_append,List.nodup_append]at n1 ⊢;obtain⟨D,⟨V,J,Z⟩,Q⟩:=n1;refine⟨D,⟨n2,J,fun x hx y g e=>?_⟩,fun x hx y g e=>?_⟩
  ·subst e;exact n3 x hx (by simp[g])
  subst e
  rcases List.mem_append.1 g with g|g
  ·exact n3 x g (by simp[hx])
  exact Q x hx x (by simp[g]) rfl
 simp only[List.mem_append]at hk ⊢
 rcases hk with hk|hk|hk
 ·exact .inl (.inl hk)
 ·exact .inr (.inl hk)
 exact .inl (.inr (.inr hk))
theorem aD.fuse{W w:World}{q:List Pc}(h:aD W w q)(i j:Nat)(z:i≠j){g n:Nat}{cs:List Cel}{vs:Array Value}{t:TypeId}(hi:q[i]?=some (.blk g vs t))(hj:q[j]?=some (.cels cs vs.toList))(hn:vs.size=n)(hm:n<=maxLen) :
  aD W w ((q.set j (.cels [] [])).set i (.cel (.row t 1 cs) (.slice (some ⟨g,0,none⟩) n n))):=by
 obtain⟨G,B,k1,k2,n1,n2,n3,_,_,D⟩:=h.two i j z hi hj;obtain⟨rfl,_,u,_⟩:=k1;refine D w _ ([g]++B) (dV.2 ⟨_,n,n,vs.toList,B,rfl,⟨by simp[hn],.inr ⟨g,n,vs,rfl,Nat.zero_le _,u,Nat.le_refl _,hm,by simp[hn],?_⟩⟩,rfl,k2⟩) ?_ (fun k hk=>?_) (iZ.refl _ _)
 ·rw[Nat.mul_one,List.take_of_length_le (by simp[hn])]
 ·rw[List.singleton_append,List.nodup_cons];exact⟨fun hm=>n3 g hm (by simp),n2⟩
 rcases List.mem_append.1 hk with hk|hk
 ·exact .inl hk
 exact .inr (.inl hk)
theorem wO(L:List (List Int))(m:Nat)(r:List Int):(L.set m r).map aI=(L.map aI).set m (aI r):=List.map_set ..
theorem aD.rowAt{W w:World}{q:List Pc}(h:aD W w q)(i m:Nat){L:List (List Int)}{vs:Array Value}(hi:q[i]?=some (.cels (L.map aI) vs.toList))(hm:m<L.length) :
  ∃B g j,vs[m]?=some (.slice B g j)/\(L[m]?.getD []).length=g/\aD W w (q.set i (.cels ((L.map aI).set m (.int 0)) (vs.toList.set m (.int .i64 0)))++[.cel (aI (L[m]?.getD [])) (.slice B g j)]):=by
 obtain⟨G,k1,_⟩:=h.part i hi;have u:dh w (L.map aI) vs.toList G:=k1;have hc:(L.map aI)[m]?=some (aI (L[m]?.getD [])):=by rw[List.getElem?_map,List.getElem?_eq_getElem hm];rfl
 obtain⟨c0,D,I,J,F2,e1,e2,_,H,_⟩:=u.at_ (List.getElem?_eq_some_iff.1 hc).1;rw[hc]at e1;injection e1 with e1
 subst e1;have z:RdC w w.heap.size (aI (L[m]?.getD [])) D:=H.rd;obtain⟨B,g,j,rfl⟩:=gz (e:=3) (s:=1) z;refine⟨B,g,j,by rw[←Array.getElem?_toList];exact e2,z.ints.1,h.take i m hi hc e2⟩
theorem aD.rowBack{W w:World}{g:List Pc}(h:aD W w g)(i j m:Nat)(q:i≠j){L:List (List Int)}{vs:Array Value}{r:List Int}{v:Value}(hi:g[i]?=some (.cels ((L.map aI).set m (.int 0)) (vs.toList.set m (.int .i64 0))))(hm:m<L.length)(hj:g[j]?=some (.cel (aI r) v)) :
  aD W w ((g.set j (.cels [] [])).set i (.cels ((L.set m r).map aI) (vs.setIfInBounds m v).toList)):=by
 have h1:=h.putIn i j m q hi (by simpa using hm) hj;rw[List.set_set,List.set_set]at h1;rw[wO,Array.toList_setIfInBounds];exact h1
theorem aD.rowPut{W w:World}{g:List Pc}(h:aD W w g)(i j m:Nat)(q:i≠j){L:List (List Int)}{vs:Array Value}{r:List Int}{v:Value}(hi:g[i]?=some (.cels (L.map aI) vs.toList))(hm:m<L.length)(hj:g[j]?=some (.cel (aI r) v)) :
  aD W w ((g.set j (.cels [] [])).set i (.cels ((L.set m r).map aI) (vs.setIfInBounds m v).toList)):=by
 have h1:=h.putIn i j m q hi (by simpa using hm) hj;rw[wO,Array.toList_setIfInBounds];exact h1
theorem aD.rowsN{W w:World}{j:List Pc}(h:aD W w j)(i:Nat){L:List (List Int)}{vs:Array Value}(hi:j[i]?=some (.cels (L.map aI) vs.toList)):vs.size=L.length:=by
 obtain⟨q,k1,_⟩:=h.part i hi;have g:dh w (L.map aI) vs.toList q:=k1;have h2:=g.len
 simpa using h2
theorem iW.perm{w:World}{B qs:List Pc}(hp:B.Perm qs):∀{F:List Nat},iW w B F→∃G,iW w qs G/\F.Perm G:=by
 induction hp with
 | nil=>exact fun h=>⟨_,h,List.Perm.refl _⟩
 | cons p _ ih =>
  rintro F ⟨g,F2,rfl,h1,h2⟩;obtain⟨G,k1,k2⟩:=ih h2
  exact⟨g++G,⟨g,G,rfl,h1,k1⟩,k2.append_left g⟩
 | swap p q _ =>
  rintro F ⟨g,_,rfl,h1,F2,j,rfl,h2,h3⟩;refine⟨F2++(g++j),⟨F2,g++j,rfl,h2,g,j,rfl,h1,h3⟩,?_⟩;rw[←List.append_assoc,←List.append_assoc]
  exact List.perm_append_comm.append_right j
 | trans _ _ u z =>
  intro F h;obtain⟨G,k1,k2⟩:=u h;obtain⟨H,D,I⟩:=z k1;exact⟨H,D,k2.trans I⟩
theorem aD.perm{W w:World}{g qs:List Pc}(h:aD W w g)(hp:g.Perm qs):aD W w qs:=by
 obtain⟨h1,F,h2,h3,j⟩:=h;obtain⟨G,k1,k2⟩:=h2.perm hp;exact⟨h1,G,k1,k2.nodup h3,fun k hk=>j k (k2.mem_iff.2 hk)⟩
theorem xQ(w:World):∀n:Nat,dh w (List.replicate n (aI [])) (List.replicate n (.slice none 0 0)) []
 | 0=>dH.2 ⟨rfl,rfl⟩
 | n+1=>by
  rw[List.replicate_succ,List.replicate_succ];exact bU.2 ⟨_,_,[],[],rfl,rfl,gy.2 ⟨Own.nil,rfl⟩,xQ w n⟩
theorem aD.pushNils{W w:World}{g:List Pc}(h:aD W w g)(n:Nat):aD W (w.alloc (.cells (List.replicate n (Value.slice none 0 0)).toArray 26)) (g++[.blk w.heap.size (List.replicate n (Value.slice none 0 0)).toArray 26]++[.cels ((List.replicate n []).map aI) (List.replicate n (Value.slice none 0 0))]) :=
 (h.pushBlk _ _).push (Below.refl _ _) (G:=[]) (show dh _ _ _ [] from by rw[List.map_replicate];exact xQ _ n) (by simp) (by simp)
theorem um(n:Nat)(hn:n<=1048576)(w:World):(Instr.makeSlice 50 (.int .i64 (n:Int)) (.int .i64 (n:Int))).run Tryz.prog w=.ok (.slice (some ⟨w.heap.size,0,none⟩) n n) (w.alloc (.cells (List.replicate n (Value.slice none 0 0)).toArray 26)):=by
 obtain⟨u,hi,q,g,j⟩:=info_parts qm;have h:=dQ (P:=Tryz.prog) 50 26 u _ Tryz.underlying50 hi q .i64 .i64 n n (Nat.le_refl _) (by rw[j];omega) (by omega) w;rw[g,Nat.mul_one]at h;rw[h]
 congr 3
 refine Array.ext' ?_;exact toList_madeCells_one _ _
abbrev Jl(n:Nat):Array Value:=(List.replicate n (Value.slice none 0 0)).toArray
def I5(W:World)(ln sn:Nat)(p:Value)(w':World):Prop:=∃j g q,p=.pointer (some ⟨j,0,none⟩)/\aD W w' [.blk j #[.slice (some ⟨g,0,none⟩) ln ln,.slice (some ⟨q,0,none⟩) sn sn] 52,.blk g (Jl ln) 26,.cels ((List.replicate ln []).map aI) (Jl ln).toList,.blk q (Jl sn) 26,.cels ((List.replicate sn []).map aI) (Jl sn).toList]
theorem I5.drew{W w':World}{ln sn:Nat}{p:Value}(h:I5 W ln sn p w'):I5 W ln sn p w'.drew:=by
 obtain⟨j,g,q,h1,h2⟩:=h;exact⟨j,g,q,h1,h2.drew⟩
theorem Chg.refl'(lo hi:Nat)(w:World):Chg lo hi w w:=⟨rfl,rfl,rfl,Nat.le_refl _,fun _ _ _=>rfl⟩
theorem aD.lowerC{V W w w':World}{j:List Pc}{lo hi:Nat}(h:aD W w j)(hb:Below V.heap.size V W)(h1:V.heap.size<=lo)(h2:hi<=W.heap.size)(ho:Chg lo hi w w'):aD V w' j:=by
 obtain⟨q,F,k2,k3,g⟩:=h;exact⟨xP (aA hb q) ho h1,F,k2.keep ho.size fun k hk=>ho.block k (k2.lt k hk) (.inr (Nat.le_trans h2 (g k hk))),k3,fun k hk=>Nat.le_trans hb.size (g k hk)⟩
end Go.Proofs.YtofihjoanjkdmaaGreat
