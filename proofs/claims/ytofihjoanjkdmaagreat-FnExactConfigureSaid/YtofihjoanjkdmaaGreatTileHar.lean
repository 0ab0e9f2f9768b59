/- append of several integers to a row of the call's own. -/
import Derived.Test.YtofihjoanjkdmaaGreatCopy
import Derived.Test.YtofihjoanjkdmaaGreatOwn
namespace Go.Proofs.YtofihjoanjkdmaaGreat
set_option maxHeartbeats 2000000
set_option maxRecDepth 100000
open Go.RowKit
def Bl (es:List Le):Prop:=es.length<=1099511627776/\∀i:Nat,(es[i]?.getD Le.zero).sel.length<=1099511627776
def Fw (ts:List bC):Prop:=ts.length<=1099511627776/\∀i:Nat,(ts[i]?.getD bC.zero).mux.length<=1099511627776/\Bl (ts[i]?.getD bC.zero).les
theorem zL {w:World} {c:Cel} {v:Value} (h:RdC w w.heap.size c v):RdC w.drew w.drew.heap.size c v:=RdC.keep (w:=w) (w':=w.drew) (B:=w.heap.size) (B':=w.heap.size) (Nat.le_refl _) (fun _ _=>rfl) h
theorem uJ (A B:Option Addr) (n m c d:Nat) (x y z:Int) (xs:List Int) (w:World) (hA:dP w A n xs) (q:dP w B m xs) (hn:n<=1099511627776) :
  Calls Tryz.prog 238 #[.agg #[.slice A n c,.int .i64 x,.int .i64 y,.int .i64 z],.agg #[.slice B m d,.int .i64 x,.int .i64 y,.int .i64 z]] w fun e w'=>e = .returned (.bool true)/\Below w.heap.size w w':=by
 obtain ⟨D,H⟩:=hd2 hA q
 have g:Below w.heap.size w ((w.alloc (.cells #[.slice A n c,.int .i64 x,.int .i64 y,.int .i64 z] 121)).alloc (.cells #[.slice B m d,.int .i64 x,.int .i64 y,.int .i64 z] 121)):=aB (aB (Below.refl _ _) _) _
 clear hA q
 go_enter Tryz.func238,Tryz.ntmps238
 go_wp2_with fail
 refine (qV A B n m c d xs _ (D.out.below g) (H.out.below g) hn).mono ?_
 rintro e I ⟨rfl,j⟩
 obtain ⟨hcc,u⟩:=bG j
 have G:=Hd (aA g j)
 clear j g
 go_wp2_with fail
 go_ret
 exact ⟨rfl,G.out⟩
theorem tL (A B:Option Addr) (n m c d:Nat) (es:List Le) (w:World) (hA:RdC w w.heap.size (iE es) (.slice A n c)) (K:RdC w w.heap.size (iE es) (.slice B m d)) (hz:Bl es) :
  Calls Tryz.prog 150 #[.slice A n c,.slice B m d] w fun e w'=>e = .returned (.bool true)/\Below w.heap.size w w':=by
 have U:=hA.elen
 have hy:=K.elen
 obtain ⟨hn,D⟩:=hz
 rw [U] at hn
 obtain rfl:m=n:=by omega
 obtain ⟨HA,HB,Z,HR⟩:=hd4 hA K U D
 clear U hy D hA K
 go_enter Tryz.func150,Tryz.ntmps150
 go_wp2_with fail
 go_loopw [5] (fun i wr=>∃k:Nat,k<=m/\i = .int .i64 k/\Below w.heap.size w wr) (fun i _=>m - (intOf i).toNat)
 ·exact ⟨0,Nat.zero_le _,rfl,Below.refl _ _⟩
 obtain ⟨k,hk,rfl,g⟩:=hrel
 by_cases G:k<m
 ·obtain ⟨b,o,S,l,p,rfl,I,W,c1,c2,c3,V⟩:=(HA.out.below g).le (k:=k) (by rw [Z.out];exact G)
  obtain ⟨z,u,S',l',Y,rfl,j,d0,d1,d2,d3,H⟩:=(HB.out.below g).le (k:=k) (by rw [Z.out];exact G)
  have R:=HR.out k
  generalize es[k]?.getD Le.zero=e at *
  obtain ⟨J1,J2⟩:=hd2 V.ints.drewd H.ints.drewd
  have hl:l<=1099511627776:=by have:=V.ints.1;omega
  obtain ⟨i0,i1⟩:=ib (by omega:k<m)
  have HE:=Hd g.drew
  clear V H g R
  go_wp2_with fail
  go_region_held3 (fun w'=>Below w.heap.size w w'/\w'.cell? ⟨b,o+k * 4,none⟩=some (.slice S l p)/\w'.cell? ⟨b,o+k * 4+1,none⟩=some (.int .i64 e.mask)/\w'.cell? ⟨b,o+k * 4+2,none⟩=some (.int .i64 e.flop)/\w'.cell? ⟨b,o+k * 4+3,none⟩=some (.int .i64 e.init)/\w'.cell? ⟨z,u+k * 4,none⟩=some (.slice S' l' Y)/\w'.cell? ⟨z,u+k * 4+1,none⟩=some (.int .i64 e.mask)/\w'.cell? ⟨z,u+k * 4+2,none⟩=some (.int .i64 e.flop)/\w'.cell? ⟨z,u+k * 4+3,none⟩=some (.int .i64 e.init))
   (first
    | exact ⟨HE.out,W,c1,c2,c3,d0,d1,d2,d3⟩
    | exact ⟨aA HE.out q,(q.cell (p:=⟨b,o+k * 4,none⟩) I).trans W,(q.cell (p:=⟨b,o+k * 4+1,none⟩) I).trans c1,(q.cell (p:=⟨b,o+k * 4+2,none⟩) I).trans c2,(q.cell (p:=⟨b,o+k * 4+3,none⟩) I).trans c3,(q.cell (p:=⟨z,u+k * 4,none⟩) j).trans d0,(q.cell (p:=⟨z,u+k * 4+1,none⟩) j).trans d1,(q.cell (p:=⟨z,u+k * 4+2,none⟩) j).trans d2,(q.cell (p:=⟨z,u+k * 4+3,none⟩) j).trans d3⟩)
   (first|(go_at_call 238;(with_reducible refine (uJ S S' l l' p Y e.mask e.flop e.init e.sel _ J1.out J2.out hl).mono ?_);rintro e3 w3 ⟨rfl,q⟩))
  rename_i hH
  have Q:=hH.1
  clear hH
  go_wp2_with fail
  go_roundw
  ·exact ⟨k+1,by omega,by go_num,Q⟩
  simp [intOf];omega
 have J:m=k:=by omega
 subst J
 go_wp2_with fail
 go_ret
 exact ⟨rfl,g⟩
theorem sO (A B:Option Addr) (n m c d:Nat) (z B':Option Addr) (G D u H:Nat) (x y:Int) (xs:List Int) (es:List Le) (w:World) (hA:dP w A n xs) (U:dP w B m xs) (hn:n<=1099511627776) (hA':RdC w w.heap.size (iE es) (.slice z G u)) (q:RdC w w.heap.size (iE es) (.slice B' D H)) (V:Bl es) :
  Calls Tryz.prog 75 #[.agg #[.slice A n c,.slice z G u,.int .i64 x,.int .i64 y],.agg #[.slice B m d,.slice B' D H,.int .i64 x,.int .i64 y]] w fun e w'=>e = .returned (.bool true)/\Below w.heap.size w w':=by
 obtain ⟨Z,HB,R,Q⟩:=hd4 hA U hA' q
 have g:Below w.heap.size w ((w.alloc (.cells #[.slice A n c,.slice z G u,.int .i64 x,.int .i64 y] 110)).alloc (.cells #[.slice B m d,.slice B' D H,.int .i64 x,.int .i64 y] 110)):=aB (aB (Below.refl _ _) _) _
 clear hA U hA' q
 go_enter Tryz.func75,Tryz.ntmps75
 go_wp2_with fail
 refine (qV A B n m c d xs _ (Z.out.below g) (HB.out.below g) hn).mono ?_
 rintro e w1 ⟨rfl,I⟩
 obtain ⟨hcc,j⟩:=bG I
 have K:=Hd (aA g I)
 have Y:=Hd I
 clear I g
 go_wp2_with fail
 refine (tL z B' G D u H es _ (R.out.below K.out) (Q.out.below K.out) V).mono ?_
 rintro e w2 ⟨rfl,J⟩
 clear hcc j
 obtain ⟨hcc,j⟩:=bG (aA Y.out J)
 have W:=Hd (aA K.out J)
 clear J
 go_wp2_with fail
 go_ret
 exact ⟨rfl,W.out⟩
theorem zM (A B:Option Addr) (n m c d:Nat) (ts:List bC) (w:World) (hA:RdC w w.heap.size (dW ts) (.slice A n c)) (W:RdC w w.heap.size (dW ts) (.slice B m d)) (hz:Fw ts) :
  Calls Tryz.prog 21 #[.slice A n c,.slice B m d] w fun e w'=>e = .returned (.bool true)/\Below w.heap.size w w':=by
 have Z:=hA.tlen
 have hy:=W.tlen
 obtain ⟨hn,z⟩:=hz
 rw [Z] at hn
 obtain rfl:m=n:=by omega
 obtain ⟨HA,HB,HX,HR⟩:=hd4 hA W Z z
 clear Z hy z hA W
 go_enter Tryz.func21,Tryz.ntmps21
 go_wp2_with fail
 go_loopw [5] (fun i wr=>∃k:Nat,k<=m/\i = .int .i64 k/\Below w.heap.size w wr) (fun i _=>m - (intOf i).toNat)
 ·exact ⟨0,Nat.zero_le _,rfl,Below.refl _ _⟩
 obtain ⟨k,hk,rfl,g⟩:=hrel
 by_cases K:k<m
 ·obtain ⟨b,o,S,l,p,L,q,f,rfl,Q,c0,c1,c2,c3,U,r1⟩:=(HA.out.below g).tile (k:=k) (by rw [HX.out];exact K)
  obtain ⟨G,D,S',l',p',L',q',f',rfl,j,d0,d1,d2,d3,J,I⟩:=(HB.out.below g).tile (k:=k) (by rw [HX.out];exact K)
  have H:=HR.out k
  generalize ts[k]?.getD bC.zero=t at *
  obtain ⟨J1,J2,K1,K2,V⟩:=hd5 U.ints.drewd J.ints.drewd r1 I H.2
  have hl:l<=1099511627776:=by have:=U.ints.1;have:=H.1;omega
  obtain ⟨i0,i1⟩:=ib (by omega:k<m)
  have HE:=Hd g.drew
  clear U J r1 I g H
  go_wp2_with fail
  go_region_held3 (fun w'=>Below w.heap.size w w'/\w'.cell? ⟨b,o+k * 4,none⟩=some (.slice S l p)/\w'.cell? ⟨b,o+k * 4+1,none⟩=some (.slice L q f)/\w'.cell? ⟨b,o+k * 4+2,none⟩=some (.int .i64 t.pad)/\w'.cell? ⟨b,o+k * 4+3,none⟩=some (.int .i64 t.ram)/\w'.cell? ⟨G,D+k * 4,none⟩=some (.slice S' l' p')/\w'.cell? ⟨G,D+k * 4+1,none⟩=some (.slice L' q' f')/\w'.cell? ⟨G,D+k * 4+2,none⟩=some (.int .i64 t.pad)/\w'.cell? ⟨G,D+k * 4+3,none⟩=some (.int .i64 t.ram))
   (first
    | exact ⟨HE.out,c0,c1,c2,c3,d0,d1,d2,d3⟩
    | exact ⟨aA HE.out u,(u.cell (p:=⟨b,o+k * 4,none⟩) Q).trans c0,(u.cell (p:=⟨b,o+k * 4+1,none⟩) Q).trans c1,(u.cell (p:=⟨b,o+k * 4+2,none⟩) Q).trans c2,(u.cell (p:=⟨b,o+k * 4+3,none⟩) Q).trans c3,(u.cell (p:=⟨G,D+k * 4,none⟩) j).trans d0,(u.cell (p:=⟨G,D+k * 4+1,none⟩) j).trans d1,(u.cell (p:=⟨G,D+k * 4+2,none⟩) j).trans d2,(u.cell (p:=⟨G,D+k * 4+3,none⟩) j).trans d3⟩)
   (first|(go_at_call 75;(with_reducible refine (sO S S' l l' p p' L L' q q' f f' t.pad t.ram t.mux t.les _ J1.out J2.out hl (zL K1.out) (zL K2.out) V.out).mono ?_);rintro e3 w3 ⟨rfl,u⟩))
  rename_i hH
  have Y:=hH.1
  clear hH
  go_wp2_with fail
  go_roundw
  ·exact ⟨k+1,by omega,by go_num,Y⟩
  simp [intOf];omega
 have R:m=k:=by omega
 subst R
 go_wp2_with fail
 go_ret
 exact ⟨rfl,g⟩
/-! ### what the call owns, element by element -/
theorem bO.leSel {w:World} {n c i:Nat} {A:Option Addr} {F:List Nat} {es:List Le} {e:Le} (h:bO w (iE es) (.slice A n c) F) (H:F.Nodup) (G:es[i]?=some e) :
  ∃g S m p,A=some ⟨g,0,none⟩/\w.cell? ⟨g,i * 4,none⟩=some (.slice S m p)/\Own 0 w S m p e.sel/\(∀k∈blk S,k∈F) /\
   ∀(w':World) (u:List Int),Own 0 w' S m p u→gp (blk S) w w'→bO w' (iE (es.set i { e with sel:=u })) (.slice A n c) F:=by
 obtain ⟨g,v,J,rfl,hg,hc,ho,_,_,q,D⟩:=h.child H (j:=i * 4+0) (iJ Le.cells_length G (by omega))
 obtain ⟨S,m,p,rfl⟩:=pX (e:=3) (s:=1) ho
 obtain ⟨z,rfl⟩:=eB.1 ho
 refine ⟨g,S,m,p,rfl,hc,z,q,fun w' u I B=>?_⟩
 have:=D w' (aH u) (eB.2 ⟨I,rfl⟩) B
 rw [jq Le.cells_length (y:={ e with sel:=u }) G (by omega) rfl] at this
 exact this
theorem bO.leNums {w:World} {n c i:Nat} {A:Option Addr} {F:List Nat} {es:List Le} {e:Le} (h:bO w (iE es) (.slice A n c) F) (D:F.Nodup) (B:es[i]?=some e) :
  ∃g,A=some ⟨g,0,none⟩/\g∈F/\w.cell? ⟨g,i * 4+1,none⟩=some (.int .i64 e.mask)/\w.cell? ⟨g,i * 4+2,none⟩=some (.int .i64 e.flop)/\w.cell? ⟨g,i * 4+3,none⟩=some (.int .i64 e.init) /\
   w.frozen? ⟨g,i * 4+1,none⟩=false/\w.frozen? ⟨g,i * 4+2,none⟩=false/\w.frozen? ⟨g,i * 4+3,none⟩=false /\
   ∀a b d:Int,bO (((w.setCell ⟨g,i * 4+1,none⟩ (.int .i64 a)).setCell ⟨g,i * 4+2,none⟩ (.int .i64 b)).setCell ⟨g,i * 4+3,none⟩ (.int .i64 d)) (iE (es.set i ⟨e.sel,a,b,d⟩)) (.slice A n c) F:=by
 have hi:=(List.getElem?_eq_some_iff.1 B).1
 obtain ⟨g,rfl,hg,c1,Y,Q⟩:=h.num D (j:=i * 4+1) (iJ Le.cells_length B (by omega))
 obtain ⟨U,u,_,c2,Z,_⟩:=h.num D (j:=i * 4+2) (iJ Le.cells_length B (by omega))
 obtain ⟨R,q,_,c3,V,_⟩:=h.num D (j:=i * 4+3) (iJ Le.cells_length B (by omega))
 injection u with u
 injection q with q
 injection u with u
 injection q with q
 subst u q
 refine ⟨g,rfl,hg,c1,c2,c3,Y,Z,V,fun a b d=>?_⟩
 have J:=Q a
 rw [jq Le.cells_length (y:=⟨e.sel,a,e.flop,e.init⟩) B (by omega) rfl] at J
 have G:(es.set i ⟨e.sel,a,e.flop,e.init⟩)[i]?=some ⟨e.sel,a,e.flop,e.init⟩:=List.getElem?_set_self hi
 obtain ⟨U,u,_,_,_,W⟩:=bO.num J D (j:=i * 4+2) (iJ Le.cells_length G (by omega))
 injection u with u
 injection u with u
 subst u
 have I:=W b
 rw [jq Le.cells_length (y:=⟨e.sel,a,b,e.init⟩) G (by omega) rfl,List.set_set] at I
 have z:(es.set i ⟨e.sel,a,b,e.init⟩)[i]?=some ⟨e.sel,a,b,e.init⟩:=List.getElem?_set_self hi
 obtain ⟨R,q,_,_,_,K⟩:=bO.num I D (j:=i * 4+3) (iJ Le.cells_length z (by omega))
 injection q with q
 injection q with q
 subst q
 have H:=K d
 rw [jq Le.cells_length (y:=⟨e.sel,a,b,d⟩) z (by omega) rfl,List.set_set] at H
 exact H
theorem bO.tMux {w:World} {n c i:Nat} {A:Option Addr} {F:List Nat} {ts:List bC} {t:bC} (h:bO w (dW ts) (.slice A n c) F) (H:F.Nodup) (G:ts[i]?=some t) :
  ∃g S m p,A=some ⟨g,0,none⟩/\w.cell? ⟨g,i * 4,none⟩=some (.slice S m p)/\Own 0 w S m p t.mux/\(∀k∈blk S,k∈F) /\
   ∀(w':World) (u:List Int),Own 0 w' S m p u→gp (blk S) w w'→bO w' (dW (ts.set i { t with mux:=u })) (.slice A n c) F:=by
 obtain ⟨g,v,J,rfl,hg,hc,ho,_,_,q,D⟩:=h.child H (j:=i * 4+0) (iJ bC.cells_length G (by omega))
 obtain ⟨S,m,p,rfl⟩:=pX (e:=3) (s:=1) ho
 obtain ⟨z,rfl⟩:=eB.1 ho
 refine ⟨g,S,m,p,rfl,hc,z,q,fun w' u I B=>?_⟩
 have:=D w' (aH u) (eB.2 ⟨I,rfl⟩) B
 rw [jq bC.cells_length (y:={ t with mux:=u }) G (by omega) rfl] at this
 exact this
theorem bO.tLes {w:World} {n c i:Nat} {A:Option Addr} {F:List Nat} {ts:List bC} {t:bC} (h:bO w (dW ts) (.slice A n c) F) (I:F.Nodup) (H:ts[i]?=some t) :
  ∃g S m p q,A=some ⟨g,0,none⟩/\w.cell? ⟨g,i * 4+1,none⟩=some (.slice S m p)/\bO w (iE t.les) (.slice S m p) q/\q.Nodup/\(∀k∈q,k∈F) /\
   ∀(w':World) (z:List Le),bO w' (iE z) (.slice S m p) q→gp q w w'→bO w' (dW (ts.set i { t with les:=z })) (.slice A n c) F:=by
 obtain ⟨g,v,q,rfl,hg,hc,ho,D,_,u,G⟩:=h.child I (j:=i * 4+1) (iJ bC.cells_length H (by omega))
 obtain ⟨S,m,p,rfl⟩:=pX (e:=121) (s:=4) ho
 refine ⟨g,S,m,p,q,rfl,hc,ho,D,u,fun w' z J B=>?_⟩
 have:=G w' (iE z) J B
 rw [jq bC.cells_length (y:={ t with les:=z }) H (by omega) rfl] at this
 exact this
theorem bO.tNums {w:World} {n c i:Nat} {A:Option Addr} {F:List Nat} {ts:List bC} {t:bC} (h:bO w (dW ts) (.slice A n c) F) (B:F.Nodup) (z:ts[i]?=some t) :
  ∃g,A=some ⟨g,0,none⟩/\g∈F/\w.cell? ⟨g,i * 4+2,none⟩=some (.int .i64 t.pad)/\w.cell? ⟨g,i * 4+3,none⟩=some (.int .i64 t.ram) /\
   w.frozen? ⟨g,i * 4+2,none⟩=false/\w.frozen? ⟨g,i * 4+3,none⟩=false /\
   ∀a b:Int,bO ((w.setCell ⟨g,i * 4+2,none⟩ (.int .i64 a)).setCell ⟨g,i * 4+3,none⟩ (.int .i64 b)) (dW (ts.set i ⟨t.mux,t.les,a,b⟩)) (.slice A n c) F:=by
 have hi:=(List.getElem?_eq_some_iff.1 z).1
 obtain ⟨g,rfl,hg,c2,Q,K⟩:=h.num B (j:=i * 4+2) (iJ bC.cells_length z (by omega))
 obtain ⟨I,q,_,c3,J,_⟩:=h.num B (j:=i * 4+3) (iJ bC.cells_length z (by omega))
 injection q with q
 injection q with q
 subst q
 refine ⟨g,rfl,hg,c2,c3,Q,J,fun a b=>?_⟩
 have G:=K a
 rw [jq bC.cells_length (y:=⟨t.mux,t.les,a,t.ram⟩) z (by omega) rfl] at G
 have u:(ts.set i ⟨t.mux,t.les,a,t.ram⟩)[i]?=some ⟨t.mux,t.les,a,t.ram⟩:=List.getElem?_set_self hi
 obtain ⟨I,q,_,_,_,H⟩:=bO.num G B (j:=i * 4+3) (iJ bC.cells_length u (by omega))
 injection q with q
 injection q with q
 subst q
 have D:=H b
 rw [jq bC.cells_length (y:=⟨t.mux,t.les,a,b⟩) u (by omega) rfl,List.set_set] at D
 exact D
theorem bO.elen {w:World} {n c:Nat} {A:Option Addr} {F:List Nat} {es:List Le} (h:bO w (iE es) (.slice A n c) F):es.length=n:=h.rd.elen
theorem bO.tlen {w:World} {n c:Nat} {A:Option Addr} {F:List Nat} {ts:List bC} (h:bO w (dW ts) (.slice A n c) F):ts.length=n:=h.rd.tlen
theorem Aj {k:Int} {es:List Le} {j:Nat} (h:j<es.length):(lu k es j)[j]?=some (es[j]?.getD Le.zero):=by
 unfold lu
 rw [tH h,if_neg (by omega)]
theorem lw (k:Int) (es:List Le) (j:Nat):(lu k es j).length=es.length:=by simp [lu]
theorem DF {k:Int} {ts:List bC} {j:Nat} (h:j<ts.length):(pW k ts j)[j]?=some (ts[j]?.getD bC.zero):=by
 unfold pW
 rw [tH h,if_neg (by omega)]
theorem pz (k:Int) (ts:List bC) (j:Nat):(pW k ts j).length=ts.length:=by simp [pW]
theorem Ak {k:Int} {es:List Le} {j:Nat} (h:j<es.length):(lu k es j).set j (zy (k+jU es j) (es[j]?.getD Le.zero))=lu k es (j+1):=by
 unfold lu
 exact zz (g:=fun i=>zy (k+jU es i) (es[i]?.getD Le.zero)) h
theorem DI {k:Int} {ts:List bC} {j:Nat} (h:j<ts.length):(pW k ts j).set j (mkT (k+tsN ts j) (ts[j]?.getD bC.zero))=pW k ts (j+1):=by
 unfold pW
 exact zz (g:=fun i=>mkT (k+tsN ts i) (ts[i]?.getD bC.zero)) h
theorem xV (es:List Le) (k:Nat):k<=jU es k:=by
 induction k with
 | zero=>exact Nat.le_refl _
 | succ k ih=>rw [jU,xK];omega
theorem Al (ts:List bC) (k:Nat):k<=tsN ts k:=by
 induction k with
 | zero=>exact Nat.le_refl _
 | succ k ih=>rw [tsN,Dp];omega
theorem sP (A:Option Addr) (n c:Nat) (es:List Le) (F:List Nat) (k0:Int) (w:World) (h:bO w (iE es) (.slice A n c) F) (hF:F.Nodup) (ax:0<=k0) (aC:k0<=2199023255552) (hz:jU es n<=1099511627776) :
  Calls Tryz.prog 76 #[.slice A n c,.int .i64 k0] w fun e w'=>e = .returned (.int .i64 (k0+jU es n))/\bO w' (iE (qN k0 es)) (.slice A n c) F/\gp F w w':=by
 have hx:=h.elen
 have av:n<=1099511627776:=Nat.le_trans (xV es n) hz
 obtain ⟨V,HO,Q⟩:=hd3 hx h hF
 clear hx h hF
 go_enter Tryz.func76,Tryz.ntmps76
 go_wp2_with fail
 go_loopw [1,5] (fun v i wr=>∃k:Nat,k<=n/\i = .int .i64 k/\v = .int .i64 (k0+jU es k)/\bO wr (iE (lu k0 es k)) (.slice A n c) F/\gp F w wr) (fun _ i _=>n - (intOf i).toNat)
 ·exact ⟨0,Nat.zero_le _,rfl,by simp [jU],by unfold lu;rw [xL];exact HO.out,gp.refl _ _⟩
 obtain ⟨k,hk,rfl,rfl,ho,hg⟩:=hrel
 have HG:=Hd hg
 clear hg
 by_cases I:k<n
 ·have af:=Hd (Ak (k:=k0) (es:=es) (j:=k) (by rw [V.out];exact I))
  have B:=Aj (k:=k0) (es:=es) (j:=k) (by rw [V.out];exact I)
  have Z:=Hd (show k<(lu k0 es k).length by rw [lw,V.out];exact I)
  have HN:=Hd (jU.eq_2 es k)
  have D:=yN es (j:=k+1) (k:=n) (by omega)
  rw [jU] at D
  generalize es[k]?.getD Le.zero=e at *
  generalize lu k0 es k=ys at *
  generalize jU es k=s at *
  have ay:=Hd B
  obtain ⟨b,S,m,p,rfl,c0,o1,z,K⟩:=ho.leSel Q.out B
  have Y:m=e.sel.length:=o1.len.symm
  have H:xK e=m+3:=by rw [Y];rfl
  obtain ⟨HM,ad,O1,ah,J⟩:=hd5 Y H o1 K z
  rw [H] at D
  have aE:s+m+3<=1099511627776:=by omega
  obtain ⟨i0,i1⟩:=ib (by omega:k<n)
  clear ho o1 K z Y H B D
  go_wp2_with fail
  refine (qG 0 S m p _ _ _ O1.out (by omega) (by omega) (by omega)).mono ?_
  rintro e' w2 ⟨rfl,o2,g2⟩
  have on:=ry g2
  have U2:=ah.out w2 _ o2 on
  have ag:=Hd (HG.out.trans (on.more J.out))
  have U:(ys.set k { e with sel:=mJ (k0+s) m })[k]?=some { e with sel:=mJ (k0+s) m }:=List.getElem?_set_self Z.out
  obtain ⟨b',g,G,d1,d2,d3,f1,f2,f3,u⟩:=U2.leNums Q.out U
  injection g with g
  injection g with g
  subst g
  have R:=Hd u
  simp only at d1 d2 d3
  clear o2 g2 on U2 U u c0
  go_wp2_with fail
  go_roundw
  case rel =>
   have q:=R.out (k0+s+m) (k0+s+m+1) (k0+s+m+1+1)
   rw [List.set_set] at q
   refine ⟨k+1,by omega,by go_num,by rw [HN.out,ad.out];congr 1;omega,?_,((ag.out.trans (iU (p:=⟨b,k * 4+1,none⟩) G _)).trans (iU (p:=⟨b,k * 4+2,none⟩) G _)).trans (iU (p:=⟨b,k * 4+3,none⟩) G _)⟩
   rw [←af.out]
   unfold zy
   rw [←HM.out,show k0+(s:Int)+m+2=k0+s+m+1+1 by omega]
   exact q
  simp [intOf];omega
 have W:n=k:=by omega
 subst W
 go_wp2_with fail
 go_ret
 exact ⟨rfl,by rw [qN,V.out];exact ho,HG.out⟩
theorem qm (A:Option Addr) (n c:Nat) (ts:List bC) (F:List Nat) (k0:Int) (w:World) (h:bO w (dW ts) (.slice A n c) F) (hF:F.Nodup) (aP:0<=k0) (aT:k0<=1099511627776) (hz:tsN ts n<=1099511627776) :
  Calls Tryz.prog 22 #[.slice A n c,.int .i64 k0] w fun e w'=>e = .returned (.int .i64 (k0+tsN ts n))/\bO w' (dW (uO k0 ts)) (.slice A n c) F/\gp F w w':=by
 have hx:=h.tlen
 have aM:n<=1099511627776:=Nat.le_trans (Al ts n) hz
 obtain ⟨HX,HO,G⟩:=hd3 hx h hF
 clear hx h hF
 go_enter Tryz.func22,Tryz.ntmps22
 go_wp2_with fail
 go_loopw [1,5] (fun v i wr=>∃k:Nat,k<=n/\i = .int .i64 k/\v = .int .i64 (k0+tsN ts k)/\bO wr (dW (pW k0 ts k)) (.slice A n c) F/\gp F w wr) (fun _ i _=>n - (intOf i).toNat)
 ·exact ⟨0,Nat.zero_le _,rfl,by simp [tsN],by unfold pW;rw [xL];exact HO.out,gp.refl _ _⟩
 obtain ⟨k,hk,rfl,rfl,ho,hg⟩:=hrel
 have HG:=Hd hg
 clear hg
 by_cases J:k<n
 ·have aw:=Hd (DI (k:=k0) (ts:=ts) (j:=k) (by rw [HX.out];exact J))
  have W:=DF (k:=k0) (ts:=ts) (j:=k) (by rw [HX.out];exact J)
  have V:=Hd (show k<(pW k0 ts k).length by rw [pz,HX.out];exact J)
  have HN:=Hd (tsN.eq_2 ts k)
  have H:=BZ ts (j:=k+1) (k:=n) (by omega)
  rw [tsN] at H
  generalize ts[k]?.getD bC.zero=t at *
  generalize pW k0 ts k=ys at *
  generalize tsN ts k=s at *
  obtain ⟨b,S,m,p,rfl,c0,o1,D,Y⟩:=ho.tMux G.out W
  have hm:m=t.mux.length:=o1.len.symm
  have I:Dp t=m+jU t.les t.les.length+2:=by rw [hm];rfl
  obtain ⟨HM,au,O1,ay,Q⟩:=hd5 hm I o1 Y D
  rw [I] at H
  generalize hr:jU t.les t.les.length=r at *
  have HR:=Hd hr
  have aW:s+m+r+2<=1099511627776:=by omega
  obtain ⟨i0,i1⟩:=ib (by omega:k<n)
  clear ho o1 Y D hm I W H hr
  go_wp2_with fail
  refine (qG 0 S m p _ _ _ O1.out (by omega) (by omega) (by omega)).mono ?_
  rintro e' w2 ⟨rfl,o2,g2⟩
  have on:=ry g2
  have U2:=ay.out w2 _ o2 on
  have ax:=Hd (HG.out.trans (on.more Q.out))
  have ah:(ys.set k { t with mux:=mJ (k0+s) m })[k]?=some { t with mux:=mJ (k0+s) m }:=List.getElem?_set_self V.out
  obtain ⟨b',L,q,f,Fj,g,c1,o3,U,z,u⟩:=U2.tLes G.out ah
  injection g with g
  injection g with g
  subst g
  simp only at o3 u
  have R:=o3.elen
  obtain ⟨af,O3,Z,K,aq⟩:=hd5 R o3 u z U
  clear o2 g2 on U2 ah c0 o3 u z U R
  go_wp2_with fail
  refine (sP L q f t.les Fj _ _ O3.out aq.out (by omega) (by omega) (by rw [←af.out,HR.out];omega)).mono ?_
  rintro e' w3 ⟨rfl,o4,g4⟩
  rw [←af.out,HR.out]
  have U3:=Z.out w3 _ o4 g4
  rw [List.set_set] at U3
  have ar:=Hd (ax.out.trans (g4.more K.out))
  have ae:(ys.set k ⟨mJ (k0+s) m,qN (k0+s+m) t.les,t.pad,t.ram⟩)[k]?=some ⟨mJ (k0+s) m,qN (k0+s+m) t.les,t.pad,t.ram⟩:=List.getElem?_set_self V.out
  obtain ⟨b',g,ag,d2,d3,f2,f3,B⟩:=bO.tNums U3 G.out ae
  injection g with g
  injection g with g
  subst g
  have ad:=Hd B
  simp only at d2 d3
  clear o4 g4 U3 ae B c1
  go_wp2_with fail
  go_roundw
  case rel =>
   have qq:=ad.out (k0+s+m+r) (k0+s+m+r+1)
   rw [List.set_set] at qq
   refine ⟨k+1,by omega,by go_num,by rw [HN.out,au.out];congr 1;omega,?_,(ar.out.trans (iU (p:=⟨b,k * 4+2,none⟩) ag _)).trans (iU (p:=⟨b,k * 4+3,none⟩) ag _)⟩
   rw [←aw.out]
   unfold mkT
   rw [←HM.out,HR.out]
   exact qq
  simp [intOf];omega
 have ak:n=k:=by omega
 subst ak
 go_wp2_with fail
 go_ret
 exact ⟨rfl,by rw [uO,HX.out];exact ho,HG.out⟩
theorem DJ {k:Int} {es:List Le} {j:Nat} (h:j<es.length):(qN k es)[j]?.getD Le.zero=zy (k+jU es j) (es[j]?.getD Le.zero):=by
 unfold qN lu
 rw [tH h,if_pos h]
 rfl
theorem EE {k:Int} {ts:List bC} {j:Nat} (h:j<ts.length):(uO k ts)[j]?.getD bC.zero=mkT (k+tsN ts j) (ts[j]?.getD bC.zero):=by
 unfold uO pW
 rw [tH h,if_pos h]
 rfl
theorem wm {α:Type} {xs:List α} {k:Nat} (d:α) (h:xs.length<=k):xs[k]?.getD d=d:=by rw [List.getElem?_eq_none h];rfl
theorem zN {es:List Le} {M:Nat} (h:jU es es.length<=M) (g:M<=1099511627776):Bl es:=by
 refine ⟨by have:=xV es es.length;omega,fun i=>?_⟩
 rcases Nat.lt_or_ge i es.length with hi|hi
 ·have:=yN es (j:=i+1) (k:=es.length) (by omega)
  rw [jU,xK] at this
  omega
 rw [wm _ hi];simp [Le.zero]
theorem Ey {ts:List bC} (h:tsN ts ts.length<=1099511627776):Fw ts:=by
 refine ⟨by have:=Al ts ts.length;omega,fun i=>?_⟩
 rcases Nat.lt_or_ge i ts.length with hi|hi
 ·have:=BZ ts (j:=i+1) (k:=ts.length) (by omega)
  rw [tsN,Dp] at this
  exact ⟨by omega,zN (M:=1099511627776) (by omega) (by omega)⟩
 rw [wm _ hi];exact ⟨by simp [bC.zero],zN (M:=0) (by simp [bC.zero,jU]) (by omega)⟩
theorem EF {ts:List bC} (h:∀i,i<ts.length→Dp (ts[i]?.getD bC.zero)<=40) (k:Nat) (hk:k<=ts.length):tsN ts k<=40 * k:=by
 induction k with
 | zero=>simp [tsN]
 | succ k ih=>rw [tsN];have:=ih (by omega);have:=h k (by omega);omega
theorem kK (A B:Option Addr) (n m c d:Nat) (ts:List bC) (w:World) (hA:RdC w w.heap.size (dW ts) (.slice A n c)) (j:RdC w w.heap.size (dW ts) (.slice B m d)) (g:tsN ts ts.length<=1099511627776) :
  Calls Tryz.prog 21 #[.slice A n c,.slice B m d] w fun e w'=>e = .returned (.bool true)/\Below w.heap.size w w':=zM A B n m c d ts w hA j (Ey g)
theorem sQ (A:Option Addr) (n c:Nat) (es:List Le) (k0:Int) (w:World) (h:RdC w w.heap.size (iE (qN k0 es)) (.slice A n c)) (ae:0<=k0) (Y:k0<=2199023255552) (W:jU es n<=1099511627776) :
  Calls Tryz.prog 78 #[.slice A n c,.int .i64 k0] w fun e w'=>e = .returned (.int .i64 (k0+jU es n))/\Below w.heap.size w w':=by
 have R:es.length=n:=by have:=h.elen;rw [qN,lw] at this;exact this
 have ad:n<=1099511627776:=Nat.le_trans (xV es n) W
 obtain ⟨Q,Z⟩:=hd2 R h
 clear R h
 go_enter Tryz.func78,Tryz.ntmps78
 go_wp2_with fail
 go_loopw [1,5] (fun v i wr=>∃k:Nat,k<=n/\i = .int .i64 k/\v = .int .i64 (k0+jU es k)/\Below w.heap.size w wr) (fun _ i _=>n - (intOf i).toNat)
 ·exact ⟨0,Nat.zero_le _,rfl,by simp [jU],Below.refl _ _⟩
 obtain ⟨k,hk,rfl,rfl,g⟩:=hrel
 by_cases z:k<n
 ·obtain ⟨b,o,S,l,p,rfl,K,V,c1,c2,c3,G⟩:=(Z.out.below g).le (k:=k) (by rw [qN,lw,Q.out];exact z)
  rw [DJ (by rw [Q.out];exact z)] at c1 c2 c3 G
  have U:=Hd (jU.eq_2 es k)
  have u:=yN es (j:=k+1) (k:=n) (by omega)
  rw [jU] at u
  generalize es[k]?.getD Le.zero=e at *
  generalize jU es k=s at *
  have HE:=Hd g
  have D:l=e.sel.length:=by have:=G.ints.1;simp only [zy,tT] at this;exact this.symm
  have q:xK e=l+3:=by rw [D];rfl
  simp only [zy] at c1 c2 c3
  rw [←D] at c1 c2 c3
  have J:Hid (dP wr S l (mJ (k0+s) l)):=by have:=G.ints;simp only [zy] at this;rwa [←D] at this
  have I:=Hd q
  rw [q] at u
  have af:s+l+3<=1099511627776:=by omega
  obtain ⟨i0,i1⟩:=ib (by omega:k<n)
  clear D q u G g
  go_wp2_with fail
  refine (sV S l p (mJ (k0+s) l) _ _ J.out rfl (by omega) (by omega) (by omega)).mono ?_
  rintro e' w2 ⟨rfl,B⟩
  have d1:=(B.cell (p:=⟨b,o+k * 4+1,none⟩) K).trans c1
  have d2:=(B.cell (p:=⟨b,o+k * 4+2,none⟩) K).trans c2
  have d3:=(B.cell (p:=⟨b,o+k * 4+3,none⟩) K).trans c3
  have E2:=Hd (aA HE.out B)
  clear B V c1 c2 c3
  have g0:decide (k0+(s:Int)+l<0)=false:=by simp;omega
  have g1:(k0+(s:Int)+l+2 != k0+s+l+1+1)=false:=by simp;omega
  go_wp2_with fail
  go_roundw
  ·exact ⟨k+1,by omega,by go_num,by rw [U.out,I.out];congr 1;omega,E2.out⟩
  simp [intOf];omega
 have H:n=k:=by omega
 subst H
 go_wp2_with fail
 go_ret
 exact ⟨rfl,g⟩
theorem mM (A:Option Addr) (n c:Nat) (ys:List bC) (k0:Int) (w:World) {ts:List bC} (h:RdC w w.heap.size (dW ys) (.slice A n c)) (hy:ys=uO k0 ts) (ap:0<=k0) (ak:k0<=1099511627776) (hz:tsN ts ts.length<=1099511627776) :
  Calls Tryz.prog 23 #[.slice A n c,.int .i64 k0] w fun e w'=>e = .returned (.int .i64 (k0+tsN ts n))/\Below w.heap.size w w':=by
 subst hy
 have hx:ts.length=n:=by have:=h.tlen;rw [uO,pz] at this;exact this
 rw [hx] at hz
 have ao:n<=1099511627776:=Nat.le_trans (Al ts n) hz
 obtain ⟨HX,HO⟩:=hd2 hx h
 clear hx h
 go_enter Tryz.func23,Tryz.ntmps23
 go_wp2_with fail
 go_loopw [1,5] (fun v i wr=>∃k:Nat,k<=n/\i = .int .i64 k/\v = .int .i64 (k0+tsN ts k)/\Below w.heap.size w wr) (fun _ i _=>n - (intOf i).toNat)
 ·exact ⟨0,Nat.zero_le _,rfl,by simp [tsN],Below.refl _ _⟩
 obtain ⟨k,hk,rfl,rfl,g⟩:=hrel
 by_cases I:k<n
 ·obtain ⟨b,o,S,l,p,L,q,f,rfl,H,c0,c1,c2,c3,R,Q⟩:=(HO.out.below g).tile (k:=k) (by rw [uO,pz,HX.out];exact I)
  rw [EE (by rw [HX.out];exact I)] at c2 c3 R Q
  have HN:=Hd (tsN.eq_2 ts k)
  have z:=BZ ts (j:=k+1) (k:=n) (by omega)
  rw [tsN] at z
  generalize ts[k]?.getD bC.zero=t at *
  generalize tsN ts k=s at *
  have HE:=Hd g
  have G:l=t.mux.length:=by have:=R.ints.1;simp only [mkT,tT] at this;exact this.symm
  have hq:q=t.les.length:=by have:=Q.elen;simp only [mkT,qN,lw] at this;exact this.symm
  have u:Dp t=l+jU t.les q+2:=by rw [G,hq];rfl
  simp only [mkT] at c2 c3
  rw [←G,←hq] at c2 c3
  have Y:Hid (dP wr S l (mJ (k0+s) l)):=by have:=R.ints;simp only [mkT] at this;rwa [←G] at this
  have Z:Hid (RdC wr wr.heap.size (iE (qN (k0+s+l) t.les)) (.slice L q f)):=by have:=Q;simp only [mkT] at this;rwa [←G] at this
  have W:=Hd u
  rw [u] at z
  generalize D:jU t.les q=r at *
  have B:=Hd D
  clear D
  have aq:s+l+r+2<=1099511627776:=by omega
  obtain ⟨i0,i1⟩:=ib (by omega:k<n)
  clear G hq u z R Q g
  go_wp2_with fail
  refine (sV S l p (mJ (k0+s) l) _ _ Y.out rfl (by omega) (by omega) (by omega)).mono ?_
  rintro e' w2 ⟨rfl,J⟩
  have d1:=(J.cell (p:=⟨b,o+k * 4+1,none⟩) H).trans c1
  have E2:=Hd (aA HE.out J)
  have K:=Hd J
  have R2:=Hd (Z.out.below J)
  have g0:decide (k0+(s:Int)+l<0)=false:=by simp;omega
  clear J c1
  go_wp2_with fail
  refine (sQ L q f t.les _ _ R2.out (by omega) (by omega) (by rw [B.out];omega)).mono ?_
  rintro e' w3 ⟨rfl,U⟩
  rw [B.out]
  have d2:=(U.cell (p:=⟨b,o+k * 4+2,none⟩) (Nat.lt_of_lt_of_le H K.out.size)).trans ((K.out.cell (p:=⟨b,o+k * 4+2,none⟩) H).trans c2)
  have d3:=(U.cell (p:=⟨b,o+k * 4+3,none⟩) (Nat.lt_of_lt_of_le H K.out.size)).trans ((K.out.cell (p:=⟨b,o+k * 4+3,none⟩) H).trans c3)
  have E3:=Hd (aA E2.out U)
  have g1:decide (k0+(s:Int)+l+r<0)=false:=by simp;omega
  clear U c0 c2 c3 d1 g0
  go_wp2_with fail
  go_roundw
  ·exact ⟨k+1,by omega,by go_num,by rw [HN.out,W.out];congr 1;omega,E3.out⟩
  simp [intOf];omega
 have V:n=k:=by omega
 subst V
 go_wp2_with fail
 go_ret
 exact ⟨rfl,g⟩
end Go.Proofs.YtofihjoanjkdmaaGreat
