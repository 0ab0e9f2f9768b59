/- Making a design flat: what stays in its bounds, in plain terms. Making a design flat, in memory: the pieces, and plain lemmas. -/
import Derived.Test.YtlinbdkbbhpdpaaGreatSrQ
import Derived.Test.YtlinbdkbbhpdpaaGreatSrR
namespace Go.Proofs.YtlinbdkbbhpdpaaGreat
set_option maxRecDepth 100000
open Go.RowKit

/-- All numbers of a list are signals of a row of n. -/
def PlIn (pl:List Int) (n:Nat):Prop:=∀x∈pl,0≤x∧x<n
theorem PlIn.at_ {pl:List Int} {n:Nat} (h:PlIn pl n) {i:Nat} (hi:i<pl.length):0≤pl[i]?.getD 0∧pl[i]?.getD 0<n:=by
 rw [List.getElem?_eq_getElem hi,Option.getD_some]
 exact h _ (List.getElem_mem hi)
theorem PlIn.mono {pl:List Int} {n n':Nat} (h:PlIn pl n) (hn:n≤n'):PlIn pl n':=fun x hx=>by have:=h x hx;omega
theorem PlIn.snoc {pl:List Int} {n:Nat} {x:Int} (h:PlIn pl n) (hx:0≤x∧x<n):PlIn (pl++[x]) n:=fun y hy=>by
 rcases List.mem_append.1 hy with hy|hy
 ·exact h y hy
 ·rw [List.mem_singleton] at hy;subst hy;exact hx
theorem PlIn.nil (n:Nat):PlIn [] n:=fun x hx=>by simp at hx
theorem PlIn.atI_ {pl:List Int} {n:Nat} (h:PlIn pl n) {i:Int} (h0:0≤i) (hi:i<pl.length):0≤atI pl i∧atI pl i<n:=h.at_ (by omega)
theorem portsTo_snoc (sg:List SgT) (k:Nat):portsTo sg (k+1)=portsTo sg k++if isPort (sgK sg k) then [(k:Int)] else []:=rfl
theorem portsTo_pre (sg:List SgT) {k n:Nat} (h:k≤n):∃l,portsTo sg n=portsTo sg k++l∧∀p∈l,(k:Int)≤p:=by
 induction n with
 | zero =>
  obtain rfl:k=0:=by omega
  exact ⟨[],by simp,by simp⟩
 | succ n ih =>
  rcases Nat.lt_or_ge k (n+1) with h1|h1
  ·obtain ⟨l,e,hl⟩:=ih (by omega)
   refine ⟨l++if isPort (sgK sg n) then [(n:Int)] else [],by rw [portsTo_snoc,e,List.append_assoc],fun p hp=>?_⟩
   rcases List.mem_append.1 hp with hp|hp
   ·exact hl p hp
   ·split at hp
    ·rw [List.mem_singleton] at hp;omega
    ·simp at hp
  ·obtain rfl:k=n+1:=by omega
   exact ⟨[],by simp,by simp⟩
/-- The next port of the list is the signal at hand just if this is a port. -/
theorem port_next {sg:List SgT} {k n:Nat} (hk:k<n):((portsTo sg k).length<(portsTo sg n).length∧(portsTo sg n)[(portsTo sg k).length]?.getD 0=(k:Int))↔isPort (sgK sg k)=true:=by
 obtain ⟨l,e,hl⟩:=portsTo_pre sg (k:=k+1) (n:=n) (by omega)
 rw [portsTo_snoc] at e
 by_cases hp:isPort (sgK sg k)=true
 ·rw [if_pos hp] at e
  refine ⟨fun _=>hp,fun _=>?_⟩
  rw [e]
  constructor
  ·simp only [List.length_append,List.length_singleton];omega
  ·rw [List.getElem?_append_left (by simp),List.getElem?_append_right (Nat.le_refl _),Nat.sub_self];rfl
 ·rw [if_neg hp,List.append_nil] at e
  refine ⟨fun h=>?_,fun h=>absurd h hp⟩
  rw [e] at h
  rw [List.getElem?_append_right (Nat.le_refl _),Nat.sub_self] at h
  rcases l with _|⟨p,l⟩
  ·have:=h.1;simp at this
  ·have:=hl p (by simp)
   have:=h.2
   simp at this
   omega
theorem port_lt {sg:List SgT} {k n:Nat} (hk:k<n) (hp:isPort (sgK sg k)=true):(portsTo sg k).length<(portsTo sg n).length:=((port_next hk).2 hp).1
section
variable {d:List MdT} {k:Nat}
theorem MdFit.cn (h:MdFit d k):MdCnt (mdK d k):=h.cnt.2 k h.lt
theorem MdFit.portsOf (h:MdFit d k) {j:Nat} (hj:j<d.length):portsOf (mdK d j)=portsTo (mdK d j).sigs (mdK d j).sigs.length:=by
 unfold Proofs.YtlinbdkbbhpdpaaGreat.portsOf
 rw [if_pos (h.cnt.2 j hj).sg]
theorem MdFit.inst_mod (h:MdFit d k) {j:Nat} (hj:j<(mdK d k).insts.length):0≤((mdK d k).insts[j]?.getD InT.zero).module∧((mdK d k).insts[j]?.getD InT.zero).module<k∧((mdK d k).insts[j]?.getD InT.zero).ports.length=(Proofs.YtlinbdkbbhpdpaaGreat.portsOf (mdK d ((mdK d k).insts[j]?.getD InT.zero).module.toNat)).length:=by
 have:=h.ins j hj
 exact ⟨this.1.1,by have:=this.1.2;omega,this.2⟩
/-- The ports of an instance are signals of the module. -/
theorem MdFit.inst_ports (h:MdFit d k) {j:Nat} (hj:j<(mdK d k).insts.length):PlIn ((mdK d k).insts[j]?.getD InT.zero).ports (mdK d k).sigs.length:=by
 intro x hx
 obtain ⟨i,hi,rfl⟩:=List.getElem_of_mem hx
 have h1:=(h.inst j hj).2 i (by rw [←(h.inst_mod hj).2.2];exact hi)
 have h2:=h1.1
 rw [List.getElem?_eq_getElem hi,Option.getD_some] at h2
 exact h2
end
/-- What holds while signals are added. -/
structure SgInv (sg:List SgT) (p:Int) (top:Bool) (ports:List Int) (fl0:List SgT) (R:Option (List SgT × List Int)) (k nx:Nat) (fl:List SgT) (pl:List Int):Prop where
 run:addSg p top ports (sg.drop k) nx fl pl=R
 len:pl.length=k
 ok:PlIn pl fl.length
 low:fl0.length≤fl.length
 up:fl.length≤fl0.length+k
 nxt:nx=if top then 0 else (portsTo sg k).length
theorem SgInv.start (sg:List SgT) (p:Int) (top:Bool) (ports:List Int) (fl0:List SgT):SgInv sg p top ports fl0 (addSg p top ports sg 0 fl0 []) 0 0 fl0 [] :=
 ⟨rfl,rfl,PlIn.nil _,Nat.le_refl _,Nat.le_refl _,by simp [portsTo]⟩
theorem drop_consS {sg:List SgT} {k:Nat} (hk:k<sg.length):sg.drop k=sgK sg k :: sg.drop (k+1):=by
 unfold sgK
 rw [List.drop_eq_getElem_cons hk,List.getElem?_eq_getElem hk];rfl
section
variable {sg fl0 fl:List SgT} {p:Int} {top:Bool} {ports pl:List Int} {R:Option (List SgT × List Int)} {k nx:Nat}
/-- A signal that is no port of a copy. -/
theorem SgInv.own (h:SgInv sg p top ports fl0 R k nx fl pl) (hk:k<sg.length) (hp:¬(top=false∧isPort (sgK sg k)=true)):SgInv sg p top ports fl0 R (k+1) nx (fl++[⟨(sgK sg k).kind,wid (sgK sg k) p,(sgK sg k).init⟩]) (pl++[(fl.length:Int)]):=by
 have hb:(!top && isPort (sgK sg k))=false:=by cases top <;> simp_all
 have hr:=h.run
 rw [drop_consS hk,addSg,hb] at hr
 have hl:(fl++[(⟨(sgK sg k).kind,wid (sgK sg k) p,(sgK sg k).init⟩:SgT)]).length=fl.length+1:=by simp
 refine ⟨by simpa using hr,by simp [h.len],?_,by rw [hl];have:=h.low;omega,by rw [hl];have:=h.up;omega,?_⟩
 ·rw [hl]
  exact (h.ok.mono (by omega)).snoc (by omega)
 ·rw [h.nxt,portsTo_snoc]
  cases top
  ·have:isPort (sgK sg k)=false:=by simpa using hp
   simp [this]
  ·rfl
/-- A port of a copy stands for a signal that is there. -/
theorem SgInv.port (h:SgInv sg p top ports fl0 R k nx fl pl) (hk:k<sg.length) (ht:top=false) (hp:isPort (sgK sg k)=true) (hw:(sgK fl (ports[nx]?.getD 0).toNat).width=wid (sgK sg k) p) (hin:0≤ports[nx]?.getD 0∧ports[nx]?.getD 0<fl.length):SgInv sg p top ports fl0 R (k+1) (nx+1) fl (pl++[ports[nx]?.getD 0]):=by
 subst ht
 have hr:=h.run
 rw [drop_consS hk,addSg,hp] at hr
 simp only [Bool.not_false,Bool.and_true,if_true] at hr
 rw [if_pos hw] at hr
 refine ⟨hr,by simp [h.len],h.ok.snoc hin,h.low,by have:=h.up;omega,?_⟩
 have:=h.nxt
 rw [portsTo_snoc,hp]
 simp at this ⊢
 exact this
theorem SgInv.bad (h:SgInv sg p top ports fl0 R k nx fl pl) (hk:k<sg.length) (ht:top=false) (hp:isPort (sgK sg k)=true) (hw:(sgK fl (ports[nx]?.getD 0).toNat).width≠wid (sgK sg k) p):R=none:=by
 subst ht
 have hr:=h.run
 rw [drop_consS hk,addSg,hp] at hr
 simp only [Bool.not_false,Bool.and_true,if_true] at hr
 rw [if_neg hw] at hr
 exact hr.symm
theorem SgInv.done (h:SgInv sg p top ports fl0 R k nx fl pl) (hk:k=sg.length):R=some (fl,pl):=by
 have hr:=h.run
 rw [hk,List.drop_length,addSg] at hr
 exact hr.symm
end
end Go.Proofs.YtlinbdkbbhpdpaaGreat

namespace Go.Proofs.YtlinbdkbbhpdpaaGreat
set_option maxRecDepth 100000
open Go.RowKit

/-- A row of n numbers of which the first are known, the others 0. -/
def plR (pl:List Int) (n:Nat):List Int:=pl++List.replicate (n - pl.length) 0
theorem plR_nil (n:Nat):plR [] n=List.replicate n 0:=by simp [plR]
theorem plR_done {pl:List Int} {n:Nat} (h:pl.length=n):plR pl n=pl:=by unfold plR;rw [h,Nat.sub_self];simp
theorem plR_set {pl:List Int} {n:Nat} (h:pl.length<n) (x:Int):(plR pl n).set pl.length x=plR (pl++[x]) n:=by
 unfold plR
 obtain ⟨m,hm⟩:∃m,n - pl.length=m+1:=⟨n - pl.length - 1,by omega⟩
 rw [hm,List.replicate_succ,List.set_append_right _ _ (Nat.le_refl _),Nat.sub_self,List.set_cons_zero,List.length_append,List.length_singleton,show n - (pl.length+1)=m from by omega]
 simp
theorem plR_get {pl:List Int} {n i:Nat} (h:i<pl.length):(plR pl n)[i]?.getD 0=pl[i]?.getD 0:=by
 unfold plR
 rw [List.getElem?_append_left h]
theorem plR_last {pl:List Int} {n:Nat} (x:Int):(plR (pl++[x]) n)[pl.length]?.getD 0=x:=by
 rw [plR_get (by simp)]
 simp
theorem opsN_fit {n:Int}:∀{need:Int} {ops:List OpT},OpsN n need ops→∀o∈ops,OpFit o n
 | _,[],_,o,ho=>by simp at ho
 | _,q :: r,h,o,ho=>by
  rcases List.mem_cons.1 ho with rfl|ho
  ·exact h.2.1
  ·exact opsN_fit h.2.2 o ho
theorem OpFit.sig {o:OpT} {n:Int} (h:OpFit o n) (hk:o.kind=2∨o.kind=3):0≤o.a∧o.a<n:=by
 unfold OpFit at h
 rcases hk with hk|hk
 ·rw [if_neg (by omega),if_pos hk] at h;exact h.1
 ·rw [if_neg (by omega),if_neg (by omega),if_pos hk] at h;exact h.1
theorem MdFit.op {d:List MdT} {k i j:Nat} (h:MdFit d k) (hi:i<(mdK d k).asgs.length) (hj:j<((mdK d k).asgs[i]?.getD AsT.zero).ops.length):OpFit (((mdK d k).asgs[i]?.getD AsT.zero).ops[j]?.getD OpT.zero) (mdK d k).sigs.length :=
 opsN_fit (h.asg i hi).2.2 _ (by rw [List.getElem?_eq_getElem hj];exact List.getElem_mem hj)
/-- The bounds that a flat module keeps while modules are added. -/
structure FlBd (fl:MdT):Prop where
 sg:fl.sigs.length≤30
 as_:fl.asgs.length≤30
 mm:fl.mems.length≤2
 ins:fl.insts=[]
theorem addSg_low {p:Int} {top:Bool} {ports:List Int}:∀{l:List SgT} {nx:Nat} {fl sg:List SgT} {pl pl':List Int},addSg p top ports l nx fl pl=some (sg,pl')→fl.length≤sg.length
 | [],nx,fl,sg,pl,pl',h=>by rw [addSg] at h;injection h with h;injection h with h1 h2;subst h1;exact Nat.le_refl _
 | s :: r,nx,fl,sg,pl,pl',h=>by
  rw [addSg] at h
  split at h
  ·split at h
   ·exact addSg_low h
   ·cases h
  ·have:=addSg_low h
   rw [List.length_append] at this
   omega
theorem addIn_low {g:Nat→Int→List Int→MdT→Option MdT} (hg:∀k p ports fl fl',g k p ports fl=some fl'→fl.insts=[]→FlBd fl'∧fl.sigs.length≤fl'.sigs.length) {p:Int} {pl:List Int}:∀{l:List InT} {fl fl':MdT},addIn g p pl l fl=some fl'→fl.insts=[]→FlBd fl→FlBd fl'∧fl.sigs.length≤fl'.sigs.length
 | [],fl,fl',h,_,hb=>by rw [addIn] at h;injection h with h;subst h;exact ⟨hb,Nat.le_refl _⟩
 | x :: r,fl,fl',h,h0,hb=>by
  rw [addIn] at h
  split at h
  ·cases h
  ·rename_i fl1 h1
   obtain ⟨k1,k2⟩:=hg _ _ _ _ _ h1 h0
   obtain ⟨k3,k4⟩:=addIn_low hg h k1.ins k1
   exact ⟨k3,Nat.le_trans k2 k4⟩
theorem addM_low {d:List MdT}:∀{f:Nat} {top:Bool} {k:Nat} {p:Int} {ports:List Int} {fl fl':MdT},addM d f top k p ports fl=some fl'→fl.insts=[]→FlBd fl'∧fl.sigs.length≤fl'.sigs.length
 | 0,_,_,_,_,_,_,h,_=>by rw [addM] at h;cases h
 | f+1,top,k,p,ports,fl,fl',h,h0=>by
  rw [addM] at h
  split at h
  ·cases h
  ·rename_i sg pl hsg
   split at h
   ·rename_i hb
    have h1:=addSg_low hsg
    obtain ⟨k1,k2⟩:=addIn_low (fun k p ports fl fl' h h0=>addM_low h h0) h h0 ⟨hb.1,hb.2.1,hb.2.2,h0⟩
    exact ⟨k1,Nat.le_trans h1 k2⟩
   ·cases h
theorem addIn_cons {g:Nat→Int→List Int→MdT→Option MdT} {p:Int} {pl:List Int} {l:List InT} {fl:MdT} {j:Nat} (hj:j<l.length) :
  addIn g p pl (l.drop j) fl=match g (l[j]?.getD InT.zero).module.toNat (if (l[j]?.getD InT.zero).param=0 then p else (l[j]?.getD InT.zero).param) ((l[j]?.getD InT.zero).ports.map (atI pl)) fl with
   | none=>none
   | some fl'=>addIn g p pl (l.drop (j+1)) fl':=by
 rw [List.drop_eq_getElem_cons hj,List.getElem?_eq_getElem hj,Option.getD_some,addIn]
 cases g (l[j]).module.toNat (if (l[j]).param=0 then p else (l[j]).param) ((l[j]).ports.map (atI pl)) fl <;> rfl
theorem addIn_end {g:Nat→Int→List Int→MdT→Option MdT} {p:Int} {pl:List Int} {l:List InT} {fl:MdT} {j:Nat} (hj:j=l.length):addIn g p pl (l.drop j) fl=some fl:=by
 rw [hj,List.drop_length,addIn]

section
variable {d:List MdT} {p:Int} {m:MdT} (h:DsFit d) (hp:1≤p∧p≤4)
include h hp
theorem flatD_none (ha:addM d 5 true (d.length - 1) p [] MdT.zero=none):flatD d p=none:=by unfold flatD;rw [if_pos ⟨h,hp⟩,ha]
theorem flatD_some (ha:addM d 5 true (d.length - 1) p [] MdT.zero=some m) (hf:FlatFit m):flatD d p=some m:=by unfold flatD;rw [if_pos ⟨h,hp⟩,ha];exact if_pos hf
theorem flatD_bad (ha:addM d 5 true (d.length - 1) p [] MdT.zero=some m) (hf:¬FlatFit m):flatD d p=none:=by unfold flatD;rw [if_pos ⟨h,hp⟩,ha];exact if_neg hf
end
theorem flatD_off {d:List MdT} {p:Int} (h:¬DsFit d∨¬(1≤p∧p≤4)):flatD d p=none:=by
 unfold flatD
 rw [if_neg]
 rintro ⟨h1,h2⟩
 rcases h with h|h
 ·exact h h1
 ·exact h h2

/-! ### pieces -/
theorem sgQ_info:(Tryz.prog.info? 155).map (fun i=>(i.zero,i.size,i.bytes))=some (some (.agg #[.int .i64 0,.int .i64 0,.int .i64 0]),3,24):=by kernel_rfl
theorem opQ_info:(Tryz.prog.info? 198).map (fun i=>(i.zero,i.size,i.bytes))=some (some (.agg #[.int .i64 0,.int .i64 0,.int .i64 0]),3,24):=by kernel_rfl
theorem asQ_info:(Tryz.prog.info? 196).map (fun i=>(i.zero,i.size,i.bytes))=some (some (.agg #[.int .i64 0,.slice none 0 0]),2,32):=by kernel_rfl
theorem mmQ_info:(Tryz.prog.info? 200).map (fun i=>(i.zero,i.size,i.bytes))=some (some (.agg #[.int .i64 0,.int .i64 0,.int .i64 0,.int .i64 0]),4,32):=by kernel_rfl
abbrev sgP (l:List SgT) (A:Option Addr) (c:Nat):Pc := .cel (celSg l) (.slice A l.length c)
abbrev asP (l:List AsT) (A:Option Addr) (c:Nat):Pc := .cel (celAs l) (.slice A l.length c)
abbrev mmP (l:List MmT) (A:Option Addr) (c:Nat):Pc := .cel (celMm l) (.slice A l.length c)
section
variable {W w:World} {ps:List Pc}
theorem Sepa.consNum (h:Sepa W w ps) (cs:List Cel) (vs:Array Value) (hl:OwnL w cs vs.toList []):Sepa W w (.cels cs vs.toList :: ps) :=
 h.cons (Below.refl _ _) (p := .cels cs vs.toList) (G:=[]) hl (by simp) (by simp)
theorem ownL_int {w:World} (x:Int) {cs:List Cel} {vs:List Value} (h:OwnL w cs vs []):OwnL w (.int x :: cs) (.int .i64 x :: vs) []:=ownL_cons.2 ⟨_,_,[],[],rfl,rfl,ownC_int.2 ⟨rfl,rfl⟩,h⟩
theorem ownL_none (w:World):OwnL w [] [] []:=ownL_nil.2 ⟨rfl,rfl⟩
theorem Sepa.consSg (h:Sepa W w ps) (a b c:Int):Sepa W w (.cels (⟨a,b,c⟩:SgT).cells (#[.int .i64 a,.int .i64 b,.int .i64 c]:Array Value).toList :: ps):=h.consNum _ _ (ownL_int a (ownL_int b (ownL_int c (ownL_none w))))
theorem Sepa.consOp (h:Sepa W w ps) (a b c:Int):Sepa W w (.cels (⟨a,b,c⟩:OpT).cells (#[.int .i64 a,.int .i64 b,.int .i64 c]:Array Value).toList :: ps):=h.consNum _ _ (ownL_int a (ownL_int b (ownL_int c (ownL_none w))))
theorem Sepa.consMm (h:Sepa W w ps) (a b c e:Int):Sepa W w (.cels (⟨a,b,c,e⟩:MmT).cells (#[.int .i64 a,.int .i64 b,.int .i64 c,.int .i64 e]:Array Value).toList :: ps):=h.consNum _ _ (ownL_int a (ownL_int b (ownL_int c (ownL_int e (ownL_none w)))))
theorem Sepa.toAs (h:Sepa W w ps) (j:Nat) (t:Int) {ops:List OpT} {v:Value} (hj:ps[j]?=some (.cel (celOp ops) v)):Sepa W w (ps.set j (.cels (⟨t,ops⟩:AsT).cells (#[.int .i64 t,v]:Array Value).toList)) :=
 h.same j (p' := .cels (⟨t,ops⟩:AsT).cells (#[.int .i64 t,v]:Array Value).toList) hj fun F h=>show OwnL w [.int t,celOp ops] [.int .i64 t,v] F from ownL_cons.2 ⟨_,_,[],F,rfl,rfl,ownC_int.2 ⟨rfl,rfl⟩,ownL_cons.2 ⟨v,[],F,[],rfl,(List.append_nil F).symm,h,ownL_nil.2 ⟨rfl,rfl⟩⟩⟩
theorem Sepa.joinF {w':World} {qs:List Pc} (S:Sepa W w ps) (T:Sepa w w' qs):Sepa W w' (qs++ps):=(S.join T).permQ List.perm_append_comm
theorem Sepa.consNilQ (h:Sepa W w ps) (e s:Nat):Sepa W w (.cel (.row e s []) (.slice none 0 0) :: ps):=(h.pushNil e s).permQ (List.perm_append_comm (l₂:=[_]))
theorem Sepa.consBlkQ (h:Sepa W w ps) (cs:Array Value) (t:TypeId):Sepa W (w.alloc (.cells cs t)) (.blk w.heap.size cs t :: ps):=(h.pushBlk cs t).permQ (List.perm_append_comm (l₂:=[_]))
end
theorem Sepa.moveQ {W w:World} {ps:List Pc} (h:Sepa W w ps) (j:Nat) {p:Pc} (hj:ps[j]?=some p):Sepa W w (p :: ps.eraseIdx j):=by
 refine h.permQ ?_
 obtain ⟨hl,rfl⟩:=List.getElem?_eq_some_iff.1 hj
 rw [List.eraseIdx_eq_take_drop_succ]
 have e:ps=ps.take j++ps[j] :: ps.drop (j+1):=by simp
 exact (List.Perm.of_eq e).trans List.perm_middle
theorem Sepa.consZ {W w:World} {ps:List Pc} (h:Sepa W w ps) (n:Nat) (hn:n≤1048576):Sepa W (w.alloc (zObj n)) (.cel (celI (List.replicate n 0)) (.slice (some ⟨w.heap.size,0,none⟩) n n) :: ps):=(h.pushZ n hn).permQ (List.perm_append_comm (l₂:=[_]))
theorem sg_push (l:List SgT) (x:SgT):celSg (l++[x]) = .row 155 3 (l.flatMap SgT.cells++x.cells):=by unfold celSg;rw [sg_snoc]
theorem op_push (l:List OpT) (x:OpT):celOp (l++[x]) = .row 198 3 (l.flatMap OpT.cells++x.cells):=by unfold celOp;rw [op_snoc]
theorem as_push (l:List AsT) (x:AsT):celAs (l++[x]) = .row 196 2 (l.flatMap AsT.cells++x.cells):=by unfold celAs;rw [as_snoc]
theorem mm_push (l:List MmT) (x:MmT):celMm (l++[x]) = .row 200 4 (l.flatMap MmT.cells++x.cells):=by unfold celMm;rw [List.flatMap_append,List.flatMap_singleton]
/-- A flat module that is being made: its block and its rows, ahead of other pieces. -/
abbrev flP (gF:Nat) (DV:Value) (fl:MdT) (SA:Option Addr) (sc:Nat) (AA:Option Addr) (ac:Nat) (MA:Option Addr) (mc:Nat) (rest:List Pc):List Pc :=
 .blk gF #[DV,.slice SA fl.sigs.length sc,.slice AA fl.asgs.length ac,.slice none 0 0,.slice MA fl.mems.length mc] 165 :: sgP fl.sigs SA sc :: asP fl.asgs AA ac :: mmP fl.mems MA mc :: rest
/-- The contract of the program's add, for the modules below a number. -/
def AddC (P:Program) (F:FuncId) (W:World) (d:List MdT) (DV:Value) (gF f:Nat):Prop :=
 ∀(k:Nat) (top:Bool) (p:Int) (ports:List Int) (fl:MdT) (SA AA MA PA:Option Addr) (sc ac mc pn pc:Nat) (rs:List Pc) (w:World),
  k<f→k<d.length→1≤p→p≤4→FlBd fl→PlIn ports fl.sigs.length→(top=false→ports.length=(portsOf (mdK d k)).length) →
  Sepa W w (flP gF DV fl SA sc AA ac MA mc (.cel (celI ports) (.slice PA pn pc) :: rs)) →
  Calls P F #[.pointer (some ⟨gF,0,none⟩),.int .i64 (k:Int),.int .i64 p,.slice PA pn pc,.bool top] w fun e w' =>
   (∃fl' SA' sc' AA' ac' MA' mc',addM d f top k p ports fl=some fl'∧e = .returned (.bool true)∧Sepa W w' (flP gF DV fl' SA' sc' AA' ac' MA' mc' (.cel (celI ports) (.slice PA pn pc) :: rs))) ∨
   (addM d f top k p ports fl=none∧e = .returned (.bool false)∧Sepa W w' rs)
theorem sgP_push (l:List SgT) (x:SgT) (A:Option Addr) (c:Nat):sgP (l++[x]) A c = .cel (.row 155 3 (l.flatMap SgT.cells++x.cells)) (.slice A (l.length+1) c):=by unfold sgP;rw [sg_push];simp
theorem asP_push (l:List AsT) (x:AsT) (A:Option Addr) (c:Nat):asP (l++[x]) A c = .cel (.row 196 2 (l.flatMap AsT.cells++x.cells)) (.slice A (l.length+1) c):=by unfold asP;rw [as_push];simp
theorem mmP_push (l:List MmT) (x:MmT) (A:Option Addr) (c:Nat):mmP (l++[x]) A c = .cel (.row 200 4 (l.flatMap MmT.cells++x.cells)) (.slice A (l.length+1) c):=by unfold mmP;rw [mm_push];simp
end Go.Proofs.YtlinbdkbbhpdpaaGreat
