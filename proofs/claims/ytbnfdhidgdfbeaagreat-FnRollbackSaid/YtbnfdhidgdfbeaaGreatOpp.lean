/- FlipBit and FlipFrame: the program's and the reference's answers are one. Words become codewords, by the program. What the operations of a board compute. -/
import Derived.Deep.DrawnRows
import Derived.Test.YtbnfdhidgdfbeaaGreatBk
import Derived.Test.YtbnfdhidgdfbeaaGreatCopies
import Derived.Test.YtbnfdhidgdfbeaaGreatData
import Derived.Test.YtbnfdhidgdfbeaaGreatEsPure
import Derived.Test.YtbnfdhidgdfbeaaGreatNbs
import Derived.Test.YtbnfdhidgdfbeaaGreatStpPure
import Derived.Test.YtbnfdhidgdfbeaaGreatValS2
namespace Go.Proofs.YtbnfdhidgdfbeaaGreat
set_option maxRecDepth 100000
open Go.RowKit

def flipBit (code bit:Int):Int:=if (inR code 0 4194303 && inR bit 0 21)=true then bits .xor .i64 code (2 ^ bit.toNat) else code

attribute [local go_sem ↓] Go.wp_at_zero Go.wp_at_succ
end Go.Proofs.YtbnfdhidgdfbeaaGreat

namespace Go.Proofs.YtbnfdhidgdfbeaaGreat
set_option maxRecDepth 100000
open Go.RowKit Cw

def encL (ws:List Int):List Int:=ws.map fun x=>((encW x.toNat:Nat):Int)
theorem encL_take {ws:List Int} {k:Nat} (h:k<ws.length):encL (ws.take (k+1))=encL (ws.take k)++[((Cw.encW (ws[k]?.getD 0).toNat:Nat):Int)]:=by
 unfold encL
 rw [List.take_add_one,List.getElem?_eq_getElem h,List.map_append]
 rfl
theorem encL_full {ws:List Int} {k:Nat} (h:ws.length=k):encL (ws.take k)=encL ws:=by rw [List.take_of_length_le (by omega)]
end Go.Proofs.YtbnfdhidgdfbeaaGreat

namespace Go.Proofs.YtbnfdhidgdfbeaaGreat
set_option maxRecDepth 100000
open Go.RowKit Cw

def rZ:Reg:=⟨0,0,0,0⟩
def ovS (old:List Int) (ts:List Int) (new:List Int):List Int:=ts.foldl (fun l t=>(l.set (2 * t.toNat) (old[2 * t.toNat]?.getD 0)).set (2 * t.toNat+1) (old[2 * t.toNat+1]?.getD 0)) new
def zS (ts:List Int) (l:List Int):List Int:=ts.foldl (fun l t=>l.set t.toNat 0) l
def abF (sv:List (List Int)) (ts:List Int) (fs:List (List Int)):List (List Int):=ts.foldl (fun l t=>l.set t.toNat (sv[t.toNat]?.getD [])) fs
theorem ovS_snoc (old ts:List Int) (t:Int) (new:List Int):ovS old (ts++[t]) new=((ovS old ts new).set (2 * t.toNat) (old[2 * t.toNat]?.getD 0)).set (2 * t.toNat+1) (old[2 * t.toNat+1]?.getD 0):=by simp [ovS]
theorem zS_snoc (ts:List Int) (t:Int) (l:List Int):zS (ts++[t]) l=(zS ts l).set t.toNat 0:=by simp [zS]
theorem abF_snoc (sv:List (List Int)) (ts:List Int) (t:Int) (l:List (List Int)):abF sv (ts++[t]) l=(abF sv ts l).set t.toNat (sv[t.toNat]?.getD []):=by simp [abF]
theorem take_snoc {ts:List Int} {k:Nat} (h:k<ts.length):ts.take (k+1)=ts.take k++[ts[k]?.getD 0]:=by rw [List.take_add_one,List.getElem?_eq_getElem h];rfl
theorem ovS_take {old ts new:List Int} {k:Nat} (h:k<ts.length):ovS old (ts.take (k+1)) new=((ovS old (ts.take k) new).set (2 * (ts[k]?.getD 0).toNat) (old[2 * (ts[k]?.getD 0).toNat]?.getD 0)).set (2 * (ts[k]?.getD 0).toNat+1) (old[2 * (ts[k]?.getD 0).toNat+1]?.getD 0):=by rw [take_snoc h,ovS_snoc]
theorem zS_take {ts l:List Int} {k:Nat} (h:k<ts.length):zS (ts.take (k+1)) l=(zS (ts.take k) l).set (ts[k]?.getD 0).toNat 0:=by rw [take_snoc h,zS_snoc]
theorem abF_take {sv:List (List Int)} {ts:List Int} {l:List (List Int)} {k:Nat} (h:k<ts.length):abF sv (ts.take (k+1)) l=(abF sv (ts.take k) l).set (ts[k]?.getD 0).toNat (sv[(ts[k]?.getD 0).toNat]?.getD []):=by rw [take_snoc h,abF_snoc]
theorem ovS_length (old ts:List Int):∀new:List Int,(ovS old ts new).length=new.length:=by
 induction ts with
 | nil=>intro new;rfl
 | cons t ts ih=>intro new;exact (ih _).trans (by simp)
theorem abF_length (sv:List (List Int)) (ts:List Int):∀l:List (List Int),(abF sv ts l).length=l.length:=by
 induction ts with
 | nil=>intro new;rfl
 | cons t ts ih=>intro new;exact (ih _).trans (by simp)
theorem regTo_in {d:Dev} {r:Reg} {k:Nat} {t:Int} (h:t∈regTo d r k):0≤t∧t<k∧inReg d r t=true:=by
 induction k with
 | zero=>simp [regTo] at h
 | succ k ih =>
  rw [regTo,List.mem_append] at h
  rcases h with h|h
  ·have:=ih h;exact ⟨this.1,by omega,this.2.2⟩
  ·split at h
   ·rename_i hr
    rw [List.mem_singleton] at h
    subst h
    exact ⟨by omega,by omega,hr⟩
   ·cases h
theorem regTiles_in {d:Dev} {r:Reg} {j:Nat} (h:j<(regTiles d r).length):0≤(regTiles d r)[j]?.getD 0∧(regTiles d r)[j]?.getD 0<(tiles d:Int):=by
 rw [List.getElem?_eq_getElem h,Option.getD_some]
 have hm:=List.getElem_mem h
 revert hm
 generalize (regTiles d r)[j]=t
 unfold regTiles
 split
 ·intro hm;have:=regTo_in hm;exact ⟨this.1,this.2.1⟩
 ·intro hm;cases hm

/-- All parts of a board are at most M long. -/
def BdB (M:Nat) (b:Bd):Prop:=size2 b.frames≤M∧b.state.length≤M∧size2 b.saved≤M
theorem BdB.ok {M:Nat} {b:Bd} (h:BdB M b) (hM:M≤1099511627776):BdOk b:=⟨Nat.le_trans h.1 hM,Nat.le_trans h.2.1 hM,Nat.le_trans h.2.2 hM⟩
theorem BdB.n {M:Nat} {b:Bd} (h:BdB M b):bdN b≤3 * M:=by
 obtain ⟨h1,h2,h3⟩:=h
 unfold size2 at h1 h3
 unfold bdN
 omega

theorem bk_parts {b:Bd} (h:bkF b=true):framesOk b.dev b.frames=true∧stOk b.dev b.state=true∧(b.phase=0∨b.phase=1∨b.phase=2)∧(b.phase=1→rqF b.dev b.saved b.reg=true)∧(b.phase≠1→b.reg=rZ∧b.saved=[]):=by
 unfold bkF at h
 simp only [Bool.and_eq_true] at h
 obtain ⟨h1,h2,h3⟩:=h
 refine ⟨h1,h2,?_⟩
 by_cases hp:b.phase=0∨b.phase=2
 ·rw [if_pos hp] at h3
  simp only [Bool.and_eq_true,regZ,decide_eq_true_iff] at h3
  obtain ⟨⟨z0,z1,z2,z3⟩,z4⟩:=h3
  refine ⟨by omega,by omega,fun _=>⟨?_,List.eq_nil_of_length_eq_zero z4⟩⟩
  cases hr:b.reg with
  | mk a1 a2 a3 a4=>rw [hr] at z0 z1 z2 z3;cases z0;cases z1;cases z2;cases z3;rfl
 ·rw [if_neg hp] at h3
  simp only [Bool.and_eq_true,decide_eq_true_iff] at h3
  exact ⟨by omega,fun _=>h3.2,by omega⟩
theorem rq_parts {d:Dev} {fs:List (List Int)} {r:Reg} (h:rqF d fs r=true):framesOk d fs=true∧regOk d r=true:=by
 unfold rqF at h
 simp only [Bool.and_eq_true] at h
 exact ⟨h.1,h.2.1⟩
def beO (b:Bd) (r:Reg):Bool:=bkF b && (decide (b.phase=0) && rqF b.dev b.frames r)
def beB (b:Bd) (r:Reg):Bd:=if beO b r=true then ⟨b.dev,b.frames,b.state,1,r,b.frames⟩ else b
def wrO (b:Bd) (t:Int) (ws:List Int):Bool:=bkF b && (decide (b.phase=1) && (inR t 0 ((b.frames.length:Int) - 1) && (inReg b.dev b.reg t && wordsOk ws (fwI b.dev) 65535)))
def wrB (b:Bd) (t:Int) (ws:List Int):Bd:=if wrO b t ws=true then { b with frames:=b.frames.set t.toNat (encL ws) } else b
def abO (b:Bd):Bool:=bkF b && decide (b.phase=1)
def rbB (b:Bd):Bd:=⟨b.dev,abF b.saved (regTiles b.dev b.reg) b.frames,b.state,0,rZ,[]⟩
def abB (b:Bd):Bd:=if abO b=true then rbB b else b
theorem abF_len {sv:List (List Int)} (hv:∀j:Nat,(sv[j]?.getD []).length≤11) (ts:List Int):∀{l:List (List Int)},(∀j,j<l.length→(l[j]?.getD []).length≤11)→∀j,j<(abF sv ts l).length→((abF sv ts l)[j]?.getD []).length≤11:=by
 induction ts with
 | nil=>intro l h;exact h
 | cons t ts ih =>
  intro l h
  refine ih (l:=l.set t.toNat (sv[t.toNat]?.getD [])) fun j hj=>?_
  rw [List.length_set] at hj
  rcases Nat.decEq t.toNat j with e|e
  ·rw [List.getElem?_set_ne e];exact h j hj
  ·subst e;rw [List.getElem?_set_self hj];exact hv _
theorem abO_parts {b:Bd} (h:abO b=true):bkF b=true∧b.phase=1:=by
 unfold abO at h
 simpa using h
theorem rbB_bb {M:Nat} (hM:432≤M) {b:Bd} (h:BdB M b) (ho:abO b=true):BdB M (rbB b):=by
 obtain ⟨hb,hp⟩:=abO_parts ho
 obtain ⟨hf,-,-,hr,-⟩:=bk_parts hb
 have hs:=(rq_parts (hr hp)).1
 exact ⟨Nat.le_trans (rows_le (abF_len (frame_len hs) _ (fun j _=>frame_len hf j)) (by show (abF _ _ _).length≤36;rw [abF_length];exact (frames_n hf).2)) hM,h.2.1,show size2 ([]:List (List Int))≤M by simp [size2,sizeTo]⟩
/-- Whether all codewords of a tile are clean. -/
def clnR (f:List Int):Bool:=(List.range f.length).all fun j=>(decW (f[j]?.getD 0)).2==0
def clnF (fs:List (List Int)) (ts:List Int):Bool:=(List.range ts.length).all fun j=>clnR (fs[(ts[j]?.getD 0).toNat]?.getD [])
def coC (b:Bd) (x:Int):Bool:=clnF b.frames (regTiles b.dev b.reg) && decide (fcsum b.dev b.frames (regTiles b.dev b.reg)=x)
def coO (b:Bd) (x:Int):Bool:=abO b && coC b x
def cmB (b:Bd):Bd:=⟨b.dev,b.frames,ovS (startF b.dev b.frames) (regTiles b.dev b.reg) b.state,0,rZ,[]⟩
def coB (b:Bd) (x:Int):Bd:=if abO b=true then (if coC b x=true then cmB b else rbB b) else b
def spO (b:Bd) (ps:List Int):Bool:=bkF b && padsOk b.dev ps
def nxB (b:Bd) (ps:List Int):List Int:=nextF b.dev (tilesOf b.dev b.frames) b.state ps
def ouB (b:Bd) (ps:List Int):List Int:=outF b.dev (tilesOf b.dev b.frames) b.state ps
def spB (b:Bd) (ps:List Int):Bd:=if spO b ps=true then (if b.phase=2 then b else if b.phase=1 then { b with state:=ovS b.state (regTiles b.dev b.reg) (nxB b ps) } else { b with state:=nxB b ps }) else b
def spN (b:Bd) (ps:List Int):List Int:=if spO b ps=true then (if b.phase=2 then List.replicate (tiles b.dev) 0 else if b.phase=1 then zS (regTiles b.dev b.reg) (ouB b ps) else ouB b ps) else []
theorem nxB_len (b:Bd) (ps:List Int):(nxB b ps).length=b.state.length:=nextTo_length _ _ _ _ _
theorem tilesOf_len {d:Dev} {fs:List (List Int)}:(tilesOf d fs).length=fs.length:=by simp [tilesOf]
theorem ouB_len {b:Bd} (h:bkF b=true) (ps:List Int):(ouB b ps).length=tiles b.dev:=by
 unfold ouB outF
 rw [outTo_length,tilesOf_len]
 exact (frames_n (bk_parts h).1).1
end Go.Proofs.YtbnfdhidgdfbeaaGreat
