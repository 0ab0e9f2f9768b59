/- Codewords of one flipped bit are repaired; frames with such codewords are scrubbed back: plain lemmas. -/
import Derived.Test.YtignkfhdkcgkgaaGreatDrwR
import Derived.Test.YtignkfhdkcgkgaaGreatOpp
import Derived.Test.YtignkfhdkcgkgaaGreatTileHar
namespace Go.Proofs.YtignkfhdkcgkgaaGreat
set_option maxRecDepth 100000
open Go.RowKit Cw
def Dk (f:List Int):Prop:=∀j,j<f.length→∃x:Nat,x<65536/\f[j]?.getD 0=((encW x:Nat):Int)
/-! ### several rows, each flipped at most once -/
structure Hw (d:Dev) (fs:List (List Int)) (kk bb:Nat→Nat):Prop where
 ok:az d fs=true
 code:∀j:Nat,Dk (fs[j]?.getD [])
 word:∀j,kk j<(fwI d).toNat
 bit:∀j,bb j<22
section
variable {d:Dev} {fs:List (List Int)} {c:Nat→Bool} {kk bb:Nat→Nat}
theorem Hw.len (h:Hw d fs kk bb) {j:Nat} (hj:j<fs.length):(fs[j]?.getD []).length=(fwI d).toNat:=by
 have h1:=(aj h.ok).2.2 j hj
 unfold bN at h1
 rw [Bool.and_eq_true,decide_eq_true_eq] at h1
 omega
end
theorem eB.setMux {lo hi:Nat} {w:World} {n c i j:Nat} {A:Option Addr} {ts:List au} {t:au} (h:eB lo hi w (lH ts) (.slice A n c)) (hx:ts[i]?=some t) (hj:j<t.mux.length) :
  ∃g gm p,A=some ⟨g,0,none⟩/\g<w.heap.size/\w.cell? ⟨g,i * 4,none⟩=some (.slice (some ⟨gm,0,none⟩) t.mux.length p)/\lo<=gm/\gm<hi/\gm<w.heap.size/\w.cell? ⟨gm,j,none⟩=some (.int .i64 (t.mux[j]?.getD 0))/\w.frozen? ⟨gm,j,none⟩=false /\
   ∀y:Int,eB lo hi (w.setCell ⟨gm,j,none⟩ (.int .i64 y)) (lH (ts.set i { t with mux:=t.mux.set j y })) (.slice A n c):=by
 obtain ⟨F,ho,hF,hin⟩:=h
 obtain ⟨g,S,m,p,rfl,hc,hs,hsub,hup⟩:=ho.tMux hF hx
 have hm:=hs.len
 subst hm
 obtain ⟨gm,cur,rfl,_,hgl,hh,_⟩:=hs.block (by omega)
 have hk:=hin gm (hsub gm (by simp [blk]))
 obtain ⟨c1,c2⟩:=hs.cellAt hj
 exact ⟨g,gm,p,rfl,vI hc,hc,hk.1,hk.2,hgl,c1,c2,fun y=>⟨F,hup _ _ (hs.stored hj y) (jk (by simp [blk]) _),hF,hin⟩⟩
end Go.Proofs.YtignkfhdkcgkgaaGreat
