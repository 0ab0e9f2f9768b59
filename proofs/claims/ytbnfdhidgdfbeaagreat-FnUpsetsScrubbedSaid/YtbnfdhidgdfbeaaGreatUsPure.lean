/- Upset bits that are scrubbed away: plain lemmas. -/
import Derived.Test.YtbnfdhidgdfbeaaGreatRbPure
namespace Go.Proofs.YtbnfdhidgdfbeaaGreat
set_option maxRecDepth 100000
open Go.RowKit Cw

theorem spN_len {b:Bd} (h:bkF b=true) {ps:List Int} (hps:padsOk b.dev ps=true):(spN b ps).length=tiles b.dev:=by
 have ho:spO b ps=true:=by unfold spO;rw [h];exact hps
 have hl:=ouB_len h ps
 unfold spN
 rw [if_pos ho]
 split
 ·rw [List.length_replicate]
 ·split
  ·rw [zS_length,hl]
  ·exact hl
/-- The board with the bit of the word of each of the first k tiles flipped that c tells. -/
def upT (b:Bd) (c:Nat→Bool) (kk bb:Nat→Nat) (k:Nat):Bd:={ b with frames:=flT b.frames c kk bb k }
section
variable {b:Bd} {c:Nat→Bool} {kk bb:Nat→Nat}
theorem upT_bk (h:Good b) (hf:FlOk b.dev b.frames kk bb) (k:Nat):bkF (upT b c kk bb k)=true:=by
 obtain ⟨_,h2,_⟩:=bk_parts h.bk
 have ha:=bk_alt h.bk
 exact bk_mk (flT_ok hf k) h2 ha
theorem upT_zero:upT b c kk bb 0=b:=by
 unfold upT
 rw [flT_zero]
theorem upT_yes (h:Good b) (hf:FlOk b.dev b.frames kk bb) {k:Nat} (hk:k<b.frames.length) (hc:c k=true):upO (upT b c kk bb k) (k:Nat) (kk k:Nat) (bb k:Nat)=true∧upB (upT b c kk bb k) (k:Nat) (kk k:Nat) (bb k:Nat)=upT b c kk bb (k+1):=by
 have hb:=upT_bk (c:=c) h hf k
 obtain ⟨h1,h2⟩:=flT_step hf hk hc
 constructor
 ·unfold upO
  rw [hb,Bool.true_and]
  exact h1
 ·rw [upB,if_pos hb]
  show ({ upT b c kk bb k with frames:=flipFrame b.dev (flT b.frames c kk bb k) (k:Nat) (kk k:Nat) (bb k:Nat) }:Bd)=_
  rw [h2]
  rfl
theorem upT_no {k:Nat} (hk:k<b.frames.length) (hc:c k=false):upT b c kk bb k=upT b c kk bb (k+1):=by
 unfold upT
 rw [flT_no hk hc]
theorem upT_scrub (h:Good b) (hf:FlOk b.dev b.frames kk bb):scB (upT b c kk bb b.frames.length)=b∧scN (upT b c kk bb b.frames.length) 1=((flN c b.frames.length:Nat):Int)∧scN (upT b c kk bb b.frames.length) 2=0:=by
 have hb:=upT_bk (c:=c) h hf b.frames.length
 have ho:=flT_ok (c:=c) hf b.frames.length
 have hN:∀s:Int,s≠0→scrubN b.dev (flT b.frames c kk bb b.frames.length) s=((if s=1 then flN c b.frames.length else 0:Nat):Int):=fun s hs=>by
  unfold scrubN
  rw [if_pos ho,flT_length,flT_cnt hf hs _ (Nat.le_refl _)]
 have h2:=hN 2 (by omega)
 rw [if_neg (by omega)] at h2
 have h1:=hN 1 (by omega)
 rw [if_pos rfl] at h1
 refine ⟨?_,?_,?_⟩
 ·rw [scB,if_pos hb,if_neg (by show ¬0<scrubN b.dev (flT b.frames c kk bb b.frames.length) 2;rw [h2];decide)]
  show ({ upT b c kk bb b.frames.length with frames:=scrubF b.dev (flT b.frames c kk bb b.frames.length) }:Bd)=b
  rw [flT_scrub hf]
  rfl
 ·rw [scN,if_pos hb];exact h1
 ·rw [scN,if_pos hb];exact h2
end
end Go.Proofs.YtbnfdhidgdfbeaaGreat
