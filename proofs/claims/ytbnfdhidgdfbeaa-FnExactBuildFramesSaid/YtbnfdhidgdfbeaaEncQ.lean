/- Writing tiles into words: bits put one behind the other: the program. Valid configurations of tiles, and how they are encoded: the program. -/
import Derived.Test.YtbnfdhidgdfbeaaDeco
import Derived.Test.YtbnfdhidgdfbeaaEmpty
import Derived.Test.YtbnfdhidgdfbeaaEncT
import Derived.Test.YtbnfdhidgdfbeaaResc
import Derived.Test.YtbnfdhidgdfbeaaRt3
import Derived.Test.YtbnfdhidgdfbeaaTileRd
namespace Go.Proofs.Ytbnfdhidgdfbeaa
set_option maxRecDepth 100000
open Go.RowKit Cw

/-- Only the blocks g and h may have changed. -/
structure Two2 (g h:Nat) (w w':World):Prop where
 os:w'.os=w.os
 tape:w'.tape=w.tape
 output:w'.output=w.output
 size:w'.heap.size=w.heap.size
 block:∀b,b≠g→b≠h→w'.heap[b]?=w.heap[b]?
theorem Two2.refl (g h:Nat) (w:World):Two2 g h w w:=⟨rfl,rfl,rfl,rfl,fun _ _ _=>rfl⟩
theorem Two2.drew {g h:Nat} {w w':World} (k:Two2 g h w w'):Two2 g h w w'.drew:=⟨k.os,k.tape,k.output,k.size,k.block⟩
theorem Two2.set {g h:Nat} {w w':World} (k:Two2 g h w w') {p:Addr} (hp:p.block=g∨p.block=h) (v:Value):Two2 g h w (w'.setCell p v):=by
 have b:=(Below.refl p.block w').setCell (p:=p) (Nat.le_refl _) v
 exact ⟨b.os.trans k.os,b.tape.trans k.tape,b.output.trans k.output,by rw [World.size_setCell];exact k.size,fun i h1 h2=>(Below.heap_setCell w' p v i (by rcases hp with e|e <;> omega)).trans (k.block i h1 h2)⟩
theorem Two2.trans {g h:Nat} {a b c:World} (k:Two2 g h a b) (l:Two2 g h b c):Two2 g h a c:=⟨l.os.trans k.os,l.tape.trans k.tape,l.output.trans k.output,l.size.trans k.size,fun i h1 h2=>(l.block i h1 h2).trans (k.block i h1 h2)⟩
set_option maxHeartbeats 1000000 in
theorem leConfigOk_any (S:Option Addr) (m p:Nat) (e:Le) (w:World) (hS:Ints w S m e.sel) (hm:m≤1099511627776) :
  Calls Try.prog 124 #[.agg #[.slice S m p,.int .i64 e.mask,.int .i64 e.flop,.int .i64 e.init]] w fun e' w'=>e' = .returned (.bool (leOk e))∧Below w.heap.size w w':=by
 have HB0:=Lib.hid (below_new (Below.refl w.heap.size w) (.cells #[.slice S m p,.int .i64 e.mask,.int .i64 e.flop,.int .i64 e.init] 107))
 have HI:=Lib.hid hS
 have HX:=Lib.hid hS.1
 clear hS
 by_cases h4:m=4
 ·subst h4
  have HL4:Hid (leOk e=(inR e.mask 0 65535 && (inR e.flop 0 1 && (inR e.init 0 1 && allIn e.sel 7)))):=by show _=_;unfold leOk;rw [HX.out];rfl
  go_enter Try.func124,Try.ntmps124
  cases h1:inR e.mask 0 65535 with
  | false =>
   go_wp2_with (go_at_call 57;refine (inRange_any _ _ _ _).mono ?_;rintro e' w' ⟨rfl,rfl⟩;rw [h1])
   go_ret
   exact ⟨ret_bool (by rw [HL4.out,h1];rfl),HB0.out⟩
  | true =>
   cases h2:inR e.flop 0 1 with
   | false =>
    go_wp2_with (go_at_call 57;refine (inRange_any _ _ _ _).mono ?_;rintro e' w' ⟨rfl,rfl⟩;first|rw [h1]|rw [h2])
    go_ret
    exact ⟨ret_bool (by rw [HL4.out,h1,h2];rfl),HB0.out⟩
   | true =>
    cases h3:inR e.init 0 1 with
    | false =>
     go_wp2_with (go_at_call 57;refine (inRange_any _ _ _ _).mono ?_;rintro e' w' ⟨rfl,rfl⟩;first|rw [h1]|rw [h2]|rw [h3])
     go_ret
     exact ⟨ret_bool (by rw [HL4.out,h1,h2,h3];rfl),HB0.out⟩
    | true =>
     have HL5:Hid (leOk e=allIn e.sel 7):=by show _=_;rw [HL4.out,h1,h2,h3];rfl
     go_wp2_with (go_at_call 57;refine (inRange_any _ _ _ _).mono ?_;rintro e' w' ⟨rfl,rfl⟩;first|rw [h1]|rw [h2]|rw [h3])
     obtain ⟨hx,hA⟩:=HI.out.below HB0.out
     clear hx
     go_loopw [30] (fun i wr=>∃k:Nat,k≤4∧i = .int .i64 k∧(∀j,j<k→inR (e.sel[j]?.getD 0) 0 7=true)∧(w.alloc (.cells #[.slice S 4 p,.int .i64 e.mask,.int .i64 e.flop,.int .i64 e.init] 107))=wr) (fun i _=>4 - (intOf i).toNat)
     case atStart=>exact ⟨0,Nat.zero_le _,rfl,by intro j hj;omega,rfl⟩
     case round =>
      obtain ⟨k,hk,rfl,hall,rfl⟩:=hrel
      have HALL:=Lib.hid hall
      clear hall
      by_cases hlt:k<4
      ·obtain ⟨b,o,rfl,hb,hc⟩:=hA (by omega)
       have hck:=hc k hlt
       clear hc
       have HB:Hid (inR (e.sel[k]?.getD 0) 0 7=false→allIn e.sel 7=false):=fun h=>allIn_bad (by rw [HX.out];exact hlt) h
       have HG:Hid (inR (e.sel[k]?.getD 0) 0 7=true→∀j,j<k+1→inR (e.sel[j]?.getD 0) 0 7=true):=fun h=>all_succ HALL.out h
       generalize e.sel[k]?.getD 0=x at *
       cases hin:inR x 0 7 with
       | true =>
        have HG':=Lib.hid (HG.out hin)
        clear HG HB
        go_wp2_with (go_at_call 57;refine (inRange_any _ _ _ _).mono ?_;rintro e' w' ⟨rfl,rfl⟩)
        go_roundw
        case rel=>exact ⟨k+1,by omega,by go_num,HG'.out,trivial⟩
        case measure=>simp [intOf];omega
       | false =>
        have HB':=Lib.hid (HB.out hin)
        clear HG HB
        go_wp2_with (go_at_call 57;refine (inRange_any _ _ _ _).mono ?_;rintro e' w' ⟨rfl,rfl⟩)
        go_ret
        exact ⟨ret_bool (by rw [HL5.out,HB'.out]),HB0.out⟩
      ·have hkn:k=4:=by omega
       subst hkn
       go_wp2_with fail
       go_ret
       exact ⟨ret_bool (by rw [HL5.out,allIn_good (by rw [HX.out];exact HALL.out)]),HB0.out⟩
 ·have d4:((m:Int) != 4)=true:=by simp;omega
  go_enter Try.func124,Try.ntmps124
  go_wp2_with fail
  go_ret
  exact ⟨ret_bool (by unfold leOk;rw [HX.out,decide_eq_false h4];rfl),HB0.out⟩
set_option maxHeartbeats 4000000 in
theorem put_any (g gw N:Nat) (bs:List Nat) (hb:Bits01 bs) (k cnt x:Nat) (w:World) (hg:w.heap[g]?=some (.cells #[.slice (some ⟨gw,0,none⟩) N N,.int .i64 (k:Int)] 113 (0,0))) (hw:w.heap[gw]?=some (.cells (arr (packI N bs k)) 3 (0,0)))
  (hx:∀i,i<cnt→bs[k+i]?.getD 0=bit x i) (hc:cnt≤16) (hxb:x<65536) (hN:k+cnt≤16 * N) (hN2:N≤1000) (hne:g≠gw) :
  Calls Try.prog 95 #[.pointer (some ⟨g,0,none⟩),.int .i64 (x:Int),.int .i64 (cnt:Int)] w fun e' w'=>e' = .returned (.tuple #[])∧w'.heap[g]?=some (.cells #[.slice (some ⟨gw,0,none⟩) N N,.int .i64 ((k+cnt:Nat):Int)] 113 (0,0))∧w'.heap[gw]?=some (.cells (arr (packI N bs (k+cnt))) 3 (0,0))∧Two2 g gw w w':=by
 go_enter Try.func95,Try.ntmps95
 go_wp2_with fail
 go_loopw [6] (fun i wr=>∃j:Nat,j≤cnt∧i = .int .i64 j∧wr.heap[g]?=some (.cells #[.slice (some ⟨gw,0,none⟩) N N,.int .i64 ((k+j:Nat):Int)] 113 (0,0))∧wr.heap[gw]?=some (.cells (arr (packI N bs (k+j))) 3 (0,0))∧Two2 g gw w wr) (fun i _=>cnt - (intOf i).toNat)
 case atStart=>exact ⟨0,Nat.zero_le _,rfl,hg,hw,Two2.refl _ _ _⟩
 case round =>
  obtain ⟨j,hj,rfl,hg2,hw2,ht⟩:=hrel
  have HG:=Lib.hid hg2
  have HW:=Lib.hid hw2
  have HT:=Lib.hid ht
  clear hg2 hw2 ht
  by_cases hlt:j<cnt
  ·have hdj:decide ((j:Int)<(cnt:Int))=true:=by simp;omega
   generalize ha:k+j=a at *
   have HA:=Lib.hid ha
   have hbit:=hx j hlt
   have e1:(a:Int).tmod 16=((a % 16:Nat):Int):=by rw [Int.tmod_eq_emod_of_nonneg (by omega)];omega
   have e2:IntKind.i64.wrap ((a:Int).tdiv 16)=((a / 16:Nat):Int):=by rw [IntWalk.i64_quo _ _ ⟨by omega,by omega,by omega⟩];omega
   have q0:(0:Int)≤((a / 16:Nat):Int):=by omega
   have q1:((a / 16:Nat):Int)<(N:Int):=by omega
   have r0:(0:Int)≤((a % 16:Nat):Int):=by omega
   have r1:((a % 16:Nat):Int)<16:=by omega
   have f1:IntKind.i64.wrap ((a:Int) / 16)=(a:Int) / 16:=IntWalk.i64_in _ (by omega)
   have f2:IntKind.u64.wrap (j:Int)=(j:Int):=by rw [IntKind.wrap_u64];omega
   have f3:IntKind.u64.wrap ((a:Int) % 16)=(a:Int) % 16:=by rw [IntKind.wrap_u64];omega
   have p0:(0:Int)≤(a:Int) / 16:=by omega
   have p1:(a:Int) / 16<(N:Int):=by omega
   have p2:(0:Int)≤(a:Int) % 16:=by omega
   have p3:(a:Int) % 16<16:=by omega
   have z0:=cell_heap (k:=0) HG.out rfl
   have z1:=cell_heap (k:=1) HG.out rfl
   have zw:=cell_heap (k:=a / 16) HW.out (arr_get (by rw [packI_length];omega))
   have yw:=frozen_heap HW.out (a / 16)
   have yg:=frozen_heap HG.out 1
   rw [packI_get] at zw
   have zw2:wr.cell? ⟨gw,((a:Int) / 16).toNat,none⟩=some (.int .i64 (((packTo N bs a)[a / 16]?.getD 0:Nat):Int)):=by rw [show ((a:Int) / 16).toNat=a / 16 by omega];exact zw
   have yw2:wr.frozen? ⟨gw,((a:Int) / 16).toNat,none⟩=false:=by rw [show ((a:Int) / 16).toNat=a / 16 by omega];exact yw
   rw [ha] at hbit
   have HBIT:Hid (bit x j=bs[a]?.getD 0):=hbit.symm
   clear ha hbit
   go_wp2_with fail
   have hidx:((a:Int) / 16).toNat=a / 16:=by omega
   have hmod:((a:Int) % 16).toNat=a % 16:=by omega
   have hval:bits .or .i64 (((packTo N bs a)[a / 16]?.getD 0:Nat):Int) (wrap64 (bits .and .i64 ((x:Int) / 2 ^ j) 1 * 2 ^ (a % 16)))=(((packTo N bs a)[a / 16]?.getD 0+(bs[a]?.getD 0) * 2 ^ (a % 16):Nat):Int):=by
    rw [shr_bit x j (by omega),HBIT.out]
    have h1:=packTo_top (N:=N) hb a
    have h2:bs[a]?.getD 0≤1:=hb a
    generalize (packTo N bs a)[a / 16]?.getD 0=P at *
    exact or_bit h1 h2 (by omega)
   have HVAL:=Lib.hid hval
   have HPS:=Lib.hid (packI_succ N bs a)
   have HNE2:gw≠g:=fun e=>hne e.symm
   clear hval hidx hmod
   generalize (packTo N bs a)[a / 16]?.getD 0=P at *
   go_region_with (fail)
   all_goals
    go_wp2_with fail
    go_roundw
    case rel =>
     refine ⟨j+1,by omega,by go_num,?_,?_,?_⟩
     ·refine heap_setAt (cs:=#[.slice (some ⟨gw,0,none⟩) N N,.int .i64 (a:Int)]) ?_ _ (by rw [show ((k+(j+1):Nat):Int)=(a:Int)+1 by have:=HA.out;omega];rfl)
      repeat (first|exact HG.out|refine heap_dr ?_|refine heap_setFar ?_ hne _)
     ·refine heap_setFar ?_ HNE2 _
      rw [show k+(j+1)=a+1 by have:=HA.out;omega,HPS.out,←arr_set,←HVAL.out]
      repeat (first|exact heap_set HW.out (a / 16) _|exact heap_set (heap_dr HW.out) (a / 16) _|refine heap_dr ?_)
     ·repeat (first|exact HT.out|refine Two2.set ?_ (by simp) _|refine Two2.drew ?_)
    case measure=>simp [intOf];omega
  ·have hjc:j=cnt:=by omega
   subst hjc
   have hdj:decide ((j:Int)<(j:Int))=false:=by simp
   go_wp2_with fail
   go_end0
   exact ⟨rfl,HG.out,HW.out,HT.out⟩
end Go.Proofs.Ytbnfdhidgdfbeaa

namespace Go.Proofs.Ytbnfdhidgdfbeaa
set_option maxRecDepth 100000
open Go.RowKit Cw

/-! ### the bits of a tile -/
theorem tile_mux_bit {t:Tile} {M i j:Nat} (hm:t.mux.length=M) (hi:i<M) (hj:j<5):t.bits[5 * i+j]?.getD 0=bit (t.mux[i]?.getD 0).toNat j:=by
 have hx:t.mux[i]?=some (t.mux[i]?.getD 0):=getD_some 0 (by omega)
 have hl:=flat_length (putB_length 5) t.mux
 unfold Tile.bits
 rw [getD_append_left (by rw [hl,hm];omega),flat_get (putB_length 5) hx hj,putB_get hj]
 rfl
theorem tile_les_bit {t:Tile} {M:Nat} {e0 e1:Le} (hm:t.mux.length=M) (hl:t.les=[e0,e1]) (h0:e0.bits.length=30) (h1:e1.bits.length=30) {e q:Nat} (he:e<2) (hq:q<30):t.bits[5 * M+30 * e+q]?.getD 0=(t.les[e]?.getD Le.zero).bits[q]?.getD 0:=by
 have hf:=flat_length (putB_length 5) t.mux
 have hff:(([e0,e1]:List Le).flatMap Le.bits)=e0.bits++(e1.bits++[]):=rfl
 unfold Tile.bits
 rw [getD_append_right (j:=30 * e+q) (by rw [hf,hm];omega),hl,hff]
 have h:e=0∨e=1:=by omega
 rcases h with rfl|rfl
 ·rw [getD_append_left (by simp [h0,h1];omega),getD_append_left (by rw [h0];omega)]
  simp
 ·rw [getD_append_left (by simp [h0,h1];omega),getD_append_right (j:=q) (by rw [h0]),getD_append_left (by rw [h1];omega)]
  rfl
theorem tile_pad_bit {t:Tile} {M:Nat} {e0 e1:Le} (hm:t.mux.length=M) (hl:t.les=[e0,e1]) (h0:e0.bits.length=30) (h1:e1.bits.length=30) {q:Nat} (hq:q<2):t.bits[5 * M+60+q]?.getD 0=bit t.pad.toNat q:=by
 have hf:=flat_length (putB_length 5) t.mux
 have hff:(([e0,e1]:List Le).flatMap Le.bits)=e0.bits++(e1.bits++[]):=rfl
 unfold Tile.bits
 rw [getD_append_right (j:=60+q) (by rw [hf,hm];omega),hl,hff,getD_append_right (j:=q) (by simp [h0,h1]),getD_append_left (by rw [putB_length];omega),putB_get hq]
 rfl
theorem tile_ram_bit {t:Tile} {M:Nat} {e0 e1:Le} (hm:t.mux.length=M) (hl:t.les=[e0,e1]) (h0:e0.bits.length=30) (h1:e1.bits.length=30) {q:Nat} (hq:q<5):t.bits[5 * M+62+q]?.getD 0=bit t.ram.toNat q:=by
 have hf:=flat_length (putB_length 5) t.mux
 have hff:(([e0,e1]:List Le).flatMap Le.bits)=e0.bits++(e1.bits++[]):=rfl
 unfold Tile.bits
 rw [getD_append_right (j:=62+q) (by rw [hf,hm];omega),hl,hff,getD_append_right (j:=2+q) (by simp [h0,h1];omega),getD_append_right (j:=q) (by rw [putB_length]),putB_get hq]
 rfl
theorem le_sel_bit {e:Le} (hs:e.sel.length=4) {j i:Nat} (hj:j<4) (hi:i<3):e.bits[3 * j+i]?.getD 0=bit (e.sel[j]?.getD 0).toNat i:=by
 have hx:e.sel[j]?=some (e.sel[j]?.getD 0):=getD_some 0 (by omega)
 have hl:=flat_length (putB_length 3) e.sel
 unfold Le.bits
 rw [getD_append_left (by rw [hl,hs];omega),flat_get (putB_length 3) hx hi,putB_get hi]
 rfl
theorem le_rest_bit {e:Le} (hs:e.sel.length=4):(∀i,i<16→e.bits[12+i]?.getD 0=bit e.mask.toNat i)∧(∀i,i<1→e.bits[28+i]?.getD 0=bit e.flop.toNat i)∧(∀i,i<1→e.bits[29+i]?.getD 0=bit e.init.toNat i):=by
 have hl:=flat_length (putB_length 3) e.sel
 refine ⟨fun i hi=>?_,fun i hi=>?_,fun i hi=>?_⟩
 ·unfold Le.bits
  rw [getD_append_right (j:=i) (by rw [hl,hs]),getD_append_left (by rw [putB_length];omega),putB_get hi]
  rfl
 ·unfold Le.bits
  rw [getD_append_right (j:=16+i) (by rw [hl,hs];omega),getD_append_right (j:=i) (by rw [putB_length]),getD_append_left (by rw [putB_length];omega),putB_get hi]
  rfl
 ·unfold Le.bits
  rw [getD_append_right (j:=17+i) (by rw [hl,hs];omega),getD_append_right (j:=1+i) (by rw [putB_length];omega),getD_append_right (j:=i) (by rw [putB_length]),putB_get hi]
  rfl
set_option maxHeartbeats 4000000 in
theorem tileConfigOk_any (d:Dev) (t:Tile) (MA:Option Addr) (mn mc:Nat) (LA:Option Addr) (ln lc:Nat) (w:World) (hM:Ints w MA mn t.mux) (hL:RdC w w.heap.size (celE t.les) (.slice LA ln lc)) (hmn:mn≤1099511627776) (hsl:∀e:Nat,(t.les[e]?.getD Le.zero).sel.length≤1099511627776) :
  Calls Try.prog 94 #[.agg #[.int .i64 d.W,.int .i64 d.H,.int .i64 d.T,.int .i64 d.R],.agg #[.slice MA mn mc,.slice LA ln lc,.int .i64 t.pad,.int .i64 t.ram]] w fun e w'=>e = .returned (.bool (tileOk d t))∧Below w.heap.size w w':=by
 have HTK:Hid (tileOk d t=(devOk d && (decide (t.mux.length=muxN d) && (decide (t.les.length=2) && (inR t.pad 0 3 && (inR t.ram 0 31 && (allIn t.mux 31 && (leOk (t.les[0]?.getD Le.zero) && leOk (t.les[1]?.getD Le.zero))))))))):=rfl
 have HLL:=Lib.hid hL.elen
 have HML:=Lib.hid hM.1
 have HM:=Lib.hid hM
 have HL:=Lib.hid hL
 have HSL:=Lib.hid hsl
 have X0:=Lib.hid (heap_al (.cells #[.slice MA mn mc,.slice LA ln lc,.int .i64 t.pad,.int .i64 t.ram] 52) (heap_new w (.cells #[.int .i64 d.W,.int .i64 d.H,.int .i64 d.T,.int .i64 d.R] 29)))
 have X1:=Lib.hid (heap_newAt (w:=w.alloc (.cells #[.int .i64 d.W,.int .i64 d.H,.int .i64 d.T,.int .i64 d.R] 29)) (o := .cells #[.slice MA mn mc,.slice LA ln lc,.int .i64 t.pad,.int .i64 t.ram] 52) (g:=w.heap.size+1) (by simp))
 have HB0:=Lib.hid (below_new (below_new (Below.refl w.heap.size w) (.cells #[.int .i64 d.W,.int .i64 d.H,.int .i64 d.T,.int .i64 d.R] 29)) (.cells #[.slice MA mn mc,.slice LA ln lc,.int .i64 t.pad,.int .i64 t.ram] 52))
 have HPR:=Lib.hid (fun w=>inRange_any t.pad 0 3 w)
 have HRR:=Lib.hid (fun w=>inRange_any t.ram 0 31 w)
 have HMC0:=Lib.hid (fun (h:devOk d=true) (w:World)=>muxCount_any d w (by have:=devOk_bd h;omega) (by have:=devOk_bd h;omega))
 have HMX:=Lib.hid (fun (h:devOk d=true)=>(muxN_bd h).1)
 have HDO:=Lib.hid (fun w=>deviceOk_any d w)
 clear hM hL hsl
 go_enter Try.func94,Try.ntmps94
 go_wp2_with fail
 generalize hW:((w.alloc (.cells #[.int .i64 d.W,.int .i64 d.H,.int .i64 d.T,.int .i64 d.R] 29)).alloc (.cells #[.slice MA mn mc,.slice LA ln lc,.int .i64 t.pad,.int .i64 t.ram] 52))=w0 at *
 clear hW
 have hl0':=heap_lt0 X0.out
 have hl1':=heap_lt0 X1.out
 cases hd:devOk d with
 | false =>
  have HNO:Hid (tileOk d t=false):=by show _=_;rw [HTK.out,hd];rfl
  rw [hd] at HDO
  clear hd
  obtain ⟨z0,z1,z2,z3⟩:=cell4 X0.out
  obtain ⟨y0,y1,y2,y3⟩:=cell4 X1.out
  go_wp2_with fail
  have hsub:=sub_ne w0
  have hsc:=sub_cell w0
  refine wp_region_below w0 (by kernel_rfl) (by kernel_rfl) (Below.refl _ _) ?_
  repeat (go_big_quiet_step ((first
   | (go_at_call 46;with_reducible exact calls_sub (HDO.out _))
   | (go_at_call 101;with_reducible exact calls_sub (HMC.out _))
   | (go_at_call 57;(first|with_reducible exact calls_sub_same (HPR.out _)|with_reducible exact calls_sub_same (HRR.out _))))))
  refine wpQuiet_nil ?_
  rintro w2 ⟨⟨w9,hD⟩,hw9⟩
  replace hw9:w2=w9:=hw9
  subst hw9
  clear hsub hsc

  go_wp2_with fail
  go_ret
  exact ⟨ret_bool HNO.out.symm,below_tr HB0.out hD⟩
 | true =>
  have HMC:=Lib.hid (HMC0.out hd)
  have hmx:=HMX.out hd
  have hbd:=devOk_bd hd
  have HD:=Lib.hid hd
  rw [hd] at HDO
  clear HMC0 hd
  by_cases hm:t.mux.length=muxN d
  ·have q1:((mn:Int) != 5+4 * d.T)=false:=by have:=HML.out;simp;omega
   have HM1:=Lib.hid hm
   have HX:Hid (muxN d≤21):=(muxN_bd HD.out).2.2.1
   clear hm hmx
   by_cases h2:t.les.length=2
   ·have HL2:=Lib.hid h2
    have hln:ln=2:=by have:=HLL.out;omega
    subst hln
    clear h2
    cases hp:inR t.pad 0 3 with
    | false =>
     have HNO:Hid (tileOk d t=false):=by show _=_;rw [HTK.out,HD.out,decide_eq_true HM1.out,decide_eq_true HL2.out,hp];rfl
     rw [hp] at HPR
     clear hp
     obtain ⟨z0,z1,z2,z3⟩:=cell4 X0.out
     obtain ⟨y0,y1,y2,y3⟩:=cell4 X1.out
     go_wp2_with fail
     have hsub:=sub_ne w0
     have hsc:=sub_cell w0
     refine wp_region_below w0 (by kernel_rfl) (by kernel_rfl) (Below.refl _ _) ?_
     repeat (go_big_quiet_step ((first
      | (go_at_call 46;with_reducible exact calls_sub (HDO.out _))
      | (go_at_call 101;with_reducible exact calls_sub (HMC.out _))
      | (go_at_call 57;(first|with_reducible exact calls_sub_same (HPR.out _)|with_reducible exact calls_sub_same (HRR.out _))))))
     refine wpQuiet_nil ?_
     rintro w2 ⟨⟨w9,hD⟩,hw9⟩
     replace hw9:w2=w9:=hw9
     subst hw9
     clear hsub hsc

     go_wp2_with fail
     go_ret
     exact ⟨ret_bool HNO.out.symm,below_tr HB0.out hD⟩
    | true =>
     cases hr:inR t.ram 0 31 with
     | false =>
      have HNO:Hid (tileOk d t=false):=by show _=_;rw [HTK.out,HD.out,decide_eq_true HM1.out,decide_eq_true HL2.out,hp,hr];rfl
      rw [hp] at HPR
      rw [hr] at HRR
      clear hp hr
      obtain ⟨z0,z1,z2,z3⟩:=cell4 X0.out
      obtain ⟨y0,y1,y2,y3⟩:=cell4 X1.out
      go_wp2_with fail
      have hsub:=sub_ne w0
      have hsc:=sub_cell w0
      refine wp_region_below w0 (by kernel_rfl) (by kernel_rfl) (Below.refl _ _) ?_
      repeat (go_big_quiet_step ((first
       | (go_at_call 46;with_reducible exact calls_sub (HDO.out _))
       | (go_at_call 101;with_reducible exact calls_sub (HMC.out _))
       | (go_at_call 57;(first|with_reducible exact calls_sub_same (HPR.out _)|with_reducible exact calls_sub_same (HRR.out _))))))
      refine wpQuiet_nil ?_
      rintro w2 ⟨⟨w9,hD⟩,hw9⟩
      replace hw9:w2=w9:=hw9
      subst hw9
      clear hsub hsc

      go_wp2_with fail
      go_ret
      exact ⟨ret_bool HNO.out.symm,below_tr HB0.out hD⟩
     | true =>
      have HTE:Hid (tileOk d t=(allIn t.mux 31 && (leOk (t.les[0]?.getD Le.zero) && leOk (t.les[1]?.getD Le.zero)))):=by show _=_;rw [HTK.out,HD.out,decide_eq_true HM1.out,decide_eq_true HL2.out,hp,hr];rfl
      rw [hp] at HPR
      rw [hr] at HRR
      clear hp hr
      obtain ⟨z0,z1,z2,z3⟩:=cell4 X0.out
      obtain ⟨y0,y1,y2,y3⟩:=cell4 X1.out
      go_wp2_with fail
      have hsub:=sub_ne w0
      have hsc:=sub_cell w0
      refine wp_region_below w0 (by kernel_rfl) (by kernel_rfl) (Below.refl _ _) ?_
      repeat (go_big_quiet_step ((first
       | (go_at_call 46;with_reducible exact calls_sub (HDO.out _))
       | (go_at_call 101;with_reducible exact calls_sub (HMC.out _))
       | (go_at_call 57;(first|with_reducible exact calls_sub_same (HPR.out _)|with_reducible exact calls_sub_same (HRR.out _))))))
      refine wpQuiet_nil ?_
      rintro w2 ⟨⟨w9,hD⟩,hw9⟩
      replace hw9:w2=w9:=hw9
      subst hw9
      clear hsub hsc
      have HW2:=Lib.hid (below_tr HB0.out hD)
      have X02:=Lib.hid (heap_tr hD X0.out)
      have X12:=Lib.hid (heap_tr hD X1.out)
      have hm21:mn≤21:=by have h1:=HML.out;have h2:=HM1.out;have h3:=HX.out;omega
      clear z0 z1 z2 z3 y0 y1 y2 y3 hl0' hl1' X0 X1 q1 hD
      obtain ⟨y0,y1,y2,y3⟩:=cell4 X12.out
      go_wp2_with fail
      go_loopw [39] (fun i wr=>∃k:Nat,k≤mn∧i = .int .i64 k∧w2=wr∧∀j,j<k→inR (t.mux[j]?.getD 0) 0 31=true) (fun i _=>mn - (intOf i).toNat)
      case atStart=>exact ⟨0,Nat.zero_le _,rfl,rfl,by intro j hj;omega⟩
      case round =>
       obtain ⟨k,hk,rfl,rfl,hall⟩:=hrel
       have HALL:=Lib.hid hall
       clear hall
       by_cases hlt:k<mn
       ·have hdk:decide ((k:Int)<(mn:Int))=true:=decide_eq_true (by omega)
        obtain ⟨b,o,rfl,hb,hc⟩:=HM.out.2 (by omega)
        have hck:=hc k hlt
        rw [←HW2.out.cell (p:=⟨b,o+k,none⟩) hb] at hck
        have HG:Hid (inR (t.mux[k]?.getD 0) 0 31=true→∀j,j<k+1→inR (t.mux[j]?.getD 0) 0 31=true):=fun h=>all_succ HALL.out h
        have HBD:Hid (inR (t.mux[k]?.getD 0) 0 31=false→allIn t.mux 31=false):=fun h=>allIn_bad (by rw [HML.out];exact hlt) h
        have i0:(0:Int)≤(k:Int):=by omega
        have i1:(k:Int)<(mn:Int):=by omega
        clear hc
        generalize t.mux[k]?.getD 0=x at *
        cases hin:inR x 0 31 with
        | true =>
         have HG2:=Lib.hid (HG.out hin)
         clear HG HBD
         go_wp2_with (go_at_call 57;refine (inRange_any _ _ _ _).mono ?_;rintro e' w' ⟨rfl,hq⟩;subst hq;rw [hin])
         go_roundw
         case rel=>exact ⟨k+1,by omega,by go_num,trivial,HG2.out⟩
         case measure=>simp [intOf];omega
        | false =>
         have HB2:=Lib.hid (HBD.out hin)
         clear HG HBD
         go_wp2_with (go_at_call 57;refine (inRange_any _ _ _ _).mono ?_;rintro e' w' ⟨rfl,hq⟩;subst hq;rw [hin])
         go_ret
         exact ⟨ret_bool (by rw [HTE.out,HB2.out];rfl),HW2.out⟩
       ·have hkn:k=mn:=by omega
        subst hkn
        have hdk:decide ((k:Int)<(k:Int))=false:=by simp
        have HTL:Hid (tileOk d t=(leOk (t.les[0]?.getD Le.zero) && leOk (t.les[1]?.getD Le.zero))):=by
         show _=_
         rw [HTE.out,allIn_good (by rw [HML.out];exact HALL.out)]
         rfl
        obtain ⟨b1,o1,S1,m1,p1,hLA,hb1,c0,c1,c2,c3,r4⟩:=HL.out.le (k:=0) (by rw [HL2.out];omega)
        obtain ⟨b2,o2,S2,m2,p2,hLB,hb2,d0,d1,d2,d3,r5⟩:=HL.out.le (k:=1) (by rw [HL2.out];omega)
        subst hLA
        injection hLB with hLB
        injection hLB with g1 g2
        subst g1 g2
        have cc:=fun (j:Nat)=>HW2.out.cell (p:=⟨b1,j,none⟩) hb1
        rw [←cc] at c0 c1 c2 c3 d0 d1 d2 d3
        have hs0:=HSL.out 0
        have hs1:=HSL.out 1
        have hm1:m1≤1099511627776:=by have:=r4.ints.1;omega
        have hm2:m2≤1099511627776:=by have:=r5.ints.1;omega
        have hb1w:b1<w2.heap.size:=by have:=HW2.out.size;omega
        rw [Nat.zero_mul,Nat.add_zero] at c0 c1 c2 c3
        rw [Nat.one_mul] at d0 d1 d2 d3
        have HI1:=Lib.hid (r4.ints.below HW2.out)
        have HI2:=Lib.hid (r5.ints.below HW2.out)
        clear r4 r5 cc hs0 hs1 hlt hk
        generalize t.les[0]?.getD Le.zero=e0 at *
        generalize t.les[1]?.getD Le.zero=e1 at *
        go_wp2_with fail
        refine (leConfigOk_any S1 m1 p1 e0 _ HI1.out hm1).mono ?_
        rintro e' w5 ⟨rfl,b5⟩
        have HW5:=Lib.hid (below_tr HW2.out b5)
        have X15:=Lib.hid (heap_tr b5 X12.out)
        have HI5:=Lib.hid (HI2.out.below b5)
        have cc:=fun (j:Nat)=>b5.cell (p:=⟨b1,j,none⟩) hb1w
        have hb1x:b1<w5.heap.size:=by have:=b5.size;omega
        rw [←cc] at d0 d1 d2 d3
        clear b5 cc c0 c1 c2 c3 y0 y1 y2 y3
        cases h0:leOk e0 with
        | false =>
         have HNO:Hid (tileOk d t=false):=by show _=_;rw [HTL.out,h0];rfl
         clear h0
         go_wp2_with fail
         go_ret
         exact ⟨ret_bool HNO.out.symm,HW5.out⟩
        | true =>
         have HNO:Hid (tileOk d t=leOk e1):=by show _=_;rw [HTL.out,h0];rfl
         obtain ⟨y0,y1,y2,y3⟩:=cell4 X15.out
         clear h0
         go_wp2_with fail
         refine (leConfigOk_any S2 m2 p2 e1 _ HI5.out hm2).mono ?_
         rintro e' w6 ⟨rfl,b6⟩
         have HW6:=Lib.hid (below_tr HW5.out b6)
         clear b6
         go_wp2_with fail
         go_ret
         exact ⟨ret_bool HNO.out.symm,HW6.out⟩
   ·have HNO:Hid (tileOk d t=false):=by show _=_;rw [HTK.out,HD.out,decide_eq_true HM1.out,decide_eq_false h2];rfl
    have q2:((ln:Int) != 2)=true:=by have:=HLL.out;simp;omega
    clear h2
    obtain ⟨z0,z1,z2,z3⟩:=cell4 X0.out
    obtain ⟨y0,y1,y2,y3⟩:=cell4 X1.out
    go_wp2_with fail
    have hsub:=sub_ne w0
    have hsc:=sub_cell w0
    refine wp_region_below w0 (by kernel_rfl) (by kernel_rfl) (Below.refl _ _) ?_
    repeat (go_big_quiet_step ((first
     | (go_at_call 46;with_reducible exact calls_sub (HDO.out _))
     | (go_at_call 101;with_reducible exact calls_sub (HMC.out _))
     | (go_at_call 57;(first|with_reducible exact calls_sub_same (HPR.out _)|with_reducible exact calls_sub_same (HRR.out _))))))
    refine wpQuiet_nil ?_
    rintro w2 ⟨⟨w9,hD⟩,hw9⟩
    replace hw9:w2=w9:=hw9
    subst hw9
    clear hsub hsc

    go_wp2_with fail
    go_ret
    exact ⟨ret_bool HNO.out.symm,below_tr HB0.out hD⟩
  ·have HNO:Hid (tileOk d t=false):=by show _=_;rw [HTK.out,HD.out,decide_eq_false hm];rfl
   have q1:((mn:Int) != 5+4 * d.T)=true:=by have:=HML.out;simp;omega
   clear hm
   obtain ⟨z0,z1,z2,z3⟩:=cell4 X0.out
   obtain ⟨y0,y1,y2,y3⟩:=cell4 X1.out
   go_wp2_with fail
   have hsub:=sub_ne w0
   have hsc:=sub_cell w0
   refine wp_region_below w0 (by kernel_rfl) (by kernel_rfl) (Below.refl _ _) ?_
   repeat (go_big_quiet_step ((first
    | (go_at_call 46;with_reducible exact calls_sub (HDO.out _))
    | (go_at_call 101;with_reducible exact calls_sub (HMC.out _))
    | (go_at_call 57;(first|with_reducible exact calls_sub_same (HPR.out _)|with_reducible exact calls_sub_same (HRR.out _))))))
   refine wpQuiet_nil ?_
   rintro w2 ⟨⟨w9,hD⟩,hw9⟩
   replace hw9:w2=w9:=hw9
   subst hw9
   clear hsub hsc

   go_wp2_with fail
   go_ret
   exact ⟨ret_bool HNO.out.symm,below_tr HB0.out hD⟩
end Go.Proofs.Ytbnfdhidgdfbeaa
