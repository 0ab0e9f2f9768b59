/- Words packed into numbers, in plain terms. Widths of words in both programs, masks and output values in the program (printed by mksg1.py). -/
import Derived.Test.YtlinbdkbbhpdpaaGreatSrF9
import Derived.Test.YtlinbdkbbhpdpaaGreatSrW
namespace Go.Proofs.YtlinbdkbbhpdpaaGreat
set_option maxRecDepth 100000
open Go.RowKit

/-- Widths of words: each from 1 to 4. -/
def Wds (ws:List Int):Prop:=∀k,k<ws.length→1≤ws[k]?.getD 0∧ws[k]?.getD 0≤4
def atW (ws:List Int) (k:Nat):Int:=sumI (ws.take k)
theorem atW_zero (ws:List Int):atW ws 0=0:=rfl
theorem take_snocI {l:List Int} {k:Nat} (h:k<l.length):l.take (k+1)=l.take k++[l[k]?.getD 0]:=by
 rw [List.take_add_one,List.getElem?_eq_getElem h];rfl
theorem atW_succ {ws:List Int} {k:Nat} (h:k<ws.length):atW ws (k+1)=atW ws k+ws[k]?.getD 0:=by
 unfold atW
 rw [take_snocI h,sumI_snoc]
theorem atW_nn {ws:List Int} (h:Wds ws):∀{k:Nat},k≤ws.length→0≤atW ws k
 | 0,_=>by rw [atW_zero];omega
 | k+1,hk=>by
  rw [atW_succ (by omega)]
  have:=atW_nn h (k:=k) (by omega)
  have:=h k (by omega)
  omega
theorem atW_le {ws:List Int} (h:Wds ws) (k:Nat):atW ws k≤sumI ws:=by
 have e:ws=ws.take k++ws.drop k:=(List.take_append_drop k ws).symm
 have h2:sumI ws=atW ws k+sumI (ws.drop k):=by
  rw [atW]
  conv=>lhs;rw [e]
  rw [sumI,List.foldl_append,foldl_add]
  rfl
 have h3:∀l:List Int,(∀x∈l,0≤x)→0≤sumI l:=by
  intro l
  induction l with
  | nil=>intro _;simp [sumI_nil]
  | cons x l ih =>
   intro hl
   have:=hl x (by simp)
   have:=ih fun y hy=>hl y (by simp [hy])
   rw [sumI_cons]
   omega
 have h4:=h3 (ws.drop k) fun x hx=>by
  obtain ⟨j,hj,rfl⟩:=List.getElem_of_mem (List.mem_of_mem_drop hx)
  have:=h j hj
  rw [List.getElem?_eq_getElem hj,Option.getD_some] at this
  omega
 omega
def unTo (ws:List Int) (x:Int):Nat→List Int
 | 0=>[]
 | k+1=>unTo ws x k++[(x / mod2 (atW ws k)) % mod2 (ws[k]?.getD 0)]
/-- A number unpacked into words. -/
def unp (ws:List Int) (x:Int):List Int:=unTo ws x ws.length
theorem unTo_len (ws:List Int) (x:Int):∀k,(unTo ws x k).length=k
 | 0=>rfl
 | k+1=>by rw [unTo,List.length_append,unTo_len ws x k];rfl
def pkTo (ws vs:List Int):Nat→Int
 | 0=>0
 | k+1=>pkTo ws vs k+(vs[k]?.getD 0) % mod2 (ws[k]?.getD 0) * mod2 (atW ws k)
/-- Words packed into a number. -/
def pck (ws vs:List Int):Int:=pkTo ws vs ws.length
theorem mod2_add {a b:Int} (ha:0≤a) (hb:0≤b):mod2 (a+b)=mod2 a * mod2 b:=by
 unfold mod2
 rw [←Int.pow_add]
 congr 1
 omega
theorem div_mod2 (x:Int) {a b:Int} (ha:0≤a) (hb:0≤b):x / mod2 a / mod2 b=x / mod2 (a+b):=by
 rw [mod2_add ha hb,Int.ediv_ediv_of_nonneg (Int.le_of_lt (mod2_pos a))]
theorem pkTo_in {ws:List Int} (h:Wds ws) (vs:List Int):∀{k:Nat},k≤ws.length→0≤pkTo ws vs k∧pkTo ws vs k<mod2 (atW ws k)
 | 0,_=>by rw [pkTo,atW_zero];exact ⟨Int.le_refl _,mod2_pos _⟩
 | k+1,hk=>by
  have h1:=pkTo_in h vs (k:=k) (by omega)
  have h2:=mod_in (vs[k]?.getD 0) (ws[k]?.getD 0)
  have h3:=h k (by omega)
  have h4:=atW_nn h (k:=k) (by omega)
  rw [pkTo,atW_succ (by omega),mod2_add h4 (by omega)]
  generalize vs[k]?.getD 0 % mod2 (ws[k]?.getD 0)=y at *
  generalize mod2 (ws[k]?.getD 0)=M at *
  have h5:=mod2_pos (atW ws k)
  generalize mod2 (atW ws k)=A at *
  refine ⟨Int.add_nonneg h1.1 (Int.mul_nonneg h2.1 (by omega)),?_⟩
  have h6:(y+1) * A≤M * A:=Int.mul_le_mul_of_nonneg_right (by omega) (by omega)
  rw [Int.add_mul,Int.one_mul] at h6
  rw [Int.mul_comm A M]
  omega
/-- Two numbers that have no bit in common. -/
theorem or_join {k:Nat} {a y:Int} (ha:0≤a∧a<2 ^ k) (hy:0≤y) (hb:a+y * 2 ^ k<4611686018427387904):bits .or .i64 a (y * 2 ^ k)=a+y * 2 ^ k:=by
 obtain ⟨a,rfl⟩:=Int.eq_ofNat_of_zero_le ha.1
 obtain ⟨y,rfl⟩:=Int.eq_ofNat_of_zero_le hy
 have e:(y:Int) * 2 ^ k=((y * 2 ^ k:Nat):Int):=by rw [Int.natCast_mul,Int.natCast_pow];rfl
 have h1:a<2 ^ k:=by
  have:=ha.2
  have e2:((2 ^ k:Nat):Int)=2 ^ k:=by rw [Int.natCast_pow];rfl
  rw [←e2] at this
  omega
 rw [e] at hb ⊢
 rw [i64_or_nat a (y * 2 ^ k) (by omega) (by omega),Nat.or_comm,nat_join k (y * 2 ^ k) a (Nat.mul_mod_left _ _) h1]
 omega
end Go.Proofs.YtlinbdkbbhpdpaaGreat

namespace Go.Proofs.YtlinbdkbbhpdpaaGreat
set_option maxRecDepth 100000
open Go.RowKit

set_option maxHeartbeats 1000000 in
theorem widthMask_any (wd:Int) (w:World) (h0:0≤wd) (h4:wd≤4) :
  Calls Tryz.prog 110 #[.int .i64 wd] w fun e w'=>e = .returned (.int .i64 (mod2 wd - 1))∧w=w':=by
 rcases (by omega:wd=0∨wd=1∨wd=2∨wd=3∨wd=4) with rfl|rfl|rfl|rfl|rfl
 all_goals
  go_enter Tryz.func110,Tryz.ntmps110
  go_wp2_with fail
  go_ret
  exact ⟨by first|rfl|decide,rfl⟩
set_option maxHeartbeats 1000000 in
theorem widthsOk_yes (A:Option Addr) (n c:Nat) (xs:List Int) (w:World) (h:Ints w A n xs) (hw:Wds xs) (hs:sumI xs≤20) (hn:n≤30) :
  Calls Tryz.prog 109 #[.slice A n c] w fun e w'=>e = .returned (.bool true)∧w=w':=by
 have HI:=Lib.hid h
 have HW:=Lib.hid hw
 clear h hw
 go_enter Tryz.func109,Tryz.ntmps109
 go_wp2_with fail
 go_loopw [3,8] (fun v i wr=>∃k:Nat,k≤n∧i = .int .i64 (k:Int)∧v = .int .i64 (atW xs k)∧w=wr) (fun _ i _=>n - (intOf i).toNat)
 case atStart=>exact ⟨0,by omega,rfl,rfl,rfl⟩
 case round =>
  obtain ⟨k,hk,rfl,rfl,rfl⟩:=hrel
  have ha0:=atW_nn HW.out (k:=k) (by rw [HI.out.1];exact hk)
  have ha1:=atW_le HW.out k
  by_cases hlt:k<n
  ·have hdk:decide ((k:Int)<(n:Int))=true:=by simp;omega
   obtain ⟨b,o,rfl,hb,hc⟩:=HI.out.2 (by omega)
   have hck:=hc k hlt
   have hkl:k<xs.length:=by rw [HI.out.1];exact hlt
   have hx:=HW.out k hkl
   have HSN:=Lib.hid (atW_succ hkl)
   have HLE:Hid (atW xs (k+1)≤20):=Int.le_trans (atW_le HW.out (k+1)) hs
   rw [HSN.out] at HLE
   generalize xs[k]?.getD 0=x at *
   have H1:=Lib.hid (inR_iff.2 hx)
   generalize hak:atW xs k=ak at *
   have HAK:=Lib.hid hak
   clear hak
   have i0:(0:Int)≤(k:Int):=by omega
   have i1:(k:Int)<(n:Int):=by omega
   clear hc hkl
   go_wp2_with fail
   refine (inRange_any x 1 4 _).mono ?_
   rw [H1.out]
   rintro _ w' ⟨rfl,rfl⟩
   go_wp2_with fail
   go_roundw
   case rel=>exact ⟨k+1,by omega,by go_num,by rw [HSN.out],by first|rfl|trivial⟩
   case measure=>simp [intOf];omega
  ·have hkn:k=n:=by omega
   have hdk:decide ((k:Int)<(n:Int))=false:=by simp;omega
   clear hlt
   subst k
   have d20:decide (atW xs n≤20)=true:=decide_eq_true (by omega)
   go_wp2_with fail
   go_ret
   exact ⟨rfl,rfl⟩
set_option maxHeartbeats 1000000 in
theorem sl11Widths_yes (A:Option Addr) (n c:Nat) (xs:List Int) (w:World) (h:Ints w A n xs) (hw:Wds xs) (hs:sumI xs≤20) (hn:n≤30) :
  Calls Tryz.prog 101 #[.slice A n c] w fun e w'=>e = .returned (.bool true)∧w=w':=by
 have HI:=Lib.hid h
 have HW:=Lib.hid hw
 clear h hw
 go_enter Tryz.func101,Tryz.ntmps101
 go_wp2_with fail
 go_loopw [3,4] (fun v i wr=>∃k:Nat,k≤n∧i = .int .i64 (k:Int)∧v = .int .i64 (atW xs k)∧w=wr) (fun _ i _=>n - (intOf i).toNat)
 case atStart=>exact ⟨0,by omega,rfl,rfl,rfl⟩
 case round =>
  obtain ⟨k,hk,rfl,rfl,rfl⟩:=hrel
  have ha0:=atW_nn HW.out (k:=k) (by rw [HI.out.1];exact hk)
  have ha1:=atW_le HW.out k
  by_cases hlt:k<n
  ·have hdk:decide ((k:Int)<(n:Int))=true:=by simp;omega
   obtain ⟨b,o,rfl,hb,hc⟩:=HI.out.2 (by omega)
   have hck:=hc k hlt
   have hkl:k<xs.length:=by rw [HI.out.1];exact hlt
   have hx:=HW.out k hkl
   have HSN:=Lib.hid (atW_succ hkl)
   have HLE:Hid (atW xs (k+1)≤20):=Int.le_trans (atW_le HW.out (k+1)) hs
   rw [HSN.out] at HLE
   generalize xs[k]?.getD 0=x at *
   have H1:=Lib.hid (inR_iff.2 hx)
   generalize hak:atW xs k=ak at *
   have HAK:=Lib.hid hak
   clear hak
   have i0:(0:Int)≤(k:Int):=by omega
   have i1:(k:Int)<(n:Int):=by omega
   have d20:decide ((20:Int)<ak+x)=false:=decide_eq_false (by have:=HLE.out;omega)
   clear hc hkl
   go_wp2_with fail
   refine (l01In_any x 1 4 _).mono ?_
   rw [H1.out]
   rintro _ w' ⟨rfl,rfl⟩
   go_wp2_with fail
   go_roundw
   case rel=>exact ⟨k+1,by omega,by go_num,by rw [HSN.out],by first|rfl|trivial⟩
   case measure=>simp [intOf];omega
  ·have hkn:k=n:=by omega
   have hdk:decide ((k:Int)<(n:Int))=false:=by simp;omega
   clear hlt
   subst k
   go_wp2_with fail
   go_ret
   exact ⟨rfl,rfl⟩
theorem outTo_len (sg:List SgT) (v:List Int):∀k,(outTo sg v k).length≤k
 | 0=>Nat.le_refl _
 | k+1=>by
  have:=outTo_len sg v k
  rw [outTo,List.length_append]
  split
  ·rw [List.length_singleton];omega
  ·rw [List.length_nil];omega
set_option maxHeartbeats 2000000 in
theorem outputValues_any (m:MdT) (SA AA JA MA:Option Addr) (sn sc an ac jn jc mn mc:Nat) (vl:List Int) (VA:Option Addr) (vc:Nat) (w:World) (h:MdRd w m SA AA JA MA sn sc an ac jn jc mn mc) (hv:Ints w VA sn vl) (hs30:sn≤30) :
  Calls Tryz.prog 112 #[.agg #[.slice SA sn sc,.slice AA an ac,.slice JA jn jc,.slice MA mn mc],.slice VA sn vc] w fun e w'=>∃A c,e = .returned (.slice A (outVals m vl).length c)∧Sepa w w' [.cel (celI (outVals m vl)) (.slice A (outVals m vl).length c)]:=by
 have HB0:=Lib.hid (below_new (Below.refl w.heap.size w) (.cells #[.slice SA sn sc,.slice AA an ac,.slice JA jn jc,.slice MA mn mc] 108))
 have HXB:=Lib.hid (heap_new w (.cells #[.slice SA sn sc,.slice AA an ac,.slice JA jn jc,.slice MA mn mc] 108))
 have HL:=Lib.hid h.lens.1
 have HM:=Lib.hid h
 have HVV:=Lib.hid hv
 clear h hv
 have HF:Hid (outVals m vl=outTo m.sigs vl sn):=by show _=_;unfold outVals;rw [HL.out]
 rw [HF.out]
 go_enter Tryz.func112,Tryz.ntmps112
 go_upto_region 1 with fail
 generalize w.alloc (.cells #[.slice SA sn sc,.slice AA an ac,.slice JA jn jc,.slice MA mn mc] 108)=W9 at *
 have hx:=HXB.out
 have x0:=cell_heap (k:=0) hx rfl
 have lx:=heap_lt0 hx
 clear hx
 go_wp2_with fail
 clear x0 lx
 go_loopw [5,11] (fun v i wr=>∃(k:Nat) (A:Option Addr) (c:Nat),k≤sn∧i = .int .i64 (k:Int)∧v = .slice A (outTo m.sigs vl k).length c∧Sepa W9 wr [.cel (celI (outTo m.sigs vl k)) (.slice A (outTo m.sigs vl k).length c)]) (fun _ i _=>sn - (intOf i).toNat)
 case atStart=>exact ⟨0,none,0,by omega,rfl,rfl,(Sepa.refl W9).pushNil 3 1⟩
 case round =>
  obtain ⟨k,A1,c1',hk,rfl,rfl,hs⟩:=hrel
  have HS:=Lib.hid hs
  have HB:=Lib.hid (below_tr HB0.out hs.bel)
  clear hs
  by_cases hlt:k<sn
  ·have hdk:decide ((k:Int)<(sn:Int))=true:=by simp;omega
   have hkl:k<m.sigs.length:=by rw [HL.out];exact hlt
   have HLN:=Lib.hid (show (outTo m.sigs vl k).length≤1099511627776 from by have:=outTo_len m.sigs vl k;omega)
   have HTK:=Lib.hid (show outTo m.sigs vl (k+1)=outTo m.sigs vl k++if (sgK m.sigs k).kind=1 then [vl[k]?.getD 0] else [] from rfl)
   obtain ⟨bs,os,rfl,hbs,c0,c1,c2⟩:=HM.out.sg.sgE (k:=k) hkl
   have lbs:=below_lt HB.out hbs
   rw [←HB.out.cell (p:=⟨bs,os+k * 3,none⟩) hbs] at c0
   rw [←HB.out.cell (p:=⟨bs,os+k * 3+1,none⟩) hbs] at c1
   rw [←HB.out.cell (p:=⟨bs,os+k * 3+2,none⟩) hbs] at c2
   have hvi:=HVV.out.2 (by omega)
   obtain ⟨bv,ov,rfl,hbv,hcv⟩:=hvi
   have cv:=(HB.out.cell (p:=⟨bv,ov+k,none⟩) hbv).trans (hcv k (by omega))
   have lbv:=below_lt HB.out hbv
   generalize vl[k]?.getD 0=x at *
   clear hcv hbv
   clear hkl hbs
   unfold sgK at HTK
   generalize m.sigs[k]?.getD SgT.zero=q at *
   obtain ⟨kd,wd,it⟩:=q
   simp only at c0 c1 c2 HTK
   have i0:(0:Int)≤(k:Int):=by omega
   have i1:(k:Int)<(sn:Int):=by omega
   have HA:=Lib.hid (HS.out.alloc (.cells #[.int .i64 kd,.int .i64 wd,.int .i64 it] 155))
   have hy:=heap_new wr (.cells #[.int .i64 kd,.int .i64 wd,.int .i64 it] 155)
   have y0:=cell_heap (k:=0) hy rfl
   have y1:=cell_heap (k:=1) hy rfl
   have y2:=cell_heap (k:=2) hy rfl
   have ly:=heap_lt0 hy
   clear hy
   by_cases hc:kd=1
   ·have d0:(kd==1)=true:=by simp [hc]
    rw [←(below_new (Below.refl wr.heap.size wr) (.cells #[.int .i64 kd,.int .i64 wd,.int .i64 it] 155)).cell lbv] at cv
    have lbv:=below_lt (below_new (Below.refl wr.heap.size wr) (.cells #[.int .i64 kd,.int .i64 wd,.int .i64 it] 155)) lbv
    rw [if_pos hc] at HTK
    clear hc
    go_upto_region 5 with fail
    generalize wr.alloc (.cells #[.int .i64 kd,.int .i64 wd,.int .i64 it] 155)=W5 at *
    go_wp2_with (at_builtin;refine wpList_sepPush rfl _ _ rfl _ (HA.out.alloc _) 0 A1 (outTo m.sigs vl k).length c1' (outTo m.sigs vl k) (x) _ (0,0) rfl rfl rfl (heap_new _ _) HLN.out ?_;intro g9 cap w9 S9 hz9;have HS9:=Lib.hid S9;clear S9 hz9)
    go_roundw
    case rel=>exact ⟨k+1,_,_,by omega,by go_num,by rw [HTK.out,List.length_append];rfl,by rw [HTK.out,List.length_append];exact HS9.out⟩
    case measure=>simp [intOf];omega
   ·have d0:(kd==1)=false:=by simp [hc]
    rw [if_neg hc,List.append_nil] at HTK
    clear hc
    go_upto_region 5 with fail
    generalize wr.alloc (.cells #[.int .i64 kd,.int .i64 wd,.int .i64 it] 155)=W5 at *
    go_wp2_with fail
    go_roundw
    case rel=>exact ⟨k+1,_,_,by omega,by go_num,by rw [HTK.out],by rw [HTK.out];exact HA.out⟩
    case measure=>simp [intOf];omega
  ·have hkn:k=sn:=by omega
   have hdk:decide ((k:Int)<(sn:Int))=false:=by simp;omega
   subst hkn
   go_wp2_with fail
   go_ret
   exact ⟨_,_,rfl,HS.out.low HB0.out⟩
end Go.Proofs.YtlinbdkbbhpdpaaGreat
