/- TileConfigOk and EncodeTile of the reference (printed by mkencs.py). -/
import Derived.Test.YtbnfdhidgdfbeaaEncQ
import Derived.Test.YtbnfdhidgdfbeaaEncT
import Derived.Test.YtbnfdhidgdfbeaaRt3
namespace Go.Proofs.Ytbnfdhidgdfbeaa
set_option maxRecDepth 100000
open Go.RowKit Cw
theorem l01In_at (x a b:Int) (w:World):Calls Try.prog 85 #[.int .i64 x,.int .i64 a,.int .i64 b] w fun e w'=>e = .returned (.bool (inR x a b))∧w=w':=(l01In_any x a b w).mono (by rintro e w' ⟨h,rfl⟩;exact ⟨h,rfl⟩)
set_option maxHeartbeats 4000000 in
theorem stileConfigOk_any (d:Dev) (t:Tile) (MA:Option Addr) (mn mc:Nat) (LA:Option Addr) (ln lc:Nat) (w:World) (hM:Ints w MA mn t.mux) (hL:RdC w w.heap.size (celE t.les) (.slice LA ln lc)) (hmn:mn≤1099511627776) (hsl:∀e:Nat,(t.les[e]?.getD Le.zero).sel.length≤1099511627776) :
  Calls Try.prog 86 #[.agg #[.int .i64 d.W,.int .i64 d.H,.int .i64 d.T,.int .i64 d.R],.agg #[.slice MA mn mc,.slice LA ln lc,.int .i64 t.pad,.int .i64 t.ram]] w fun e w'=>e = .returned (.bool (tileOk d t))∧Below w.heap.size w w':=by
 have HTK:Hid (tileOk d t=(devOk d && (decide (t.mux.length=muxN d) && (decide (t.les.length=2) && (inR t.pad 0 3 && (inR t.ram 0 31 && (allIn t.mux 31 && (leOk (t.les[0]?.getD Le.zero) && leOk (t.les[1]?.getD Le.zero))))))))):=rfl
 have HLL:=Lib.hid hL.elen
 have HML:=Lib.hid hM.1
 have HM:=Lib.hid hM
 have HL:=Lib.hid hL
 have HSL:=Lib.hid hsl
 have X0:=Lib.hid (heap_al (.cells #[.slice MA mn mc,.slice LA ln lc,.int .i64 t.pad,.int .i64 t.ram] 52) (heap_new w (.cells #[.int .i64 d.W,.int .i64 d.H,.int .i64 d.T,.int .i64 d.R] 29)))
 have X1:=Lib.hid (heap_newAt (w:=w.alloc (.cells #[.int .i64 d.W,.int .i64 d.H,.int .i64 d.T,.int .i64 d.R] 29)) (o := .cells #[.slice MA mn mc,.slice LA ln lc,.int .i64 t.pad,.int .i64 t.ram] 52) (g:=w.heap.size+1) (by simp))
 have HB0:=Lib.hid (below_new (below_new (Below.refl w.heap.size w) (.cells #[.int .i64 d.W,.int .i64 d.H,.int .i64 d.T,.int .i64 d.R] 29)) (.cells #[.slice MA mn mc,.slice LA ln lc,.int .i64 t.pad,.int .i64 t.ram] 52))
 have HPR:=Lib.hid (fun w=>l01In_at t.pad 0 3 w)
 have HRR:=Lib.hid (fun w=>l01In_at t.ram 0 31 w)
 have HMC0:=Lib.hid (fun (h:devOk d=true) (w:World)=>smuxCount_any d w h)
 have HMX:=Lib.hid (fun (h:devOk d=true)=>(muxN_bd h).1)
 have HDO:=Lib.hid (fun w=>sdeviceOk_any d w)
 clear hM hL hsl
 go_enter Try.func86,Try.ntmps86
 go_wp2_with fail
 generalize hW:((w.alloc (.cells #[.int .i64 d.W,.int .i64 d.H,.int .i64 d.T,.int .i64 d.R] 29)).alloc (.cells #[.slice MA mn mc,.slice LA ln lc,.int .i64 t.pad,.int .i64 t.ram] 52))=w0 at *
 clear hW
 have hl0':=heap_lt0 X0.out
 have hl1':=heap_lt0 X1.out
 cases hd:devOk d with
 | false =>
  have HNO:Hid (tileOk d t=false):=by show _=_;rw [HTK.out,hd];rfl
  rw [hd] at HDO
  clear hd
  obtain ⟨z0,z1,z2,z3⟩:=cell4 X0.out
  obtain ⟨y0,y1,y2,y3⟩:=cell4 X1.out
  go_wp2_with fail
  have hsub:=sub_ne w0
  have hsc:=sub_cell w0
  refine wp_region_below w0 (by kernel_rfl) (by kernel_rfl) (Below.refl _ _) ?_
  repeat (go_big_quiet_step ((first
   | (go_at_call 42;with_reducible exact calls_sub (HDO.out _))
   | (go_at_call 122;with_reducible exact calls_sub (HMC.out _))
   | (go_at_call 85;(first|with_reducible exact calls_sub_same (HPR.out _)|with_reducible exact calls_sub_same (HRR.out _))))))
  refine wpQuiet_nil ?_
  rintro w2 ⟨⟨w9,hD⟩,hw9⟩
  replace hw9:w2=w9:=hw9
  subst hw9
  clear hsub hsc

  go_wp2_with fail
  go_ret
  exact ⟨ret_bool HNO.out.symm,below_tr HB0.out hD⟩
 | true =>
  have HMC:=Lib.hid (HMC0.out hd)
  have hmx:=HMX.out hd
  have hbd:=devOk_bd hd
  have HD:=Lib.hid hd
  rw [hd] at HDO
  clear HMC0 hd
  by_cases hm:t.mux.length=muxN d
  ·have q1:((mn:Int) != 5+4 * d.T)=false:=by have:=HML.out;simp;omega
   have HM1:=Lib.hid hm
   have HX:Hid (muxN d≤21):=(muxN_bd HD.out).2.2.1
   clear hm hmx
   by_cases h2:t.les.length=2
   ·have HL2:=Lib.hid h2
    have hln:ln=2:=by have:=HLL.out;omega
    subst hln
    clear h2
    cases hp:inR t.pad 0 3 with
    | false =>
     have HNO:Hid (tileOk d t=false):=by show _=_;rw [HTK.out,HD.out,decide_eq_true HM1.out,decide_eq_true HL2.out,hp];rfl
     rw [hp] at HPR
     clear hp
     obtain ⟨z0,z1,z2,z3⟩:=cell4 X0.out
     obtain ⟨y0,y1,y2,y3⟩:=cell4 X1.out
     go_wp2_with fail
     have hsub:=sub_ne w0
     have hsc:=sub_cell w0
     refine wp_region_below w0 (by kernel_rfl) (by kernel_rfl) (Below.refl _ _) ?_
     repeat (go_big_quiet_step ((first
      | (go_at_call 42;with_reducible exact calls_sub (HDO.out _))
      | (go_at_call 122;with_reducible exact calls_sub (HMC.out _))
      | (go_at_call 85;(first|with_reducible exact calls_sub_same (HPR.out _)|with_reducible exact calls_sub_same (HRR.out _))))))
     refine wpQuiet_nil ?_
     rintro w2 ⟨⟨w9,hD⟩,hw9⟩
     replace hw9:w2=w9:=hw9
     subst hw9
     clear hsub hsc

     go_wp2_with fail
     go_ret
     exact ⟨ret_bool HNO.out.symm,below_tr HB0.out hD⟩
    | true =>
     cases hr:inR t.ram 0 31 with
     | false =>
      have HNO:Hid (tileOk d t=false):=by show _=_;rw [HTK.out,HD.out,decide_eq_true HM1.out,decide_eq_true HL2.out,hp,hr];rfl
      rw [hp] at HPR
      rw [hr] at HRR
      clear hp hr
      obtain ⟨z0,z1,z2,z3⟩:=cell4 X0.out
      obtain ⟨y0,y1,y2,y3⟩:=cell4 X1.out
      go_wp2_with fail
      have hsub:=sub_ne w0
      have hsc:=sub_cell w0
      refine wp_region_below w0 (by kernel_rfl) (by kernel_rfl) (Below.refl _ _) ?_
      repeat (go_big_quiet_step ((first
       | (go_at_call 42;with_reducible exact calls_sub (HDO.out _))
       | (go_at_call 122;with_reducible exact calls_sub (HMC.out _))
       | (go_at_call 85;(first|with_reducible exact calls_sub_same (HPR.out _)|with_reducible exact calls_sub_same (HRR.out _))))))
      refine wpQuiet_nil ?_
      rintro w2 ⟨⟨w9,hD⟩,hw9⟩
      replace hw9:w2=w9:=hw9
      subst hw9
      clear hsub hsc

      go_wp2_with fail
      go_ret
      exact ⟨ret_bool HNO.out.symm,below_tr HB0.out hD⟩
     | true =>
      have HTE:Hid (tileOk d t=(allIn t.mux 31 && (leOk (t.les[0]?.getD Le.zero) && leOk (t.les[1]?.getD Le.zero)))):=by show _=_;rw [HTK.out,HD.out,decide_eq_true HM1.out,decide_eq_true HL2.out,hp,hr];rfl
      rw [hp] at HPR
      rw [hr] at HRR
      clear hp hr
      obtain ⟨z0,z1,z2,z3⟩:=cell4 X0.out
      obtain ⟨y0,y1,y2,y3⟩:=cell4 X1.out
      go_wp2_with fail
      have hsub:=sub_ne w0
      have hsc:=sub_cell w0
      refine wp_region_below w0 (by kernel_rfl) (by kernel_rfl) (Below.refl _ _) ?_
      repeat (go_big_quiet_step ((first
       | (go_at_call 42;with_reducible exact calls_sub (HDO.out _))
       | (go_at_call 122;with_reducible exact calls_sub (HMC.out _))
       | (go_at_call 85;(first|with_reducible exact calls_sub_same (HPR.out _)|with_reducible exact calls_sub_same (HRR.out _))))))
      refine wpQuiet_nil ?_
      rintro w2 ⟨⟨w9,hD⟩,hw9⟩
      replace hw9:w2=w9:=hw9
      subst hw9
      clear hsub hsc
      have HW2:=Lib.hid (below_tr HB0.out hD)
      have X02:=Lib.hid (heap_tr hD X0.out)
      have X12:=Lib.hid (heap_tr hD X1.out)
      have hm21:mn≤21:=by have h1:=HML.out;have h2:=HM1.out;have h3:=HX.out;omega
      clear z0 z1 z2 z3 y0 y1 y2 y3 hl0' hl1' X0 X1 q1 hD
      obtain ⟨y0,y1,y2,y3⟩:=cell4 X12.out
      go_wp2_with fail
      go_loopw [5] (fun i wr=>∃k:Nat,k≤mn∧i = .int .i64 k∧w2=wr∧∀j,j<k→inR (t.mux[j]?.getD 0) 0 31=true) (fun i _=>mn - (intOf i).toNat)
      case atStart=>exact ⟨0,Nat.zero_le _,rfl,rfl,by intro j hj;omega⟩
      case round =>
       obtain ⟨k,hk,rfl,rfl,hall⟩:=hrel
       have HALL:=Lib.hid hall
       clear hall
       by_cases hlt:k<mn
       ·have hdk:decide ((k:Int)<(mn:Int))=true:=decide_eq_true (by omega)
        obtain ⟨b,o,rfl,hb,hc⟩:=HM.out.2 (by omega)
        have hck:=hc k hlt
        rw [←HW2.out.cell (p:=⟨b,o+k,none⟩) hb] at hck
        have HG:Hid (inR (t.mux[k]?.getD 0) 0 31=true→∀j,j<k+1→inR (t.mux[j]?.getD 0) 0 31=true):=fun h=>all_succ HALL.out h
        have HBD:Hid (inR (t.mux[k]?.getD 0) 0 31=false→allIn t.mux 31=false):=fun h=>allIn_bad (by rw [HML.out];exact hlt) h
        have i0:(0:Int)≤(k:Int):=by omega
        have i1:(k:Int)<(mn:Int):=by omega
        clear hc
        generalize t.mux[k]?.getD 0=x at *
        cases hin:inR x 0 31 with
        | true =>
         have HG2:=Lib.hid (HG.out hin)
         clear HG HBD
         go_wp2_with (go_at_call 85;refine (l01In_any _ _ _ _).mono ?_;rintro e' w' ⟨rfl,hq⟩;subst hq;rw [hin])
         go_roundw
         case rel=>exact ⟨k+1,by omega,by go_num,trivial,HG2.out⟩
         case measure=>simp [intOf];omega
        | false =>
         have HB2:=Lib.hid (HBD.out hin)
         clear HG HBD
         go_wp2_with (go_at_call 85;refine (l01In_any _ _ _ _).mono ?_;rintro e' w' ⟨rfl,hq⟩;subst hq;rw [hin])
         go_ret
         exact ⟨ret_bool (by rw [HTE.out,HB2.out];rfl),HW2.out⟩
       ·have hkn:k=mn:=by omega
        subst hkn
        have hdk:decide ((k:Int)<(k:Int))=false:=by simp
        have HTL:Hid (tileOk d t=(leOk (t.les[0]?.getD Le.zero) && leOk (t.les[1]?.getD Le.zero))):=by
         show _=_
         rw [HTE.out,allIn_good (by rw [HML.out];exact HALL.out)]
         rfl
        clear hlt hk
        go_wp2_with fail
        go_loopw [6] (fun i wr=>∃e:Nat,e≤2∧i = .int .i64 e∧Below w2.heap.size w2 wr∧∀j,j<e→leOk (t.les[j]?.getD Le.zero)=true) (fun i _=>2 - (intOf i).toNat)
        case atStart=>exact ⟨0,by omega,rfl,Below.refl _ _,by intro j hj;omega⟩
        case round =>
         obtain ⟨e,he,rfl,hb,hall⟩:=hrel
         have HB:=Lib.hid hb
         have HLA:=Lib.hid hall
         have HWR:=Lib.hid (below_tr HW2.out hb)
         have X1R:=Lib.hid (heap_tr hb X12.out)
         have hl1:=heap_lt0 X1R.out
         clear hb hall y0 y1 y2 y3
         obtain ⟨y0,y1,y2,y3⟩:=cell4 X1R.out
         by_cases hlt:e<2
         ·have hde:decide ((e:Int)<2)=true:=by simp;omega
          have HNL:Hid (leOk (t.les[e]?.getD Le.zero)=false→tileOk d t=false):=fun h=>by
           rw [HTL.out]
           rcases (by omega:e=0∨e=1) with rfl|rfl
           ·rw [h];rfl
           ·rw [h];simp
          have HYL:Hid (leOk (t.les[e]?.getD Le.zero)=true→∀j,j<e+1→leOk (t.les[j]?.getD Le.zero)=true):=fun h j hj=>by
           by_cases hje:j=e
           ·rw [hje];exact h
           ·exact HLA.out j (by omega)
          obtain ⟨bl,ol,S4,m4,p4,rfl,hbl,d0,d1,d2,d3,r4⟩:=HL.out.le (k:=e) (by rw [HL2.out];exact hlt)
          have hS:=RdC.ints r4
          have hm4:m4≤1099511627776:=by have:=hS.1;have:=HSL.out e;omega
          have HSEL:Hid ((t.les[e]?.getD Le.zero).sel.length=m4):=hS.1
          have HLE:Hid (leOk (t.les[e]?.getD Le.zero)=(decide ((t.les[e]?.getD Le.zero).sel.length=4) && (inR (t.les[e]?.getD Le.zero).mask 0 65535 && (inR (t.les[e]?.getD Le.zero).flop 0 1 && (inR (t.les[e]?.getD Le.zero).init 0 1 && allIn (t.les[e]?.getD Le.zero).sel 7))))):=rfl
          have HSE:=Lib.hid hS
          obtain ⟨hcc,hff⟩:=bcell HWR.out
          have j0:(0:Int)≤(e:Int):=by omega
          have j1:(e:Int)<2:=by omega
          clear hS r4
          generalize t.les[e]?.getD Le.zero=le at *
          have HBX:=Lib.hid (below_new (Below.refl wr.heap.size wr) (.cells #[.slice S4 m4 p4,.int .i64 le.mask,.int .i64 le.flop,.int .i64 le.init] 107))
          by_cases h4:m4=4
          ·subst h4
           have HL4:Hid (le.sel.length=4):=HSEL.out
           cases h1:inR le.mask 0 65535 with
           | false =>
            have HNO:=Lib.hid (HNL.out (by rw [HLE.out,h1];simp))
            clear HNL HYL
            go_wp2_with (go_at_call 85;refine (l01In_any _ _ _ _).mono ?_;rintro e' w' ⟨rfl,hq⟩;subst hq;first|rw [h1]|rw [h2]|rw [h3])
            go_ret
            exact ⟨ret_bool HNO.out.symm,below_tr HWR.out HBX.out⟩
           | true =>
            cases h2:inR le.flop 0 1 with
            | false =>
             have HNO:=Lib.hid (HNL.out (by rw [HLE.out,h2];simp))
             clear HNL HYL
             go_wp2_with (go_at_call 85;refine (l01In_any _ _ _ _).mono ?_;rintro e' w' ⟨rfl,hq⟩;subst hq;first|rw [h1]|rw [h2]|rw [h3])
             go_ret
             exact ⟨ret_bool HNO.out.symm,below_tr HWR.out HBX.out⟩
            | true =>
             cases h3:inR le.init 0 1 with
             | false =>
              have HNO:=Lib.hid (HNL.out (by rw [HLE.out,h3];simp))
              clear HNL HYL
              go_wp2_with (go_at_call 85;refine (l01In_any _ _ _ _).mono ?_;rintro e' w' ⟨rfl,hq⟩;subst hq;first|rw [h1]|rw [h2]|rw [h3])
              go_ret
              exact ⟨ret_bool HNO.out.symm,below_tr HWR.out HBX.out⟩
             | true =>
              have HLF:Hid (leOk le=allIn le.sel 7):=by show _=_;rw [HLE.out,decide_eq_true HL4.out,h1,h2,h3];rfl
              go_wp2_with (go_at_call 85;refine (l01In_any _ _ _ _).mono ?_;rintro e' w' ⟨rfl,hq⟩;subst hq;first|rw [h1]|rw [h2]|rw [h3])
              obtain ⟨bs,os,rfl,hbs,hcs⟩:=HSE.out.2 (by omega)
              have hbsr:bs<wr.heap.size:=by have:=HWR.out.size;omega
              have hw0:w.heap.size+1<wr.heap.size:=hl1
              go_loopw [8] (fun i wx=>∃j:Nat,j≤4∧i = .int .i64 j∧(wr.alloc (.cells #[.slice (some ⟨bs,os,none⟩) 4 p4,.int .i64 le.mask,.int .i64 le.flop,.int .i64 le.init] 107))=wx∧∀q,q<j→inR (le.sel[q]?.getD 0) 0 7=true) (fun i _=>4 - (intOf i).toNat)
              case atStart=>exact ⟨0,by omega,rfl,rfl,by intro q hq;omega⟩
              case round =>
               obtain ⟨j,hj,rfl,rfl,hsel⟩:=hrel
               have HSA:=Lib.hid hsel
               clear hsel
               by_cases hjl:j<4
               ·have hdj:decide ((j:Int)<4)=true:=by simp;omega
                have hck:=hcs j hjl
                have HG:Hid (inR (le.sel[j]?.getD 0) 0 7=true→∀q,q<j+1→inR (le.sel[q]?.getD 0) 0 7=true):=fun h=>all_succ HSA.out h
                have HBD:Hid (inR (le.sel[j]?.getD 0) 0 7=false→allIn le.sel 7=false):=fun h=>allIn_bad (by rw [HL4.out];exact hjl) h
                have m0:(0:Int)≤(j:Int):=by omega
                have m1:(j:Int)<4:=by omega
                clear hcs
                generalize le.sel[j]?.getD 0=x at *
                cases hin:inR x 0 7 with
                | true =>
                 have HG2:=Lib.hid (HG.out hin)
                 clear HG HBD
                 go_wp2_with (go_at_call 85;refine (l01In_any _ _ _ _).mono ?_;rintro e' w' ⟨rfl,rfl⟩;rw [hin])
                 go_roundw
                 case rel=>exact ⟨j+1,by omega,by go_num,trivial,HG2.out⟩
                 case measure=>simp [intOf];omega
                | false =>
                 have HNO:=Lib.hid (HNL.out (by rw [HLF.out,HBD.out hin]))
                 clear HG HBD HNL HYL
                 go_wp2_with (go_at_call 85;refine (l01In_any _ _ _ _).mono ?_;rintro e' w' ⟨rfl,rfl⟩;rw [hin])
                 go_ret
                 exact ⟨ret_bool HNO.out.symm,below_tr HWR.out HBX.out⟩
               ·have hj4:j=4:=by omega
                subst hj4
                have hdj:decide (((4:Nat):Int)<4)=false:=by decide
                have HYY:=Lib.hid (HYL.out (by rw [HLF.out];exact allIn_good (by rw [HL4.out];exact HSA.out)))
                clear hjl hj HNL HYL
                go_wp2_with fail
                go_roundw
                case rel=>exact ⟨e+1,by omega,by go_num,below_tr HB.out HBX.out,HYY.out⟩
                case measure=>simp [intOf];omega
          ·have HNO:=Lib.hid (HNL.out (by rw [HLE.out,decide_eq_false (by rw [HSEL.out];exact h4)];rfl))
           have q4:((m4:Int) != 4)=true:=by simp;omega
           clear HNL HYL h4
           go_wp2_with fail
           go_ret
           exact ⟨ret_bool HNO.out.symm,below_tr HWR.out HBX.out⟩
         ·have he2:e=2:=by omega
          subst he2
          have hde:decide (((2:Nat):Int)<2)=false:=by decide
          have HYES:Hid (tileOk d t=true):=by show _=_;rw [HTL.out,HLA.out 0 (by omega),HLA.out 1 (by omega)];rfl
          clear hlt he
          go_wp2_with fail
          go_ret
          exact ⟨ret_bool HYES.out.symm,HWR.out⟩
   ·have HNO:Hid (tileOk d t=false):=by show _=_;rw [HTK.out,HD.out,decide_eq_true HM1.out,decide_eq_false h2];rfl
    have q2:((ln:Int) != 2)=true:=by have:=HLL.out;simp;omega
    clear h2
    obtain ⟨z0,z1,z2,z3⟩:=cell4 X0.out
    obtain ⟨y0,y1,y2,y3⟩:=cell4 X1.out
    go_wp2_with fail
    have hsub:=sub_ne w0
    have hsc:=sub_cell w0
    refine wp_region_below w0 (by kernel_rfl) (by kernel_rfl) (Below.refl _ _) ?_
    repeat (go_big_quiet_step ((first
     | (go_at_call 42;with_reducible exact calls_sub (HDO.out _))
     | (go_at_call 122;with_reducible exact calls_sub (HMC.out _))
     | (go_at_call 85;(first|with_reducible exact calls_sub_same (HPR.out _)|with_reducible exact calls_sub_same (HRR.out _))))))
    refine wpQuiet_nil ?_
    rintro w2 ⟨⟨w9,hD⟩,hw9⟩
    replace hw9:w2=w9:=hw9
    subst hw9
    clear hsub hsc

    go_wp2_with fail
    go_ret
    exact ⟨ret_bool HNO.out.symm,below_tr HB0.out hD⟩
  ·have HNO:Hid (tileOk d t=false):=by show _=_;rw [HTK.out,HD.out,decide_eq_false hm];rfl
   have q1:((mn:Int) != 5+4 * d.T)=true:=by have:=HML.out;simp;omega
   clear hm
   obtain ⟨z0,z1,z2,z3⟩:=cell4 X0.out
   obtain ⟨y0,y1,y2,y3⟩:=cell4 X1.out
   go_wp2_with fail
   have hsub:=sub_ne w0
   have hsc:=sub_cell w0
   refine wp_region_below w0 (by kernel_rfl) (by kernel_rfl) (Below.refl _ _) ?_
   repeat (go_big_quiet_step ((first
    | (go_at_call 42;with_reducible exact calls_sub (HDO.out _))
    | (go_at_call 122;with_reducible exact calls_sub (HMC.out _))
    | (go_at_call 85;(first|with_reducible exact calls_sub_same (HPR.out _)|with_reducible exact calls_sub_same (HRR.out _))))))
   refine wpQuiet_nil ?_
   rintro w2 ⟨⟨w9,hD⟩,hw9⟩
   replace hw9:w2=w9:=hw9
   subst hw9
   clear hsub hsc

   go_wp2_with fail
   go_ret
   exact ⟨ret_bool HNO.out.symm,below_tr HB0.out hD⟩
def enT (d:Dev) (t:Tile):List Int:=if tileOk d t=true then encT d t else []
set_option maxHeartbeats 4000000 in
theorem sencodeTile_any (d:Dev) (t:Tile) (MA:Option Addr) (mn mc:Nat) (LA:Option Addr) (ln lc:Nat) (w:World) (hM:Ints w MA mn t.mux) (hL:RdC w w.heap.size (celE t.les) (.slice LA ln lc)) (hmn:mn≤1099511627776) (hsl:∀e:Nat,(t.les[e]?.getD Le.zero).sel.length≤1099511627776) :
  Calls Try.prog 43 #[.agg #[.int .i64 d.W,.int .i64 d.H,.int .i64 d.T,.int .i64 d.R],.agg #[.slice MA mn mc,.slice LA ln lc,.int .i64 t.pad,.int .i64 t.ram]] w fun e w'=>∃A' n' c',e = .returned (.tuple #[.slice A' n' c',.bool (tileOk d t)])∧Own w.heap.size w' A' n' c' (enT d t)∧Below w.heap.size w w':=by
 cases hk:tileOk d t with
 | true =>
  have he:enT d t=encT d t:=if_pos hk
  rw [he]
  exact sencodeTile_yes d t MA mn mc LA ln lc w hM hL hk
 | false =>
  have HE:Hid (enT d t=[]):=if_neg (by rw [hk];decide)
  have HB0:=Lib.hid (below_new (below_new (Below.refl w.heap.size w) (.cells #[.int .i64 d.W,.int .i64 d.H,.int .i64 d.T,.int .i64 d.R] 29)) (.cells #[.slice MA mn mc,.slice LA ln lc,.int .i64 t.pad,.int .i64 t.ram] 52))
  have HTC:=Lib.hid (stileConfigOk_any d t MA mn mc LA ln lc ((w.alloc (.cells #[.int .i64 d.W,.int .i64 d.H,.int .i64 d.T,.int .i64 d.R] 29)).alloc (.cells #[.slice MA mn mc,.slice LA ln lc,.int .i64 t.pad,.int .i64 t.ram] 52)) (hM.below HB0.out) (hL.below HB0.out) hmn hsl)
  rw [hk] at HTC
  clear hM hL hk hsl
  go_enter Try.func43,Try.ntmps43
  go_wp2_with fail
  refine HTC.out.mono ?_
  rintro e w1 ⟨rfl,b1⟩
  have HW1:=Lib.hid (below_tr HB0.out b1)
  have hs1:=HW1.out.size
  clear b1
  go_wp2_with fail
  go_ret2
  exact ⟨_,0,_,rfl,by rw [HE.out];exact Own.new0 (by omega),below_tr HW1.out (below_new (Below.refl _ _) _)⟩
end Go.Proofs.Ytbnfdhidgdfbeaa
