/- Contracts of the library at this dump, as the kit's tool writes them in plain words (lay-plain); lexer.May, quoted and first as plain functions; expr.Reserved, expr.parts, lexer.Name as plain functions. -/
import Derived.Shelf.LaysM
import Derived.Shelf.LaysC
import Derived.Shelf.Strings.Search3
import Derived.Test.YtchilcchogcibaaGreatDoorProg
import Derived.Laws.EntriesVeiled
import Derived.Test.YtchilcchogcibaaGreatDoorFExLaw
set_option maxRecDepth 100000
set_option maxHeartbeats 4000000
namespace Go.Proofs
open Go.Shelf
def Tryz.lays144_ren:Go.Shelf.Ren:=⟨fun|144=>159|143=>207|219=>229|217=>243|225=>244|224=>245|267=>246|266=>253|314=>254|n=>n,fun|9=>9|4=>4|3=>3|5=>5|46=>241|146=>265|51=>245|n=>n,fun|1=>1|n=>n⟩
theorem Tryz.lays144:Go.Proofs.Lays.n144 Tryz.prog Tryz.lays144_ren:={
 mixed:=by kernel_rfl
 f143:=Tryz.func207.trans (congrArg some (by kernel_rfl))
 f144:=Tryz.func159.trans (congrArg some (by kernel_rfl))
 f217:=Tryz.func243.trans (congrArg some (by kernel_rfl))
 f219:=Tryz.func229.trans (congrArg some (by kernel_rfl))
 f224:=Tryz.func245.trans (congrArg some (by kernel_rfl))
 f225:=Tryz.func244.trans (congrArg some (by kernel_rfl))
 f266:=Tryz.func253.trans (congrArg some (by kernel_rfl))
 f267:=Tryz.func246.trans (congrArg some (by kernel_rfl))
 f314:=Tryz.func254.trans (congrArg some (by kernel_rfl))
 t3:=Tryz.underlying3
 a3:=Tryz.isAgg3
 z3:=Tryz.sizeOf3
 v3:=Tryz.zeroValue3
 t4:=Tryz.underlying4
 a4:=Tryz.isAgg4
 z4:=Tryz.sizeOf4
 v4:=Tryz.zeroValue4
 t5:=Tryz.underlying5
 a5:=Tryz.isAgg5
 z5:=Tryz.sizeOf5
 v5:=Tryz.zeroValue5
 t9:=Tryz.underlying9
 a9:=Tryz.isAgg9
 z9:=Tryz.sizeOf9
 v9:=Tryz.zeroValue9
 t46:=Tryz.underlying241
 a46:=Tryz.isAgg241
 z46:=Tryz.sizeOf241
 v46:=Tryz.zeroValue241
 t51:=Tryz.underlying245
 a51:=Tryz.isAgg245
 z51:=Tryz.sizeOf245
 v51:=Tryz.zeroValue245
 t146:=Tryz.underlying265
 a146:=Tryz.isAgg265
 z146:=Tryz.sizeOf265
 v146:=Tryz.zeroValue265
 g1:=by kernel_rfl}
open Go.RowKit Go.Lib in
theorem Tryz.strings_Contains_one(s:ByteArray)(c:UInt8)(w:World):
  Calls Tryz.prog 159 #[.string s,.string ⟨#[c]⟩] w λe w'=>e=.returned (.bool (decide (0<=Lib.indexByte s.data.toList c)))/\w'=w:=Any.strings_Contains_one Tryz.lays144 s c w
end Go.Proofs
namespace Go.Proofs.YtchilcchogcibaaGreatDoor
open Go.RowKit
attribute [local go_sem] ByteArray.extract_mk Ak AY
attribute [local go_sem ↓] Go.wp_at_zero Go.wp_at_succ
theorem Qe(w:World):Calls Tryz.prog 156 #[] w (Ret (.agg #[.int .i64 1,.int .i64 16,.func (.func 205) #[] #[],.func (.func 204) #[] #[],.int .i64 2,.int .i64 19,.func (.func 206) #[] #[],.func (.func 206) #[] #[]]) w):=by
 go_in
 go_wp2;refine bodyPost_ret (v:=.agg #[.int .i64 1,.int .i64 16,.func (.func 205) #[] #[],.func (.func 204) #[] #[],.int .i64 2,.int .i64 19,.func (.func 206) #[] #[],.func (.func 206) #[] #[]]) (by simp[results,Tryz.results156,go_sem]) rfl ⟨rfl,by exact bl⟩
theorem ix0(w:World):(Instr.index 184 (.agg #[.int .i64 1,.int .i64 16,.func (.func 205) #[] #[],.func (.func 204) #[] #[],.int .i64 2,.int .i64 19,.func (.func 206) #[] #[],.func (.func 206) #[] #[]]) (.int .i64 0)).run Tryz.prog w=.ok (.agg #[.int .i64 1,.int .i64 16,.func (.func 205) #[] #[],.func (.func 204) #[] #[]]) w:=by kernel_rfl
theorem ix1(w:World):(Instr.index 184 (.agg #[.int .i64 1,.int .i64 16,.func (.func 205) #[] #[],.func (.func 204) #[] #[],.int .i64 2,.int .i64 19,.func (.func 206) #[] #[],.func (.func 206) #[] #[]]) (.int .i64 1)).run Tryz.prog w=.ok (.agg #[.int .i64 2,.int .i64 19,.func (.func 206) #[] #[],.func (.func 206) #[] #[]]) w:=by kernel_rfl
attribute [local go_sem ↓] ix0 ix1
theorem Jt(k:Int)(s:List UInt8)(w:World)(hs:s.length<=1000000):
  Calls Tryz.prog 96 #[.agg #[.int .i64 k,.string ⟨s.toArray⟩]] w (Ret (.bool (EG ⟨k,s⟩)) w):=by
 obtain⟨R,hR⟩:∃R,EG ⟨k,s⟩=R:=⟨_,rfl⟩;rw[hR];have l0:w.heap.size<w.heap.size+1:=by omega
 by_cases h3:k=3
 ·subst h3;have HR:Hid (R=D5 2 0 s):=by show _=_;rw[<-hR];rfl
  clear hR;go_in
  go_wp2_with fail;refine(Ep 2 0 s _).mono ?_;rintro e w1 ⟨rfl,hb1⟩;rw[<-HR.out];go_wp2_with fail;go_ret;exact⟨rfl,by exact bl⟩
 ·have e3:(k==3)=false:=by simpa using h3
  by_cases h4:k=4
  ·subst h4;clear e3 h3;have HR:Hid (R=P6 s):=by show _=_;rw[<-hR];rfl
   clear hR
   match s,HR with
   |[],HR=>
    go_in
    go_wp2_with fail;go_ret;exact⟨by rw[HR.out];rfl,by exact bl⟩
   |[c],HR=>
    go_in
    go_wp2_with fail;refine(Tryz.strings_Contains_one ⟨Uj.toArray⟩ c _).mono ?_;rintro e w1 ⟨rfl,rfl⟩;go_wp2_with fail;go_ret;exact⟨by rw[HR.out];rfl,by exact bl⟩
   |c::d::r,HR=>
    have hl:r.length<=999998:=by simp at hs;omega
    have e1:(((c::d::r).length:Int)==1)=false:=by rw[beq_eq_false_iff_ne];simp;omega
    have e2:((r.length:Int)+1+1==1)=false:=by rw[beq_eq_false_iff_ne];omega
    clear hs;go_in
    go_wp2_with fail;go_ret;exact⟨by rw[HR.out];rfl,by exact bl⟩
  ·have e4:(k==4)=false:=by simpa using h4
   have HR:Hid (R=if k=1 then GM 16 DV BV s else if k=2 then GM 19 BA BA s else false):=by
    show _=_;rw[<-hR];unfold EG;rw[if_neg h3,if_neg h4]
   clear hR h3 h4;obtain⟨w0,hw0⟩:∃w0,w.alloc (.cells #[.int .i64 k,.string ⟨s.toArray⟩] 128)=w0:=⟨_,rfl⟩;have hk0:Blk w0 w.heap.size 128 #[.int .i64 k,.string ⟨s.toArray⟩]:=by rw[<-hw0];exact Blk.new _ _ _
   have hb0:Below w.heap.size w w0:=by rw[<-hw0];exact bl
   have HW:=Lib.hid hw0;clear hw0;have lw:=hk0.lt;obtain⟨⟨x0,x1⟩,_⟩:=hk0.two;go_in
   go_upto_region 1 with fail
   rw[HW.out];go_wp2_with fail;refine(Qe _).mono ?_;rintro e w1 ⟨rfl,hb1⟩;have k1:=hk0.below hb1 lw;have hz1:=hb1.size;clear x0 x1;obtain⟨⟨x0,x1⟩,_⟩:=k1.two;have lw1:=k1.lt;go_wp2_with fail;have hbw1:Below w.heap.size w w1:=hb0.trans (hb1.mono hb0.size);have hzw:=hbw1.size;refine wp_loop_rounds 3 ?_;rw[rounds_succ];obtain⟨w2,hw2⟩:∃w2,w1.alloc (.cells #[.int .i64 1,.int .i64 16,.func (.func 205) #[] #[],.func (.func 204) #[] #[]] 183)=w2:=⟨_,rfl⟩;have kr:Blk w2 w1.heap.size 183 #[.int .i64 1,.int .i64 16,.func (.func 205) #[] #[],.func (.func 204) #[] #[]]:=by rw[<-hw2];exact Blk.new _ _ _
   have hb12:Below w1.heap.size w1 w2:=by rw[<-hw2];exact bl
   have kt:=k1.below hb12 lw1;have hbw2:Below w.heap.size w w2:=hbw1.trans (hb12.mono hzw);have hz2:=hbw2.size;have HW2:=Lib.hid hw2;clear hw2;by_cases hk1:k=1
   ·subst hk1;have HR':Hid (R=GM 16 DV BV s):=HR.out;have HR:=HR';clear e3 e4;go_upto_region 10 with fail
    rw[HW2.out];clear HW2 x0 x1;have hshv:∀w',Below w2.heap.size w2 w'->((w'.cell? ⟨w.heap.size,0,none⟩=some (.int .i64 1)/\w'.cell? ⟨w.heap.size,1,none⟩=some (.string ⟨s.toArray⟩))/\w'.cell? ⟨w1.heap.size,0,none⟩=some (.int .i64 1)/\w'.cell? ⟨w1.heap.size,1,none⟩=some (.int .i64 16)/\w'.cell? ⟨w1.heap.size,2,none⟩=some (.func (.func 205) #[] #[])/\w'.cell? ⟨w1.heap.size,3,none⟩=some (.func (.func 204) #[] #[])):=
     λw' h=>⟨(kt.below h kt.lt).two.1,(kr.below h kr.lt).cell 0,(kr.below h kr.lt).cell 1,(kr.below h kr.lt).cell 2,(kr.below h kr.lt).cell 3⟩
    have HSH:=Lib.hid hshv;clear hshv;by_cases h1:1<=s.length
    ·by_cases hm:s.length<=16
     ·have d1:decide ((1:Int)<=(s.length:Int))=true:=by rw[decide_eq_true_eq];omega
      have d2:decide ((s.length:Int)<=16)=true:=by simp;omega
      have HR2:Hid (R=(Aj DV BV s==s.length)):=by show _=_;rw[HR.out];simp[GM,h1,hm]
      have hcast:((Aj DV BV s:Int)==(s.length:Int))=(Aj DV BV s==s.length):=by
       rw[Bool.eq_iff_iff,beq_iff_eq,beq_iff_eq];omega
      have HC:=Lib.hid hcast;clear hcast;refine rgn HSH λhHeld=>?_
      refine tS [0,1,2,3,4,5,6,7,8,9,10,11,12,13,14,15,17,18,19] ?_;iterate 19(refine tC ?_;refine ap ?_)
      refine tN ?_;refine rdy 16 λK hK=>?_
      go_simp;refine(Lr s _ hs).mono ?_<;>rintro e w16 ⟨rfl,hb16⟩<;>have hz16:=hb16.size<;>(try simp at hz16)
      go_wp2_with fail;refine hK.out _ _ (HSH.out _ (by exact bl)) λhHeld=>?_
      clear hK K;refine ap ?_;refine tS [20,21,22] ?_;iterate 3(refine tC ?_;refine ap ?_)
      refine tN ?_;refine wpAnyH_done (by kernel_rfl) ?_ _;go_wp2_with fail;go_ret;exact⟨by rw[HR2.out,<-HC.out];rfl,by exact bl⟩
     ·have d1:decide ((1:Int)<=(s.length:Int))=true:=by rw[decide_eq_true_eq];omega
      have d2:decide ((s.length:Int)<=16)=false:=by simp;omega
      have HR2:Hid (R=false):=by show _=_;rw[HR.out];simp[GM,hm]
      refine rgn HSH λhHeld=>?_
      refine tS [0,1,2,3,4,5,6,7,8,9,10,11,12] ?_;iterate 13(refine tC ?_;refine ap ?_)
      refine tN ?_;refine tS [13,14,15,16,17,18,19,20] ?_;iterate 8(refine tX ?_;refine ap ?_)
      refine tN ?_;refine tS [21,22] ?_;iterate 2(refine tC ?_;refine ap ?_)
      refine tN ?_;refine wpAnyH_done (by kernel_rfl) ?_ _;go_wp2_with fail;go_ret;exact⟨by rw[HR2.out];rfl,by exact bl⟩
    ·have d1:decide ((1:Int)<=(s.length:Int))=false:=by simp;omega
     have HR2:Hid (R=false):=by show _=_;rw[HR.out];simp[GM,h1]
     have hnil:s=[]:=List.eq_nil_of_length_eq_zero (by omega);subst hnil;refine rgn HSH λhHeld=>?_
     refine tS [0,1,2,3,4] ?_;iterate 5(refine tC ?_;refine ap ?_)
     refine tN ?_;refine tS [5,6,7,8,9,10] ?_;iterate 6(refine tX ?_;refine ap ?_)
     refine tN ?_;refine tS [11,12] ?_;iterate 2(refine tC ?_;refine ap ?_)
     refine tN ?_;refine tS [13,14,15,16,17,18,19,20] ?_;iterate 8(refine tX ?_;refine ap ?_)
     refine tN ?_;refine tS [21,22] ?_;iterate 2(refine tC ?_;refine ap ?_)
     refine tN ?_;refine wpAnyH_done (by kernel_rfl) ?_ _;go_wp2_with fail;go_ret;exact⟨by rw[HR2.out];rfl,by exact bl⟩
   ·have f1:((1:Int)==k)=false:=by rw[beq_eq_false_iff_ne];exactλe=>hk1 e.symm
    go_wp2_with fail;rw[HW2.out];rw[rounds_succ];clear x0 x1 HW2;obtain⟨⟨x0,x1⟩,_⟩:=kt.two;have lt2:=kt.lt;obtain⟨w3,hw3⟩:∃w3,w2.alloc (.cells #[.int .i64 2,.int .i64 19,.func (.func 206) #[] #[],.func (.func 206) #[] #[]] 183)=w3:=⟨_,rfl⟩;have kr3:Blk w3 w2.heap.size 183 #[.int .i64 2,.int .i64 19,.func (.func 206) #[] #[],.func (.func 206) #[] #[]]:=by rw[<-hw3];exact Blk.new _ _ _
    have hb23:Below w2.heap.size w2 w3:=by rw[<-hw3];exact bl
    have kt3:=kt.below hb23 kt.lt;have hbw3:Below w.heap.size w w3:=hbw2.trans (hb23.mono hz2);have hz3:=hbw3.size;have HW3:=Lib.hid hw3;clear hw3;by_cases hk2:k=2
    ·subst hk2;have HR':Hid (R=GM 19 BA BA s):=HR.out;have HR:=HR';clear e3 e4 f1;go_upto_region 10 with fail
     rw[HW3.out];clear HW3 x0 x1 kt kr;have kt:=kt3;have kr:=kr3;have hshv:∀w',Below w3.heap.size w3 w'->((w'.cell? ⟨w.heap.size,0,none⟩=some (.int .i64 2)/\w'.cell? ⟨w.heap.size,1,none⟩=some (.string ⟨s.toArray⟩))/\w'.cell? ⟨w2.heap.size,0,none⟩=some (.int .i64 2)/\w'.cell? ⟨w2.heap.size,1,none⟩=some (.int .i64 19)/\w'.cell? ⟨w2.heap.size,2,none⟩=some (.func (.func 206) #[] #[])/\w'.cell? ⟨w2.heap.size,3,none⟩=some (.func (.func 206) #[] #[])):=
      λw' h=>⟨(kt.below h kt.lt).two.1,(kr.below h kr.lt).cell 0,(kr.below h kr.lt).cell 1,(kr.below h kr.lt).cell 2,(kr.below h kr.lt).cell 3⟩
     have HSH:=Lib.hid hshv;clear hshv;by_cases h1:1<=s.length
     ·by_cases hm:s.length<=19
      ·have d1:decide ((1:Int)<=(s.length:Int))=true:=by rw[decide_eq_true_eq];omega
       have d2:decide ((s.length:Int)<=19)=true:=by simp;omega
       have HR2:Hid (R=(Aj BA BA s==s.length)):=by show _=_;rw[HR.out];simp[GM,h1,hm]
       have hcast:((Aj BA BA s:Int)==(s.length:Int))=(Aj BA BA s==s.length):=by
        rw[Bool.eq_iff_iff,beq_iff_eq,beq_iff_eq];omega
       have HC:=Lib.hid hcast;clear hcast;refine rgn HSH λhHeld=>?_
       refine tS [0,1,2,3,4,5,6,7,8,9,10,11,12,13,14,15,17,18,19] ?_;iterate 19(refine tC ?_;refine ap ?_)
       refine tN ?_;refine rdy 16 λK hK=>?_
       go_simp;refine(Lu s _ hs).mono ?_<;>rintro e w16 ⟨rfl,hb16⟩<;>have hz16:=hb16.size<;>(try simp at hz16)
       go_wp2_with fail;refine hK.out _ _ (HSH.out _ (by exact bl)) λhHeld=>?_
       clear hK K;refine ap ?_;refine tS [20,21,22] ?_;iterate 3(refine tC ?_;refine ap ?_)
       refine tN ?_;refine wpAnyH_done (by kernel_rfl) ?_ _;go_wp2_with fail;go_ret;exact⟨by rw[HR2.out,<-HC.out];rfl,by exact bl⟩
      ·have d1:decide ((1:Int)<=(s.length:Int))=true:=by rw[decide_eq_true_eq];omega
       have d2:decide ((s.length:Int)<=19)=false:=by simp;omega
       have HR2:Hid (R=false):=by show _=_;rw[HR.out];simp[GM,hm]
       refine rgn HSH λhHeld=>?_
       refine tS [0,1,2,3,4,5,6,7,8,9,10,11,12] ?_;iterate 13(refine tC ?_;refine ap ?_)
       refine tN ?_;refine tS [13,14,15,16,17,18,19,20] ?_;iterate 8(refine tX ?_;refine ap ?_)
       refine tN ?_;refine tS [21,22] ?_;iterate 2(refine tC ?_;refine ap ?_)
       refine tN ?_;refine wpAnyH_done (by kernel_rfl) ?_ _;go_wp2_with fail;go_ret;exact⟨by rw[HR2.out];rfl,by exact bl⟩
     ·have d1:decide ((1:Int)<=(s.length:Int))=false:=by simp;omega
      have HR2:Hid (R=false):=by show _=_;rw[HR.out];simp[GM,h1]
      have hnil:s=[]:=List.eq_nil_of_length_eq_zero (by omega);subst hnil;refine rgn HSH λhHeld=>?_
      refine tS [0,1,2,3,4] ?_;iterate 5(refine tC ?_;refine ap ?_)
      refine tN ?_;refine tS [5,6,7,8,9,10] ?_;iterate 6(refine tX ?_;refine ap ?_)
      refine tN ?_;refine tS [11,12] ?_;iterate 2(refine tC ?_;refine ap ?_)
      refine tN ?_;refine tS [13,14,15,16,17,18,19,20] ?_;iterate 8(refine tX ?_;refine ap ?_)
      refine tN ?_;refine tS [21,22] ?_;iterate 2(refine tC ?_;refine ap ?_)
      refine tN ?_;refine wpAnyH_done (by kernel_rfl) ?_ _;go_wp2_with fail;go_ret;exact⟨by rw[HR2.out];rfl,by exact bl⟩
    ·have f2:((2:Int)==k)=false:=by rw[beq_eq_false_iff_ne];exactλe=>hk2 e.symm
     have HR2:Hid (R=false):=by show _=_;rw[HR.out,if_neg hk1,if_neg hk2]
     go_wp2_with fail;rw[HW3.out];rw[rounds_succ];go_wp2_with fail;go_ret;exact⟨by rw[HR2.out];rfl,hbw3⟩
theorem PN(s:List UInt8)(w:World)(hs:s.length<=1000000):Calls Tryz.prog 66 #[.string ⟨s.toArray⟩] w (Ret (.bool (D9 s)) w):=by
 go_in
 go_wp2_with fail;refine(Jt 1 s w hs).mono ?_;rintro e w1 ⟨rfl,hb1⟩;go_wp2_with fail;go_ret;exact⟨rfl,hb1⟩
theorem Vp(s:List UInt8)(w:World):Calls Tryz.prog 192 #[.string ⟨s.toArray⟩] w λe w'=>e=.returned (.int .i64 (Dx s))/\w=w':=by
 by_cases hLit:s=CU
 ·subst hLit;go_in
  go_wp2;go_ret;exact⟨rfl,rfl⟩
 by_cases hCol:s=DC
 ·subst hCol;go_in
  go_wp2;go_ret;exact⟨rfl,rfl⟩
 by_cases hNot:s=C9
 ·subst hNot;go_in
  go_wp2;go_ret;exact⟨rfl,rfl⟩
 by_cases hNull:s=Be
 ·subst hNull;go_in
  go_wp2;go_ret;exact⟨rfl,rfl⟩
 by_cases hAnd:s=PH
 ·subst hAnd;go_in
  go_wp2;go_ret;exact⟨rfl,rfl⟩
 by_cases hOr:s=Vr
 ·subst hOr;go_in
  go_wp2;go_ret;exact⟨rfl,rfl⟩
 by_cases hEq:s=Vt
 ·subst hEq;go_in
  go_wp2;go_ret;exact⟨rfl,rfl⟩
 by_cases hLt:s=Vs
 ·subst hLt;go_in
  go_wp2;go_ret;exact⟨rfl,rfl⟩
 by_cases hPlus:s=LD
 ·subst hPlus;go_in
  go_wp2;go_ret;exact⟨rfl,rfl⟩
 by_cases hMinus:s=JZ
 ·subst hMinus;go_in
  go_wp2;go_ret;exact⟨rfl,rfl⟩
 have HP:Hid (Dx s = -1):=by show _=_;simp[Dx,hLit,hCol,hNot,hNull,hAnd,hOr,hEq,hLt,hPlus,hMinus]
 have eLit:(s==[108,105,116])=false:=by rw[beq_eq_false_iff_ne];exact hLit
 have gLit:¬s=[108,105,116]:=hLit;have eCol:(s==[99,111,108])=false:=by rw[beq_eq_false_iff_ne];exact hCol
 have gCol:¬s=[99,111,108]:=hCol;have eNot:(s==[110,111,116])=false:=by rw[beq_eq_false_iff_ne];exact hNot
 have gNot:¬s=[110,111,116]:=hNot;have eNull:(s==[110,117,108,108])=false:=by rw[beq_eq_false_iff_ne];exact hNull
 have gNull:¬s=[110,117,108,108]:=hNull;have eAnd:(s==[97,110,100])=false:=by rw[beq_eq_false_iff_ne];exact hAnd
 have gAnd:¬s=[97,110,100]:=hAnd;have eOr:(s==[111,114])=false:=by rw[beq_eq_false_iff_ne];exact hOr
 have gOr:¬s=[111,114]:=hOr;have eEq:(s==[61])=false:=by rw[beq_eq_false_iff_ne];exact hEq
 have gEq:¬s=[61]:=hEq;have eLt:(s==[60])=false:=by rw[beq_eq_false_iff_ne];exact hLt
 have gLt:¬s=[60]:=hLt;have ePlus:(s==[43])=false:=by rw[beq_eq_false_iff_ne];exact hPlus
 have gPlus:¬s=[43]:=hPlus;have eMinus:(s==[45])=false:=by rw[beq_eq_false_iff_ne];exact hMinus
 have gMinus:¬s=[45]:=hMinus;rw[HP.out];clear HP hLit hCol hNot hNull hAnd hOr hEq hLt hPlus hMinus;go_in
 go_wp2;go_ret;exact⟨rfl,rfl⟩
theorem IW(s:List UInt8)(w:World):Calls Tryz.prog 67 #[.string ⟨s.toArray⟩] w (YP (CZ s) w):=by
 cases hr:CZ s
 ·have hn:¬s∈Eg:=by
   intro h;have:CZ s=true:=by unfold CZ;exact List.contains_iff_mem.2 h
   rw[this]at hr;cases hr
  have g0:¬s=[65,78,68]:=λh=>hn (by subst h;decide)
  have e0:(s==[65,78,68])=false:=by rw[beq_eq_false_iff_ne];exact g0
  have g1:¬s=[79,82]:=λh=>hn (by subst h;decide)
  have e1:(s==[79,82])=false:=by rw[beq_eq_false_iff_ne];exact g1
  have g2:¬s=[78,79,84]:=λh=>hn (by subst h;decide)
  have e2:(s==[78,79,84])=false:=by rw[beq_eq_false_iff_ne];exact g2
  have g3:¬s=[73,83]:=λh=>hn (by subst h;decide)
  have e3:(s==[73,83])=false:=by rw[beq_eq_false_iff_ne];exact g3
  have g4:¬s=[78,85,76,76]:=λh=>hn (by subst h;decide)
  have e4:(s==[78,85,76,76])=false:=by rw[beq_eq_false_iff_ne];exact g4
  have g5:¬s=[84,82,85,69]:=λh=>hn (by subst h;decide)
  have e5:(s==[84,82,85,69])=false:=by rw[beq_eq_false_iff_ne];exact g5
  have g6:¬s=[70,65,76,83,69]:=λh=>hn (by subst h;decide)
  have e6:(s==[70,65,76,83,69])=false:=by rw[beq_eq_false_iff_ne];exact g6
  have g7:¬s=[67,82,69,65,84,69]:=λh=>hn (by subst h;decide)
  have e7:(s==[67,82,69,65,84,69])=false:=by rw[beq_eq_false_iff_ne];exact g7
  have g8:¬s=[84,65,66,76,69]:=λh=>hn (by subst h;decide)
  have e8:(s==[84,65,66,76,69])=false:=by rw[beq_eq_false_iff_ne];exact g8
  have g9:¬s=[73,78,84]:=λh=>hn (by subst h;decide)
  have e9:(s==[73,78,84])=false:=by rw[beq_eq_false_iff_ne];exact g9
  have g10:¬s=[84,69,88,84]:=λh=>hn (by subst h;decide)
  have e10:(s==[84,69,88,84])=false:=by rw[beq_eq_false_iff_ne];exact g10
  have g11:¬s=[66,79,79,76]:=λh=>hn (by subst h;decide)
  have e11:(s==[66,79,79,76])=false:=by rw[beq_eq_false_iff_ne];exact g11
  have g12:¬s=[75,69,89]:=λh=>hn (by subst h;decide)
  have e12:(s==[75,69,89])=false:=by rw[beq_eq_false_iff_ne];exact g12
  have g13:¬s=[85,78,73,81,85,69]:=λh=>hn (by subst h;decide)
  have e13:(s==[85,78,73,81,85,69])=false:=by rw[beq_eq_false_iff_ne];exact g13
  have g14:¬s=[82,69,70,69,82,69,78,67,69,83]:=λh=>hn (by subst h;decide)
  have e14:(s==[82,69,70,69,82,69,78,67,69,83])=false:=by rw[beq_eq_false_iff_ne];exact g14
  have g15:¬s=[67,72,69,67,75]:=λh=>hn (by subst h;decide)
  have e15:(s==[67,72,69,67,75])=false:=by rw[beq_eq_false_iff_ne];exact g15
  have g16:¬s=[68,82,79,80]:=λh=>hn (by subst h;decide)
  have e16:(s==[68,82,79,80])=false:=by rw[beq_eq_false_iff_ne];exact g16
  have g17:¬s=[73,78,83,69,82,84]:=λh=>hn (by subst h;decide)
  have e17:(s==[73,78,83,69,82,84])=false:=by rw[beq_eq_false_iff_ne];exact g17
  have g18:¬s=[73,78,84,79]:=λh=>hn (by subst h;decide)
  have e18:(s==[73,78,84,79])=false:=by rw[beq_eq_false_iff_ne];exact g18
  have g19:¬s=[86,65,76,85,69,83]:=λh=>hn (by subst h;decide)
  have e19:(s==[86,65,76,85,69,83])=false:=by rw[beq_eq_false_iff_ne];exact g19
  have g20:¬s=[85,80,68,65,84,69]:=λh=>hn (by subst h;decide)
  have e20:(s==[85,80,68,65,84,69])=false:=by rw[beq_eq_false_iff_ne];exact g20
  have g21:¬s=[83,69,84]:=λh=>hn (by subst h;decide)
  have e21:(s==[83,69,84])=false:=by rw[beq_eq_false_iff_ne];exact g21
  have g22:¬s=[87,72,69,82,69]:=λh=>hn (by subst h;decide)
  have e22:(s==[87,72,69,82,69])=false:=by rw[beq_eq_false_iff_ne];exact g22
  have g23:¬s=[68,69,76,69,84,69]:=λh=>hn (by subst h;decide)
  have e23:(s==[68,69,76,69,84,69])=false:=by rw[beq_eq_false_iff_ne];exact g23
  have g24:¬s=[70,82,79,77]:=λh=>hn (by subst h;decide)
  have e24:(s==[70,82,79,77])=false:=by rw[beq_eq_false_iff_ne];exact g24
  have g25:¬s=[83,69,76,69,67,84]:=λh=>hn (by subst h;decide)
  have e25:(s==[83,69,76,69,67,84])=false:=by rw[beq_eq_false_iff_ne];exact g25
  have g26:¬s=[71,82,65,78,84]:=λh=>hn (by subst h;decide)
  have e26:(s==[71,82,65,78,84])=false:=by rw[beq_eq_false_iff_ne];exact g26
  have g27:¬s=[82,69,65,68]:=λh=>hn (by subst h;decide)
  have e27:(s==[82,69,65,68])=false:=by rw[beq_eq_false_iff_ne];exact g27
  have g28:¬s=[87,82,73,84,69]:=λh=>hn (by subst h;decide)
  have e28:(s==[87,82,73,84,69])=false:=by rw[beq_eq_false_iff_ne];exact g28
  have g29:¬s=[79,78]:=λh=>hn (by subst h;decide)
  have e29:(s==[79,78])=false:=by rw[beq_eq_false_iff_ne];exact g29
  have g30:¬s=[84,79]:=λh=>hn (by subst h;decide)
  have e30:(s==[84,79])=false:=by rw[beq_eq_false_iff_ne];exact g30
  have g31:¬s=[82,69,86,79,75,69]:=λh=>hn (by subst h;decide)
  have e31:(s==[82,69,86,79,75,69])=false:=by rw[beq_eq_false_iff_ne];exact g31
  have g32:¬s=[77,73,71,82,65,84,69]:=λh=>hn (by subst h;decide)
  have e32:(s==[77,73,71,82,65,84,69])=false:=by rw[beq_eq_false_iff_ne];exact g32
  have g33:¬s=[67,79,80,89]:=λh=>hn (by subst h;decide)
  have e33:(s==[67,79,80,89])=false:=by rw[beq_eq_false_iff_ne];exact g33
  have g34:¬s=[74,79,73,78]:=λh=>hn (by subst h;decide)
  have e34:(s==[74,79,73,78])=false:=by rw[beq_eq_false_iff_ne];exact g34
  have g35:¬s=[71,82,79,85,80]:=λh=>hn (by subst h;decide)
  have e35:(s==[71,82,79,85,80])=false:=by rw[beq_eq_false_iff_ne];exact g35
  have g36:¬s=[66,89]:=λh=>hn (by subst h;decide)
  have e36:(s==[66,89])=false:=by rw[beq_eq_false_iff_ne];exact g36
  have g37:¬s=[83,85,77]:=λh=>hn (by subst h;decide)
  have e37:(s==[83,85,77])=false:=by rw[beq_eq_false_iff_ne];exact g37
  clear hn hr;go_in
  go_wp2;go_ret;exact⟨rfl,rfl⟩
 ·have hm:s∈Eg:=by unfold CZ at hr;exact List.contains_iff_mem.1 hr
  simp only[Eg,List.mem_cons,List.not_mem_nil,or_false]at hm;clear hr;rcases hm with rfl|rfl|rfl|rfl|rfl|rfl|rfl|rfl|rfl|rfl|rfl|rfl|rfl|rfl|rfl|rfl|rfl|rfl|rfl|rfl|rfl|rfl|rfl|rfl|rfl|rfl|rfl|rfl|rfl|rfl|rfl|rfl|rfl|rfl|rfl|rfl|rfl|rfl
  all_goals
   go_in
   go_wp2;go_ret;exact⟨rfl,rfl⟩
end Go.Proofs.YtchilcchogcibaaGreatDoor
