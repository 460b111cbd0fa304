/- Contracts of the library at this dump, as the kit's tool writes them in plain words (lay-plain); expr.text, expr.Text as plain functions; stmt.none, perhaps, written, where, check, empty as plain functions; A statement in a block of twenty-three cells; stmt.empty as a plain function. -/
import Derived.Test.YtchilcchogcibaaGreatDoorFStTok
set_option maxRecDepth 100000
set_option maxHeartbeats 8000000
namespace Go.Proofs
open Go.Shelf
def Tryz.lays158_ren:Go.Shelf.Ren:=⟨fun|158=>85|165=>143|166=>144|167=>145|169=>146|230=>147|203=>148|240=>194|241=>195|197=>196|118=>197|168=>198|270=>199|262=>200|276=>219|277=>220|260=>221|242=>222|313=>223|278=>233|274=>234|275=>235|n=>n,fun|9=>9|4=>4|3=>3|5=>5|72=>165|0=>0|76=>169|75=>168|107=>173|70=>162|20=>20|37=>163|127=>204|21=>21|105=>205|164=>219|162=>225|203=>223|119=>240|46=>241|139=>244|138=>243|51=>245|160=>246|208=>263|206=>261|80=>145|n=>n,fun|13=>2|3=>3|4=>4|n=>n⟩
theorem Tryz.lays158:Go.Proofs.Lays.n158 Tryz.prog Tryz.lays158_ren:={
 mixed:=by kernel_rfl
 f118:=Tryz.func197.trans (congrArg some (by kernel_rfl))
 f158:=Tryz.func85.trans (congrArg some (by kernel_rfl))
 f165:=Tryz.func143.trans (congrArg some (by kernel_rfl))
 f166:=Tryz.func144.trans (congrArg some (by kernel_rfl))
 f167:=Tryz.func145.trans (congrArg some (by kernel_rfl))
 f168:=Tryz.func198.trans (congrArg some (by kernel_rfl))
 f169:=Tryz.func146.trans (congrArg some (by kernel_rfl))
 f197:=Tryz.func196.trans (congrArg some (by kernel_rfl))
 f203:=Tryz.func148.trans (congrArg some (by kernel_rfl))
 f230:=Tryz.func147.trans (congrArg some (by kernel_rfl))
 f240:=Tryz.func194.trans (congrArg some (by kernel_rfl))
 f241:=Tryz.func195.trans (congrArg some (by kernel_rfl))
 f242:=Tryz.func222.trans (congrArg some (by kernel_rfl))
 f260:=Tryz.func221.trans (congrArg some (by kernel_rfl))
 f262:=Tryz.func200.trans (congrArg some (by kernel_rfl))
 f270:=Tryz.func199.trans (congrArg some (by kernel_rfl))
 f274:=Tryz.func234.trans (congrArg some (by kernel_rfl))
 f275:=Tryz.func235.trans (congrArg some (by kernel_rfl))
 f276:=Tryz.func219.trans (congrArg some (by kernel_rfl))
 f277:=Tryz.func220.trans (congrArg some (by kernel_rfl))
 f278:=Tryz.func233.trans (congrArg some (by kernel_rfl))
 f313:=Tryz.func223.trans (congrArg some (by kernel_rfl))
 t0:=Tryz.underlying0
 a0:=Tryz.isAgg0
 z0:=Tryz.sizeOf0
 v0:=Tryz.zeroValue0
 t3:=Tryz.underlying3
 a3:=Tryz.isAgg3
 z3:=Tryz.sizeOf3
 v3:=Tryz.zeroValue3
 t4:=Tryz.underlying4
 a4:=Tryz.isAgg4
 z4:=Tryz.sizeOf4
 v4:=Tryz.zeroValue4
 t5:=Tryz.underlying5
 a5:=Tryz.isAgg5
 z5:=Tryz.sizeOf5
 v5:=Tryz.zeroValue5
 t9:=Tryz.underlying9
 a9:=Tryz.isAgg9
 z9:=Tryz.sizeOf9
 v9:=Tryz.zeroValue9
 t20:=Tryz.underlying20
 a20:=Tryz.isAgg20
 z20:=Tryz.sizeOf20
 v20:=Tryz.zeroValue20
 t21:=Tryz.underlying21
 a21:=Tryz.isAgg21
 z21:=Tryz.sizeOf21
 v21:=Tryz.zeroValue21
 t37:=Tryz.underlying163
 a37:=Tryz.isAgg163
 z37:=Tryz.sizeOf163
 v37:=Tryz.zeroValue163
 t46:=Tryz.underlying241
 a46:=Tryz.isAgg241
 z46:=Tryz.sizeOf241
 v46:=Tryz.zeroValue241
 t51:=Tryz.underlying245
 a51:=Tryz.isAgg245
 z51:=Tryz.sizeOf245
 v51:=Tryz.zeroValue245
 t70:=Tryz.underlying162
 a70:=Tryz.isAgg162
 z70:=Tryz.sizeOf162
 v70:=Tryz.zeroValue162
 t72:=Tryz.underlying165
 a72:=Tryz.isAgg165
 z72:=Tryz.sizeOf165
 v72:=Tryz.zeroValue165
 t75:=Tryz.underlying168
 a75:=Tryz.isAgg168
 z75:=Tryz.sizeOf168
 v75:=Tryz.zeroValue168
 t76:=Tryz.underlying169
 a76:=Tryz.isAgg169
 z76:=Tryz.sizeOf169
 v76:=Tryz.zeroValue169
 t105:=Tryz.underlying205
 a105:=Tryz.isAgg205
 z105:=Tryz.sizeOf205
 v105:=Tryz.zeroValue205
 t107:=Tryz.underlying173
 a107:=Tryz.isAgg173
 z107:=Tryz.sizeOf173
 v107:=Tryz.zeroValue173
 t119:=Tryz.underlying240
 a119:=Tryz.isAgg240
 z119:=Tryz.sizeOf240
 t127:=Tryz.underlying204
 a127:=Tryz.isAgg204
 z127:=Tryz.sizeOf204
 v127:=Tryz.zeroValue204
 t138:=Tryz.underlying243
 a138:=Tryz.isAgg243
 z138:=Tryz.sizeOf243
 v138:=Tryz.zeroValue243
 t139:=Tryz.underlying244
 a139:=Tryz.isAgg244
 z139:=Tryz.sizeOf244
 v139:=Tryz.zeroValue244
 t160:=Tryz.underlying246
 a160:=Tryz.isAgg246
 z160:=Tryz.sizeOf246
 v160:=Tryz.zeroValue246
 t162:=Tryz.underlying225
 a162:=Tryz.isAgg225
 z162:=Tryz.sizeOf225
 v162:=Tryz.zeroValue225
 t164:=Tryz.underlying219
 a164:=Tryz.isAgg219
 z164:=Tryz.sizeOf219
 v164:=Tryz.zeroValue219
 t203:=Tryz.underlying223
 a203:=Tryz.isAgg223
 z203:=Tryz.sizeOf223
 v203:=Tryz.zeroValue223
 t206:=Tryz.underlying261
 a206:=Tryz.isAgg261
 z206:=Tryz.sizeOf261
 v206:=Tryz.zeroValue261
 t208:=Tryz.underlying263
 a208:=Tryz.isAgg263
 z208:=Tryz.sizeOf263
 v208:=Tryz.zeroValue263
 g3:=by kernel_rfl
 g4:=by kernel_rfl
 g13:=by kernel_rfl}
theorem Tryz.Builder_Extra_158:Builder.Extra Tryz.prog Tryz.lays158_ren:={
 sizeBuilder:=by kernel_rfl
 liesBuilder:=by kernel_rfl
 t5:=Tryz.underlying5
 a5:=Tryz.isAgg5
 z5:=Tryz.sizeOf5
 v5:=Tryz.zeroValue5
 infoByte:=by kernel_rfl
 cellsByte:=by kernel_rfl
 sizeByte:=by kernel_rfl
 neB5:=by decide}
open Go.RowKit in
theorem Tryz.strings_ToUpper_ascii(s:ByteArray)(w:World)(hs:s.size<=140737488355328)(hascii:∀(j:Nat) (b:UInt8),s.data.toList[j]? = some b->b.toNat<128):
  Calls Tryz.prog 85 #[.string s] w λe w'=>e=.returned (.string ⟨(Lib.toUpperA s.data.toList).toArray⟩)/\Below w.heap.size w w':=Any.strings_ToUpper_ascii Tryz.lays158 Tryz.Builder_Extra_158 s w hs hascii
end Go.Proofs
namespace Go.Proofs.YtchilcchogcibaaGreatDoor
open Go.RowKit
attribute [local go_sem] ByteArray.extract_mk Ak AY
attribute [local go_sem ↓] Go.wp_at_zero Go.wp_at_succ
theorem XA(l:List UInt8):Lib.toUpperA l=upperB l:=by
 unfold Lib.toUpperA upperB;apply List.map_congr_left;intro b _;unfold Lib.upperB Lib.isLowerB;have:(97<=b/\b<=122)↔(97<=b.toNat/\b.toNat<=122):=by rw[UInt8.le_iff_toNat_le,UInt8.le_iff_toNat_le];exact Iff.rfl
 by_cases h:97<=b.toNat/\b.toNat<=122
 ·simp[h,this]
 ·simp[h,this]
theorem Gu(s:List UInt8)(w:World)(hs:s.length<=1000000)(ha:∀b∈s,b.toNat<128):Calls Tryz.prog 85 #[.string ⟨s.toArray⟩] w (Ret (.string ⟨(upperB s).toArray⟩) w):=by
 have h:=Tryz.strings_ToUpper_ascii ⟨s.toArray⟩ w (by show s.length<=_;omega) (λj b hj=>ha b (List.mem_of_getElem? hj));rw[show Lib.toUpperA s.toArray.toList=upperB s from XA s]at h;exact h
theorem JS(k i:Int)(s:List UInt8)(h:Fq i):(DT k i s).length<=100:=by
 unfold Fq at h;unfold DT;cases hm:D5 k i s
 ·simp
 ·simp only[if_true];rcases Hy hm with⟨rfl,rfl,rfl⟩|⟨rfl,rfl⟩|⟨rfl,rfl,hs,_⟩|⟨rfl,hi,rfl⟩
  ·decide
  ·rw[if_pos rfl];unfold Lib.itoa;split
   ·rename_i hn
    have:=MR 18 i.natAbs (by omega);simp only[List.length_cons];omega
   ·have:=MR 18 i.toNat (by omega);omega
  ·have:=NQ s;simp;omega
  ·rcases hi with rfl|rfl<;>decide
theorem GX(s:List UInt8):(upperB s).length=s.length:=by simp[upperB]
theorem ND{op:List UInt8}(h:J5 op=true):op.length<=3/\∀b∈op,b.toNat<128:=by
 rw[Hq]at h;rcases h with rfl|rfl|rfl|rfl|rfl|rfl<;>decide
theorem VU:∀(n:Nat) (e:Ex),Cc n e=true->D8 n e->(BJ n e).length+20<=120 * 2 ^ n:=by
 intro n
 induction n with
 |zero=>intro e h;simp[Cc]at h
 |succ n ih=>
  intro e h hf;have h2:2 ^ (n+1)=2 * 2 ^ n:=by rw[Nat.pow_succ];omega
  have h1:1<=2 ^ n:=Nat.one_le_two_pow;rcases Ew h with⟨he,hm⟩|⟨he,hn,_⟩|⟨a,rfl,ha⟩|⟨a,rfl,ha⟩|⟨op,a,b,rfl,ho,ha,hb⟩
  ·have:=JS e.v.k e.v.i e.v.s (Nr hf);rw[show BJ (n+1) e=DT e.v.k e.v.i e.v.s by rw[he];rfl];omega
  ·rw[show BJ (n+1) e=e.s by rw[he];rfl];unfold D9 GM at hn;simp only[Bool.and_eq_true,decide_eq_true_eq]at hn;omega
  ·have:=ih a ha (hf.2 a (by simp[Ex.l]));show(([40,78,79,84,32]++BJ n a)++[41]).length+20<=_
   simp;omega
  ·have:=ih a ha (hf.2 a (by simp[Ex.l]));show(([40]++BJ n a)++[32,73,83,32,78,85,76,76,41]).length+20<=_
   simp;omega
  ·have k1:=ih a ha (hf.2 a (by simp[Ex.l]));have k2:=ih b hb (hf.2 b (by simp[Ex.l]));obtain⟨n1,n2,n3,n4⟩:=IP ho;have:=(ND ho).1;rw[Hr n1 n2 n3 n4];simp[GX];omega
theorem Iq{n:Nat}{e:Ex}(hn:n<=13)(h:Cc n e=true)(hf:D8 n e):(BJ n e).length<=1000000:=by
 have h1:=VU n e h hf;have h2:2 ^ n<=2 ^ 13:=Nat.pow_le_pow_right (by omega) hn;omega
theorem UR(B:Nat):∀(n:Nat) (e:Ex) (A:Option Addr) (c m:Nat) (w:World),n<=13->B<=w.heap.size->Cc n e=true->D8 n e->ExS 1000 m w w.heap.size A e.l->Kt B w->
  Calls Tryz.prog 203 #[.agg (e.cells A c).toArray] w (Ret (.string ⟨(BJ n e).toArray⟩) w):=by
 intro n
 induction n with
 |zero=>intro e A c m w _ _ h;simp[Cc]at h
 |succ n ih=>
  intro e A c m w hn hB h hf hE hV;obtain⟨w0,hw0⟩:∃w0,w.alloc (.cells (e.cells A c).toArray 30)=w0:=⟨_,rfl⟩;have kq0:Blk w0 w.heap.size 30 (e.cells A c).toArray:=by rw[<-hw0];exact Blk.new _ _ _
  have hb0:Below w.heap.size w w0:=by rw[<-hw0];exact bl
  have hz0:=hb0.size;have HSH:Hid (∀w':World,Below w0.heap.size w0 w'->(w'.cell? ⟨w.heap.size,0,none⟩=some (.string ⟨e.op.toArray⟩)/\w'.cell? ⟨w.heap.size,1,none⟩=some (.int .i64 e.v.k)/\w'.cell? ⟨w.heap.size,2,none⟩=some (.int .i64 e.v.i)/\w'.cell? ⟨w.heap.size,3,none⟩=some (.string ⟨e.v.s.toArray⟩)/\w'.cell? ⟨w.heap.size,4,none⟩=some (.string ⟨e.s.toArray⟩)/\w'.cell? ⟨w.heap.size,5,none⟩=some (.slice A e.l.length c))):=λw' h=>(kq0.below h kq0.lt).six
  have HE:Hid (∀Y:World,Below w0.heap.size w0 Y->ExS 1000 m Y Y.heap.size A e.l):=λY h=>((hE.below m (hb0.trans (h.mono hz0)))).more (Nat.le_trans hz0 h.size) m
  have HENV:Hid (∀Y:World,Below w0.heap.size w0 Y->Kt B Y):=λY h=>hV.below (hb0.trans (h.mono hz0)) hB
  have HW:=Lib.hid hw0;have HBW:Hid (∀Y:World,Below w0.heap.size w0 Y->Below w.heap.size w Y/\B<=Y.heap.size):=λY h=>⟨hb0.trans (h.mono hz0),Nat.le_trans hB (Nat.le_trans hz0 h.size)⟩
  have HIH:Hid (∀(x:Ex) (A':Option Addr) (c' m:Nat) (Y:World),B<=Y.heap.size->Cc n x=true->D8 n x->ExS 1000 m Y Y.heap.size A' x.l->Kt B Y->Calls Tryz.prog 203 #[.agg #[.string ⟨x.op.toArray⟩,.int .i64 x.v.k,.int .i64 x.v.i,.string ⟨x.v.s.toArray⟩,.string ⟨x.s.toArray⟩,.slice A' x.l.length c']] Y (Ret (.string ⟨(BJ n x).toArray⟩) Y)):=λx A' c' m Y h1 h2 h3 h4 h5=>ih x A' c' m Y (by omega) h1 h2 h3 h4 h5
  clear ih hw0 hE kq0 hb0 hV hz0;obtain⟨q0,q1,q2,q3,q4,q5⟩:=HSH.out w0 (Below.refl _ _);rcases Ew h with⟨he,hm⟩|⟨he,hnm,_⟩|⟨a,rfl,ha⟩|⟨a,rfl,ha⟩|⟨op,a,b,rfl,ho,ha,hb⟩
  ·have ho:e.op=CU:=by rw[he];rfl
   have ht:BJ (n+1) e=DT e.v.k e.v.i e.v.s:=by rw[he];rfl
   have hfv:=Nr hf;have hen:=(HENV.out w0 (Below.refl _ _)).out;have HT:=Lib.hid (QO e.v.k e.v.i e.v.s w0 hfv.1 hfv.2 hen.1 hen.2.1);rw[ht];have o1:(e.op==[108,105,116])=true:=by rw[ho];rfl
   obtain⟨T,hT⟩:∃T,DT e.v.k e.v.i e.v.s=T:=⟨_,rfl⟩;rw[hT]at HT ⊢;clear ht hT he hm hen h hf ho;go_in
   go_upto_region 1 with fail
   rw[show w.alloc _=w0 from HW.out];clear HW;go_wp2_with fail;refine HT.out.mono ?_;rintro en w1 ⟨rfl,hb1⟩;go_wp2_with fail;go_ret;exact⟨rfl,(HBW.out w1 hb1).1⟩
  ·have ho:e.op=DC:=by rw[he];rfl
   have ht:BJ (n+1) e=e.s:=by rw[he];rfl
   rw[ht];have o1:(e.op==[108,105,116])=false:=by rw[ho];rfl
   have o2:(e.op==[99,111,108])=true:=by rw[ho];rfl
   clear ht he hnm h hf ho;go_in
   go_upto_region 1 with fail
   rw[show w.alloc _=w0 from HW.out];clear HW;go_wp2_with fail;go_ret;exact⟨rfl,(HBW.out w0 (Below.refl _ _)).1⟩
  ·have hfa:=hf.2 a (by simp[Ex.l]);obtain⟨m1,b1,o1',x,A',c',rfl,rfl,hbB,_,hgd,hfx,hxc,hxm,⟨c0,c1,c2,c3,c4,c5⟩,hx⟩:=Vb (HE.out w0 (Below.refl _ _)) (j:=0) (by simp[Ex.l]);obtain rfl:a=x:=hgd;have hln:=Iq (by omega) ha hfa;have HC:=Lib.hid (HIH.out a A' c' m1 w0 (HBW.out w0 (Below.refl _ _)).2 ha hfa hx (HENV.out w0 (Below.refl _ _)));have ht:BJ (n+1) (.mk C9 V.zero [] [a])=([40,78,79,84,32]++BJ n a)++[41]:=rfl;rw[ht];obtain⟨T,hT⟩:∃T,BJ n a=T:=⟨_,rfl⟩;rw[hT]at HC hln ⊢;simp only[Nat.zero_mul,Nat.add_zero]at c0 c1 c2 c3 c4 c5;clear ht hT h hf ha hfa hfx hx;dsimp only[Ex.cells,Ex.op,Ex.v,Ex.s,Ex.l,V.zero,List.length_cons,List.length_nil]at q0 q1 q2 q3 q4 q5 HW ⊢;go_in
   go_upto_region 1 with fail
   rw[show w.alloc _=w0 from HW.out];clear HW;go_wp2_with fail;refine HC.out.mono ?_;rintro en w1 ⟨rfl,hb1⟩;go_wp2_with fail;go_ret;exact⟨by simp,(HBW.out w1 hb1).1⟩
  ·have hfa:=hf.2 a (by simp[Ex.l]);obtain⟨m1,b1,o1',x,A',c',rfl,rfl,hbB,_,hgd,hfx,hxc,hxm,⟨c0,c1,c2,c3,c4,c5⟩,hx⟩:=Vb (HE.out w0 (Below.refl _ _)) (j:=0) (by simp[Ex.l]);obtain rfl:a=x:=hgd;have hln:=Iq (by omega) ha hfa;have HC:=Lib.hid (HIH.out a A' c' m1 w0 (HBW.out w0 (Below.refl _ _)).2 ha hfa hx (HENV.out w0 (Below.refl _ _)));have ht:BJ (n+1) (.mk Be V.zero [] [a])=([40]++BJ n a)++[32,73,83,32,78,85,76,76,41]:=rfl;rw[ht];obtain⟨T,hT⟩:∃T,BJ n a=T:=⟨_,rfl⟩;rw[hT]at HC hln ⊢;simp only[Nat.zero_mul,Nat.add_zero]at c0 c1 c2 c3 c4 c5;clear ht hT h hf ha hfa hfx hx;dsimp only[Ex.cells,Ex.op,Ex.v,Ex.s,Ex.l,V.zero,List.length_cons,List.length_nil,Be]at q0 q1 q2 q3 q4 q5 HW ⊢;go_in
   go_upto_region 1 with fail
   rw[show w.alloc _=w0 from HW.out];clear HW;go_wp2_with fail;refine HC.out.mono ?_;rintro en w1 ⟨rfl,hb1⟩;go_wp2_with fail;go_ret;exact⟨by simp,(HBW.out w1 hb1).1⟩
  ·have hfa:=hf.2 a (by simp[Ex.l]);have hfb:=hf.2 b (by simp[Ex.l]);obtain⟨m1,b1,o1',x,A',c',rfl,rfl,hbB,_,hgd,hfx,hxc,hxm,⟨c0,c1,c2,c3,c4,c5⟩,hx⟩:=Vb (HE.out w0 (Below.refl _ _)) (j:=0) (by simp[Ex.l]);obtain rfl:a=x:=hgd;obtain⟨m2,b2,o2',y,A2,c2',e1,e2,hbB2,_,hgd2,hfy,hyc,hym,⟨d0,d1,d2,d3,d4,d5⟩,hy⟩:=Vb (HE.out w0 (Below.refl _ _)) (j:=1) (by simp[Ex.l]);obtain rfl:b=y:=hgd2;obtain rfl:m1=m2:=by omega
   obtain⟨rfl,rfl⟩:b1=b2/\o1'=o2':=by injection e2 with e;injection e with e1 e3;exact⟨e1,e3⟩
   have hln:=Iq (by omega) ha hfa;have hln2:=Iq (by omega) hb hfb;obtain⟨n1,n2,n3,n4⟩:=IP ho;obtain⟨u1,u2⟩:=ND ho;have HC:Hid (∀Y:World,Below w0.heap.size w0 Y->Calls Tryz.prog 203 #[.agg #[.string ⟨a.op.toArray⟩,.int .i64 a.v.k,.int .i64 a.v.i,.string ⟨a.v.s.toArray⟩,.string ⟨a.s.toArray⟩,.slice A' a.l.length c']] Y (Ret (.string ⟨(BJ n a).toArray⟩) Y)):=λY hY=>HIH.out a A' c' m1 Y (HBW.out Y hY).2 ha hfa ((hx.below m1 hY).more hY.size m1) (HENV.out Y hY)
   have HC2:Hid (∀Y:World,Below w0.heap.size w0 Y->Calls Tryz.prog 203 #[.agg #[.string ⟨b.op.toArray⟩,.int .i64 b.v.k,.int .i64 b.v.i,.string ⟨b.v.s.toArray⟩,.string ⟨b.s.toArray⟩,.slice A2 b.l.length c2']] Y (Ret (.string ⟨(BJ n b).toArray⟩) Y)):=λY hY=>HIH.out b A2 c2' m1 Y (HBW.out Y hY).2 hb hfb ((hy.below m1 hY).more hY.size m1) (HENV.out Y hY)
   have HU:Hid (∀Y:World,Calls Tryz.prog 85 #[.string ⟨op.toArray⟩] Y (Ret (.string ⟨(upperB op).toArray⟩) Y)):=λY=>Gu op Y (by omega) u2
   rw[Hr n1 n2 n3 n4];have hul:(upperB op).length<=3:=by rw[GX];exact u1
   obtain⟨T,hT⟩:∃T,BJ n a=T:=⟨_,rfl⟩;obtain⟨T2,hT2⟩:∃T,BJ n b=T:=⟨_,rfl⟩;obtain⟨U,hU⟩:∃U,upperB op=U:=⟨_,rfl⟩;rw[hT]at HC hln ⊢;rw[hT2]at HC2 hln2 ⊢;rw[hU]at HU hul ⊢;simp only[Nat.zero_mul,Nat.one_mul,Nat.add_zero]at c0 c1 c2 c3 c4 c5 d0 d1 d2 d3 d4 d5;have o1:(op==[108,105,116])=false:=by rw[beq_eq_false_iff_ne];exact n1
   have o2:(op==[99,111,108])=false:=by rw[beq_eq_false_iff_ne];exact n2
   have o3:(op==[110,111,116])=false:=by rw[beq_eq_false_iff_ne];exact n3
   have o4:(op==[110,117,108,108])=false:=by rw[beq_eq_false_iff_ne];exact n4
   have HSX:Hid (∀Y:World,Below w0.heap.size w0 Y->(Y.cell? ⟨w.heap.size,0,none⟩=some (.string ⟨op.toArray⟩)/\Y.cell? ⟨w.heap.size,5,none⟩=some (.slice (some ⟨b1,o1',none⟩) 2 c)) ∧
     (Y.cell? ⟨b1,o1',none⟩=some (.string ⟨a.op.toArray⟩)/\Y.cell? ⟨b1,o1'+1,none⟩=some (.int .i64 a.v.k)/\Y.cell? ⟨b1,o1'+2,none⟩=some (.int .i64 a.v.i)/\Y.cell? ⟨b1,o1'+3,none⟩=some (.string ⟨a.v.s.toArray⟩)/\Y.cell? ⟨b1,o1'+4,none⟩=some (.string ⟨a.s.toArray⟩)/\Y.cell? ⟨b1,o1'+5,none⟩=some (.slice A' a.l.length c')) ∧
     (Y.cell? ⟨b1,o1'+6,none⟩=some (.string ⟨b.op.toArray⟩)/\Y.cell? ⟨b1,o1'+6+1,none⟩=some (.int .i64 b.v.k)/\Y.cell? ⟨b1,o1'+6+2,none⟩=some (.int .i64 b.v.i)/\Y.cell? ⟨b1,o1'+6+3,none⟩=some (.string ⟨b.v.s.toArray⟩)/\Y.cell? ⟨b1,o1'+6+4,none⟩=some (.string ⟨b.s.toArray⟩)/\Y.cell? ⟨b1,o1'+6+5,none⟩=some (.slice A2 b.l.length c2'))):=λY hY=>by
    have hk:∀o,Y.cell? ⟨b1,o,none⟩=w0.cell? ⟨b1,o,none⟩:=λo=>hY.cell (p:=⟨b1,o,none⟩) hbB
    obtain⟨r0,_,_,_,_,r5⟩:=HSH.out Y hY;exact⟨⟨r0,r5⟩,⟨(hk _).trans c0,(hk _).trans c1,(hk _).trans c2,(hk _).trans c3,(hk _).trans c4,(hk _).trans c5⟩,(hk _).trans d0,(hk _).trans d1,(hk _).trans d2,(hk _).trans d3,(hk _).trans d4,(hk _).trans d5⟩
   clear hT hT2 hU h hf ha hfa hb hfb hfx hx hfy hy n1 n2 n3 n4 ho u1 u2 c0 c1 c2 c3 c4 c5 d0 d1 d2 d3 d4 d5;dsimp only[Ex.cells,Ex.op,Ex.v,Ex.s,Ex.l,V.zero,List.length_cons,List.length_nil]at q0 q1 q2 q3 q4 q5 HW ⊢;go_in
   go_upto_region 1 with fail
   rw[show w.alloc _=w0 from HW.out];clear HW;have z1:¬9223372036854775807<1+T.length:=by omega
   have z2:¬9223372036854775807<T.length+1+1:=by omega
   have z3:¬9223372036854775807<T.length+1+1+U.length:=by omega
   have z5:¬9223372036854775807<T.length+(U.length+1+1)+1+T2.length:=by omega
   have z6:¬9223372036854775807<T.length+(U.length+(T2.length+1)+1)+1+1:=by omega
   have z4:¬9223372036854775807<T.length+(U.length+1)+1+1:=by omega
   go_wp2_with fail;refine rgn HSX λhHeld=>?_
   refine tS [0,1,2,3,7,8,12,13,14,15] ?_;iterate 10(refine tC ?_;refine ap ?_)
   refine tN ?_;refine rdy 4 λK hK=>?_
   go_simp
   (refine(HC.out _ (by exact bl)).mono ?_)<;>rintro en w4 ⟨rfl,hb4⟩<;>have hz4:=hb4.size<;>(try simp at hz4)
   go_wp2_with fail;refine hK.out _ _ (HSX.out _ (by exact bl)) λhHeld=>?_
   clear hK K;refine ap ?_;refine tS [5,6] ?_;iterate 2(refine tC ?_;refine ap ?_)
   refine tN ?_;refine rdy 9 λK hK=>?_
   go_simp
   (refine(HU.out _).mono ?_)<;>rintro en w9 ⟨rfl,hb9⟩<;>have hz9:=hb9.size<;>(try simp at hz9)
   go_wp2_with fail;refine hK.out _ _ (HSX.out _ (by exact bl)) λhHeld=>?_
   clear hK K;refine ap ?_;refine tS [10,11] ?_;iterate 2(refine tC ?_;refine ap ?_)
   refine tN ?_;refine rdy 16 λK hK=>?_
   go_simp
   (refine(HC2.out _ (by exact bl)).mono ?_)<;>rintro en w16 ⟨rfl,hb16⟩<;>have hz16:=hb16.size<;>(try simp at hz16)
   go_wp2_with fail;refine hK.out _ _ (HSX.out _ (by exact bl)) λhHeld=>?_
   clear hK K;refine ap ?_;refine tS [17,18,19] ?_;iterate 3(refine tC ?_;refine ap ?_)
   refine tN ?_;refine wpAnyH_done (by kernel_rfl) ?_ _;have hb16':Below w0.heap.size w0 w16:=by exact bl
   go_wp2_with fail;go_ret;exact⟨by simp,(HBW.out w16 hb16').1⟩
theorem UT(e:Ex)(A:Option Addr)(c m:Nat)(w:World)(hf:e.fit 1000)(hfe:D8 13 e)(hE:ExS 1000 m w w.heap.size A e.l)(hV:FY w):
  Calls Tryz.prog 155 #[.agg (e.cells A c).toArray] w (Ret (.tuple #[.string ⟨(if E5 e then FB e else[]).toArray⟩,.int .i64 (if E5 e then 0 else 1)]) w):=by
 obtain⟨w0,hw0⟩:∃w0,w.alloc (.cells (e.cells A c).toArray 30)=w0:=⟨_,rfl⟩;have kq0:Blk w0 w.heap.size 30 (e.cells A c).toArray:=by rw[<-hw0];exact Blk.new _ _ _
 have hb0:Below w.heap.size w w0:=by rw[<-hw0];exact bl
 have hz0:=hb0.size;have HSH:Hid (∀w':World,Below w0.heap.size w0 w'->(w'.cell? ⟨w.heap.size,0,none⟩=some (.string ⟨e.op.toArray⟩)/\w'.cell? ⟨w.heap.size,1,none⟩=some (.int .i64 e.v.k)/\w'.cell? ⟨w.heap.size,2,none⟩=some (.int .i64 e.v.i)/\w'.cell? ⟨w.heap.size,3,none⟩=some (.string ⟨e.v.s.toArray⟩)/\w'.cell? ⟨w.heap.size,4,none⟩=some (.string ⟨e.s.toArray⟩)/\w'.cell? ⟨w.heap.size,5,none⟩=some (.slice A e.l.length c))):=λw' h=>(kq0.below h kq0.lt).six
 have HE:∀Y:World,Below w0.heap.size w0 Y->ExS 1000 m Y Y.heap.size A e.l:=λY h=>((hE.below m (hb0.trans (h.mono hz0)))).more (Nat.le_trans hz0 h.size) m
 have hbn:w.heap.size<w0.heap.size:=kq0.lt;have HMAY:Hid (Calls Tryz.prog 79 #[.agg (e.cells A c).toArray] w0 (Ret (.bool (E5 e)) w0)):=by
  have:=Nh m e A c w0 hf (HE w0 (Below.refl _ _));rw[Xl m e (ExS.hgt m hE)]at this;exact this
 have HTX:Hid (E5 e=true->∀Y:World,Below w0.heap.size w0 Y->Calls Tryz.prog 203 #[.agg (e.cells A c).toArray] Y (Ret (.string ⟨(FB e).toArray⟩) Y)):=λhm Y hY=>
  UR w.heap.size 13 e A c m Y (by omega) (Nat.le_trans hz0 hY.size) (MM 12 e (IC hm)) hfe (HE Y hY) ((Kt.of hV).below (hb0.trans (hY.mono hz0)) (Nat.le_refl _))
 have HW:=Lib.hid hw0;have HB:=Lib.hid hb0;obtain⟨M,hM⟩:∃M,E5 e=M:=⟨_,rfl⟩;rw[hM]at HMAY HTX ⊢;obtain⟨T,hT⟩:∃T,FB e=T:=⟨_,rfl⟩;rw[hT]at HTX ⊢;clear hw0 hE hf hV kq0 hb0 HE hM hT hfe;obtain⟨q0,q1,q2,q3,q4,q5⟩:=HSH.out w0 (Below.refl _ _);dsimp only[Ex.cells]at HW HMAY HTX ⊢;cases M with
 |false=>
  go_in
  go_upto_region 1 with fail
  rw[show w.alloc _=w0 from HW.out];clear HW;go_wp2_with fail;refine HMAY.out.mono ?_;rintro en w1 ⟨rfl,hb1⟩;go_wp2_with fail;refine bodyPost_ret (v:=.tuple #[.string ⟨#[]⟩,.int .i64 1]) (by simp[results,Tryz.results155,go_sem, *]) rfl ?_;exact⟨rfl,HB.out.trans (hb1.mono hz0)⟩
 |true=>
  go_in
  go_upto_region 1 with fail
  rw[show w.alloc _=w0 from HW.out];clear HW;go_wp2_with fail;refine HMAY.out.mono ?_;rintro en w1 ⟨rfl,hb1⟩;clear q0 q1 q2 q3 q4 q5;obtain⟨q0,q1,q2,q3,q4,q5⟩:=HSH.out w1 hb1;have HC:=Lib.hid (HTX.out trivial w1 hb1);have hz1:=hb1.size;go_wp2_with fail;refine HC.out.mono ?_;rintro en w2 ⟨rfl,hb2⟩;go_wp2_with fail;refine bodyPost_ret (v:=.tuple #[.string ⟨T.toArray⟩,.int .i64 0]) (by simp[results,Tryz.results155,go_sem, *]) rfl ?_;exact⟨rfl,HB.out.trans ((hb1.trans (hb2.mono hz1)).mono hz0)⟩
end Go.Proofs.YtchilcchogcibaaGreatDoor
namespace Go.Proofs.YtchilcchogcibaaGreatDoor
open Go.RowKit
attribute [local go_sem] ByteArray.extract_mk Ak AY
attribute [local go_sem ↓] Go.wp_at_zero Go.wp_at_succ CY CE
theorem Xj(e:Ex)(A:Option Addr)(c:Nat)(w:World):Calls Tryz.prog 141 #[.agg (e.cells A c).toArray] w (Ret (.bool (DU e)) w):=by
 refine JI e A c w λw0 hw0 kq0 hb0 hz0 HSH HW HB=>?_
 obtain⟨q0,q1,q2,q3,q4,q5⟩:=HSH.out w0 (Below.refl _ _);obtain⟨R,hR⟩:∃R,DU e=R:=⟨_,rfl⟩;have hR2:(e.op.isEmpty&&(veq e.v V.zero&&(e.s.isEmpty&&e.l.isEmpty)))=R:=by rw[<-hR];unfold DU;simp only[Bool.and_assoc]
 rw[hR];obtain⟨Z,hZ⟩:∃Z,veq e.v V.zero=Z:=⟨_,rfl⟩;have hzv:veq ⟨e.v.k,e.v.i,e.v.s⟩ ⟨0,0,[]⟩=Z:=hZ;obtain⟨L,hL⟩:∃L,e.l.isEmpty=L:=⟨_,rfl⟩;have hL2:((e.l.length:Int)==0)=L:=by rw[<-hL,Bool.eq_iff_iff];simp
 obtain⟨S,hS⟩:∃S,e.s.isEmpty=S:=⟨_,rfl⟩;have hS2:(e.s==[])=S:=by rw[<-hS];cases e.s<;>rfl
 obtain⟨O,hO⟩:∃O,e.op.isEmpty=O:=⟨_,rfl⟩;have hO2:(e.op==[])=O:=by rw[<-hO];cases e.op<;>rfl
 rw[hZ,hL,hS,hO]at hR2;have HR:=Lib.hid hR2;clear hw0 kq0 hb0 hR hR2 hZ hL;dsimp only[Ex.cells]at HW ⊢;cases O with
 |false=>
  go_in
  go_upto_region 1 with fail
  rw[show w.alloc _=w0 from HW.out];clear HW;go_wp2_with fail;go_ret;exact⟨by rw[<-HR.out];rfl,HB.out⟩
 |true=>
  cases Z with
  |false=>
   go_in
   go_upto_region 1 with fail
   rw[show w.alloc _=w0 from HW.out];clear HW;go_wp2_with fail;go_ret;exact⟨by rw[<-HR.out];rfl,HB.out⟩
  |true=>
   cases S with
   |false=>
    go_in
    go_upto_region 1 with fail
    rw[show w.alloc _=w0 from HW.out];clear HW;go_wp2_with fail;go_ret;exact⟨by rw[<-HR.out];rfl,HB.out⟩
   |true=>
    go_in
    go_upto_region 1 with fail
    rw[show w.alloc _=w0 from HW.out];clear HW;go_wp2_with fail;go_ret;exact⟨by rw[<-HR.out];rfl,HB.out⟩
theorem KH{e:Ex}{A:Option Addr}{c:Nat}{N:Bool}(h:DU e=N)(Y:World):Calls Tryz.prog 141 #[.agg #[.string ⟨e.op.toArray⟩,.int .i64 e.v.k,.int .i64 e.v.i,.string ⟨e.v.s.toArray⟩,.string ⟨e.s.toArray⟩,.slice A e.l.length c]] Y (Ret (.bool N) Y):=by
 have:=Xj e A c Y;rw[h]at this;exact this
theorem PY(e:Ex)(A:Option Addr)(c m:Nat)(w:World)(hf:e.fit 1000)(hE:ExS 1000 m w w.heap.size A e.l):Calls Tryz.prog 79 #[.agg (e.cells A c).toArray] w (Ret (.bool (E5 e)) w):=by
 have:=Nh m e A c w hf hE;rw[Xl m e (ExS.hgt m hE)]at this;exact this
theorem ES(e:Ex)(A:Option Addr)(c m:Nat)(w:World)(hf:e.fit 1000)(hE:ExS 1000 m w w.heap.size A e.l):Calls Tryz.prog 81 #[.agg (e.cells A c).toArray] w (Ret (.bool (Aq e)) w):=by
 refine JI e A c w λw0 hw0 kq0 hb0 hz0 HSH HW HB=>?_
 obtain⟨q0,q1,q2,q3,q4,q5⟩:=HSH.out w0 (Below.refl _ _);have HMAY:Hid (∀Y:World,Below w0.heap.size w0 Y->Calls Tryz.prog 79 #[.agg (e.cells A c).toArray] Y (Ret (.bool (E5 e)) Y)):=λY hY=>PY e A c m Y hf ((hE.below m (hb0.trans (hY.mono hz0))).more (Nat.le_trans hz0 hY.size) m)
 obtain⟨R,hR⟩:∃R,Aq e=R:=⟨_,rfl⟩;have hR2:(DU e||E5 e)=R:=hR;rw[hR];obtain⟨M,hM⟩:∃M,E5 e=M:=⟨_,rfl⟩;obtain⟨N,hN⟩:∃N,DU e=N:=⟨_,rfl⟩;have HN:Hid (∀Y:World,Calls Tryz.prog 141 #[.agg #[.string ⟨e.op.toArray⟩,.int .i64 e.v.k,.int .i64 e.v.i,.string ⟨e.v.s.toArray⟩,.string ⟨e.s.toArray⟩,.slice A e.l.length c]] Y (Ret (.bool N) Y)):=KH hN;rw[hM]at HMAY hR2;rw[hN]at hR2;have HR:=Lib.hid hR2;clear hw0 kq0 hb0 hR hR2 hM hN hE hf;dsimp only[Ex.cells]at HW HMAY ⊢;cases N with
 |true=>
  go_in
  go_upto_region 1 with fail
  rw[show w.alloc _=w0 from HW.out];clear HW;go_wp2_with fail;refine(HN.out _).mono ?_;rintro en w1 ⟨rfl,hb1⟩;go_wp2_with fail;go_ret;exact⟨by rw[<-HR.out];rfl,HB.out.trans (hb1.mono hz0)⟩
 |false=>
  go_in
  go_upto_region 1 with fail
  rw[show w.alloc _=w0 from HW.out];clear HW;go_wp2_with fail;refine(HN.out _).mono ?_;rintro en w1 ⟨rfl,hb1⟩;clear q0 q1 q2 q3 q4 q5;obtain⟨q0,q1,q2,q3,q4,q5⟩:=HSH.out w1 hb1;have HC:=Lib.hid (HMAY.out w1 hb1);have hz1:=hb1.size;go_wp2_with fail;refine HC.out.mono ?_;rintro en w2 ⟨rfl,hb2⟩;go_wp2_with fail;go_ret;exact⟨by rw[<-HR.out];rfl,HB.out.trans ((hb1.trans (hb2.mono hz1)).mono hz0)⟩
def Du(e:Ex):List UInt8:=if E5 e then FB e else[]
theorem Il(e:Ex)(A:Option Addr)(c m:Nat)(w:World)(hf:e.fit 1000)(hfe:D8 13 e)(hE:ExS 1000 m w w.heap.size A e.l)(hV:FY w):
  Calls Tryz.prog 90 #[.agg (e.cells A c).toArray] w (Ret (.string ⟨(Du e).toArray⟩) w):=by
 refine JI e A c w λw0 hw0 kq0 hb0 hz0 HSH HW HB=>?_
 obtain⟨q0,q1,q2,q3,q4,q5⟩:=HSH.out w0 (Below.refl _ _);have HC:=Lib.hid (UT e A c m w0 hf hfe ((hE.below m hb0).more hz0 m) (hV.below hb0));obtain⟨T,hT⟩:∃T,Du e=T:=⟨_,rfl⟩;have hT2:(if E5 e then FB e else[])=T:=hT;obtain⟨q,hq⟩:∃q:Int,(if E5 e then 0 else 1)=q:=⟨_,rfl⟩;rw[hT2,hq]at HC;rw[hT];clear hw0 kq0 hb0 hT hT2 hE hf hfe hV hq;dsimp only[Ex.cells]at HW HC ⊢;go_in
 go_upto_region 1 with fail
 rw[show w.alloc _=w0 from HW.out];clear HW;go_wp2_with fail;refine HC.out.mono ?_;rintro en w1 ⟨rfl,hb1⟩;go_wp2_with fail;go_ret;exact⟨rfl,HB.out.trans (hb1.mono hz0)⟩
theorem Lh(e:Ex)(hf:D8 13 e):(Du e).length<=1000000:=by
 unfold Du;cases h:E5 e
 ·simp
 ·exact Iq (by omega) (MM 12 e (IC h)) hf
def Md(e:Ex):List UInt8:=if DU e then[]else[32,87,72,69,82,69,32]++Du e
def OJ(a:List UInt8)(e:Ex):List UInt8:=if DU e then[]else a++[67,72,69,67,75,32,40,32]++Du e++[32,41]
theorem IL(e:Ex)(A:Option Addr)(c m:Nat)(w:World)(hf:e.fit 1000)(hfe:D8 13 e)(hE:ExS 1000 m w w.heap.size A e.l)(hV:FY w):
  Calls Tryz.prog 92 #[.agg (e.cells A c).toArray] w (Ret (.string ⟨(Md e).toArray⟩) w):=by
 refine JI e A c w λw0 hw0 kq0 hb0 hz0 HSH HW HB=>?_
 obtain⟨q0,q1,q2,q3,q4,q5⟩:=HSH.out w0 (Below.refl _ _);have HC:Hid (∀Y:World,Below w0.heap.size w0 Y->Calls Tryz.prog 90 #[.agg (e.cells A c).toArray] Y (Ret (.string ⟨(Du e).toArray⟩) Y)):=λY hY=>Il e A c m Y hf hfe ((hE.below m (hb0.trans (hY.mono hz0))).more (Nat.le_trans hz0 hY.size) m) (hV.below (hb0.trans (hY.mono hz0)))
 obtain⟨R,hR⟩:∃R,Md e=R:=⟨_,rfl⟩;rw[hR];have hln:=Lh e hfe;obtain⟨N,hN⟩:∃N,DU e=N:=⟨_,rfl⟩;have HN:Hid (∀Y:World,Calls Tryz.prog 141 #[.agg #[.string ⟨e.op.toArray⟩,.int .i64 e.v.k,.int .i64 e.v.i,.string ⟨e.v.s.toArray⟩,.string ⟨e.s.toArray⟩,.slice A e.l.length c]] Y (Ret (.bool N) Y)):=KH hN;obtain⟨T,hT⟩:∃T,Du e=T:=⟨_,rfl⟩;unfold Md at hR;rw[hT]at HC hR hln;rw[hN]at hR;have HR:=Lib.hid hR;clear hw0 kq0 hb0 hR hN hT hE hf hfe hV;dsimp only[Ex.cells]at HW HC ⊢;cases N with
 |true=>
  go_in
  go_upto_region 1 with fail
  rw[show w.alloc _=w0 from HW.out];clear HW;go_wp2_with fail;refine(HN.out _).mono ?_;rintro en w1 ⟨rfl,hb1⟩;go_wp2_with fail;go_ret;exact⟨by rw[<-HR.out];rfl,HB.out.trans (hb1.mono hz0)⟩
 |false=>
  go_in
  go_upto_region 1 with fail
  rw[show w.alloc _=w0 from HW.out];clear HW;go_wp2_with fail;refine(HN.out _).mono ?_;rintro en w1 ⟨rfl,hb1⟩;clear q0 q1 q2 q3 q4 q5;obtain⟨q0,q1,q2,q3,q4,q5⟩:=HSH.out w1 hb1;have HX:=Lib.hid (HC.out w1 hb1);have hz1:=hb1.size;go_wp2_with fail;refine HX.out.mono ?_;rintro en w2 ⟨rfl,hb2⟩;go_wp2_with fail;go_ret;exact⟨by rw[<-HR.out];simp,HB.out.trans ((hb1.trans (hb2.mono hz1)).mono hz0)⟩
theorem GV(a:List UInt8)(e:Ex)(A:Option Addr)(c m:Nat)(w:World)(ha:a.length<=1000)(hf:e.fit 1000)(hfe:D8 13 e)(hE:ExS 1000 m w w.heap.size A e.l)(hV:FY w):
  Calls Tryz.prog 94 #[.string ⟨a.toArray⟩,.agg (e.cells A c).toArray] w (Ret (.string ⟨(OJ a e).toArray⟩) w):=by
 refine JI e A c w λw0 hw0 kq0 hb0 hz0 HSH HW HB=>?_
 obtain⟨q0,q1,q2,q3,q4,q5⟩:=HSH.out w0 (Below.refl _ _);have HC:Hid (∀Y:World,Below w0.heap.size w0 Y->Calls Tryz.prog 90 #[.agg (e.cells A c).toArray] Y (Ret (.string ⟨(Du e).toArray⟩) Y)):=λY hY=>Il e A c m Y hf hfe ((hE.below m (hb0.trans (hY.mono hz0))).more (Nat.le_trans hz0 hY.size) m) (hV.below (hb0.trans (hY.mono hz0)))
 obtain⟨R,hR⟩:∃R,OJ a e=R:=⟨_,rfl⟩;rw[hR];have hln:=Lh e hfe;obtain⟨N,hN⟩:∃N,DU e=N:=⟨_,rfl⟩;have HN:Hid (∀Y:World,Calls Tryz.prog 141 #[.agg #[.string ⟨e.op.toArray⟩,.int .i64 e.v.k,.int .i64 e.v.i,.string ⟨e.v.s.toArray⟩,.string ⟨e.s.toArray⟩,.slice A e.l.length c]] Y (Ret (.bool N) Y)):=KH hN;obtain⟨T,hT⟩:∃T,Du e=T:=⟨_,rfl⟩;unfold OJ at hR;rw[hT]at HC hR hln;rw[hN]at hR;have HR:=Lib.hid hR;clear hw0 kq0 hb0 hR hN hT hE hf hfe hV;dsimp only[Ex.cells]at HW HC ⊢;cases N with
 |true=>
  go_in
  go_upto_region 1 with fail
  rw[show w.alloc _=w0 from HW.out];clear HW;go_wp2_with fail;refine(HN.out _).mono ?_;rintro en w1 ⟨rfl,hb1⟩;go_wp2_with fail;go_ret;exact⟨by rw[<-HR.out];rfl,HB.out.trans (hb1.mono hz0)⟩
 |false=>
  go_in
  go_upto_region 1 with fail
  rw[show w.alloc _=w0 from HW.out];clear HW;go_wp2_with fail;refine(HN.out _).mono ?_;rintro en w1 ⟨rfl,hb1⟩;clear q0 q1 q2 q3 q4 q5;obtain⟨q0,q1,q2,q3,q4,q5⟩:=HSH.out w1 hb1;have HX:=Lib.hid (HC.out w1 hb1);have hz1:=hb1.size;go_wp2_with fail;refine HX.out.mono ?_;rintro en w2 ⟨rfl,hb2⟩;go_wp2_with fail;go_ret;exact⟨by rw[<-HR.out];simp,HB.out.trans ((hb1.trans (hb2.mono hz1)).mono hz0)⟩
end Go.Proofs.YtchilcchogcibaaGreatDoor
namespace Go.Proofs.YtchilcchogcibaaGreatDoor
open Go.RowKit
attribute [local go_sem] ByteArray.extract_mk Ak AY
attribute [local go_sem ↓] Go.wp_at_zero Go.wp_at_succ
def StC(s:St)(p:StP)(g:Nat)(w:World):Prop:=w.cell? ⟨g,0,none⟩=some (.string ⟨s.op.toArray⟩)/\w.cell? ⟨g,1,none⟩=some (.string ⟨s.tb.toArray⟩)/\w.cell? ⟨g,2,none⟩=some (.string ⟨s.ot.toArray⟩)/\w.cell? ⟨g,3,none⟩=some (.slice p.names.a s.names.length p.names.c)/\w.cell? ⟨g,4,none⟩=some (.slice p.cols.a s.cols.length p.cols.c)/\w.cell? ⟨g,5,none⟩=some (.string ⟨s.key.toArray⟩)/\w.cell? ⟨g,6,none⟩=some (.slice p.uniq.a s.uniq.length p.uniq.c)/\w.cell? ⟨g,7,none⟩=some (.slice p.refs.a s.refs.length p.refs.c)/\w.cell? ⟨g,8,none⟩=some (.string ⟨s.chk.op.toArray⟩)/\w.cell? ⟨g,9,none⟩=some (.int .i64 s.chk.v.k)/\w.cell? ⟨g,10,none⟩=some (.int .i64 s.chk.v.i)/\w.cell? ⟨g,11,none⟩=some (.string ⟨s.chk.v.s.toArray⟩)/\w.cell? ⟨g,12,none⟩=some (.string ⟨s.chk.s.toArray⟩)/\w.cell? ⟨g,13,none⟩=some (.slice p.chk.a s.chk.l.length p.chk.c)/\w.cell? ⟨g,14,none⟩=some (.slice p.row.a s.row.length p.row.c)/\w.cell? ⟨g,15,none⟩=some (.slice p.sets.a s.sets.length p.sets.c)/\w.cell? ⟨g,16,none⟩=some (.string ⟨s.whr.op.toArray⟩)/\w.cell? ⟨g,17,none⟩=some (.int .i64 s.whr.v.k)/\w.cell? ⟨g,18,none⟩=some (.int .i64 s.whr.v.i)/\w.cell? ⟨g,19,none⟩=some (.string ⟨s.whr.v.s.toArray⟩)/\w.cell? ⟨g,20,none⟩=some (.string ⟨s.whr.s.toArray⟩)/\w.cell? ⟨g,21,none⟩=some (.slice p.whr.a s.whr.l.length p.whr.c)/\w.cell? ⟨g,22,none⟩=some (.string ⟨s.role.toArray⟩)
theorem Blk.st{w:World}{g:Nat}{t:TypeId}{s:St}{p:StP}(h:Blk w g t (s.cells p).toArray):StC s p g w:=
 ⟨h.cell 0,h.cell 1,h.cell 2,h.cell 3,h.cell 4,h.cell 5,h.cell 6,h.cell 7,h.cell 8,h.cell 9,h.cell 10,h.cell 11,h.cell 12,h.cell 13,h.cell 14,h.cell 15,h.cell 16,h.cell 17,h.cell 18,h.cell 19,h.cell 20,h.cell 21,h.cell 22⟩
theorem Gl(s:St)(p:StP)(w:World){G:Prop}(k:∀w0:World,Hid (w.alloc (.cells (s.cells p).toArray 34)=w0)->Blk w0 w.heap.size 34 (s.cells p).toArray->Below w.heap.size w w0->w.heap.size<=w0.heap.size->
  Hid (∀Z:World,Below w0.heap.size w0 Z->StC s p w.heap.size Z)->Hid (Below w.heap.size w w0)->G):G:=by
 have ks0:Blk (w.alloc (.cells (s.cells p).toArray 34)) w.heap.size 34 (s.cells p).toArray:=Blk.new _ _ _;have hb0:Below w.heap.size w (w.alloc (.cells (s.cells p).toArray 34)):=by exact bl
 exact k _ rfl ks0 hb0 hb0.size (λZ hz=>(ks0.below hz ks0.lt).st) hb0
theorem Blk.stF{w:World}{g:Nat}{t:TypeId}{s:St}{p:StP}(h:Blk w g t (s.cells p).toArray):w.frozen? ⟨g,0,none⟩=false/\w.frozen? ⟨g,1,none⟩=false/\w.frozen? ⟨g,2,none⟩=false/\w.frozen? ⟨g,3,none⟩=false/\w.frozen? ⟨g,4,none⟩=false/\w.frozen? ⟨g,5,none⟩=false/\w.frozen? ⟨g,6,none⟩=false/\w.frozen? ⟨g,7,none⟩=false/\w.frozen? ⟨g,8,none⟩=false/\w.frozen? ⟨g,9,none⟩=false/\w.frozen? ⟨g,10,none⟩=false/\w.frozen? ⟨g,11,none⟩=false/\w.frozen? ⟨g,12,none⟩=false/\w.frozen? ⟨g,13,none⟩=false/\w.frozen? ⟨g,14,none⟩=false/\w.frozen? ⟨g,15,none⟩=false/\w.frozen? ⟨g,16,none⟩=false/\w.frozen? ⟨g,17,none⟩=false/\w.frozen? ⟨g,18,none⟩=false/\w.frozen? ⟨g,19,none⟩=false/\w.frozen? ⟨g,20,none⟩=false/\w.frozen? ⟨g,21,none⟩=false/\w.frozen? ⟨g,22,none⟩=false:=
 ⟨h.frozen 0,h.frozen 1,h.frozen 2,h.frozen 3,h.frozen 4,h.frozen 5,h.frozen 6,h.frozen 7,h.frozen 8,h.frozen 9,h.frozen 10,h.frozen 11,h.frozen 12,h.frozen 13,h.frozen 14,h.frozen 15,h.frozen 16,h.frozen 17,h.frozen 18,h.frozen 19,h.frozen 20,h.frozen 21,h.frozen 22⟩
theorem WY(s:St)(p:StP)(w:World)(h1:s.tb.length<=1000000)(h2:s.ot.length<=1000000)(h3:s.key.length<=1000000)(h4:s.role.length<=1000000)
 (h5:s.names.length<=1000000)(h6:s.cols.length<=1000000)(h7:s.uniq.length<=1000000)(h8:s.refs.length<=1000000)(h9:s.row.length<=1000000)(h10:s.sets.length<=1000000):
  Calls Tryz.prog 83 #[.agg (s.cells p).toArray] w (Ret (.bool (Cf s)) w):=by
 refine Gl s p w λw0 HW ks0 hb0 hz0 HST HB=>?_
 dsimp only[St.cells]at HW;obtain⟨R,hR⟩:∃R,Cf s=R:=⟨_,rfl⟩;rw[hR];unfold Cf at hR;obtain⟨N1,hN1⟩:∃N,DU s.chk=N:=⟨_,rfl⟩;obtain⟨N2,hN2⟩:∃N,DU s.whr=N:=⟨_,rfl⟩;have HN1:Hid (∀Y:World,Calls Tryz.prog 141 #[.agg #[.string ⟨s.chk.op.toArray⟩,.int .i64 s.chk.v.k,.int .i64 s.chk.v.i,.string ⟨s.chk.v.s.toArray⟩,.string ⟨s.chk.s.toArray⟩,.slice p.chk.a s.chk.l.length p.chk.c]] Y (Ret (.bool N1) Y)):=KH hN1;have HN2:Hid (∀Y:World,Calls Tryz.prog 141 #[.agg #[.string ⟨s.whr.op.toArray⟩,.int .i64 s.whr.v.k,.int .i64 s.whr.v.i,.string ⟨s.whr.v.s.toArray⟩,.string ⟨s.whr.s.toArray⟩,.slice p.whr.a s.whr.l.length p.whr.c]] Y (Ret (.bool N2) Y)):=KH hN2;rw[hN1,hN2]at hR;obtain⟨T,hT⟩:∃T,(s.tb++s.ot++s.key++s.role).isEmpty=T:=⟨_,rfl⟩;have hT2:(s.tb++(s.ot++(s.key++s.role))).isEmpty=T:=by rw[<-hT];simp only[List.append_assoc]
 rw[hT]at hR;obtain⟨L,hL⟩:∃L,s.names.length+s.cols.length+s.uniq.length+s.refs.length+s.row.length+s.sets.length=L:=⟨_,rfl⟩;rw[hL]at hR;have i1:IntKind.i64.wrap ((s.names.length:Int)+(s.cols.length:Int))=(s.names.length:Int)+(s.cols.length:Int):=IntWalk.i64_in _ (by omega);have i2:IntKind.i64.wrap ((s.names.length:Int)+(s.cols.length:Int)+(s.uniq.length:Int))=(s.names.length:Int)+(s.cols.length:Int)+(s.uniq.length:Int):=IntWalk.i64_in _ (by omega);have i3:IntKind.i64.wrap ((s.names.length:Int)+(s.cols.length:Int)+(s.uniq.length:Int)+(s.refs.length:Int))=(s.names.length:Int)+(s.cols.length:Int)+(s.uniq.length:Int)+(s.refs.length:Int):=IntWalk.i64_in _ (by omega);have i4:IntKind.i64.wrap ((s.names.length:Int)+(s.cols.length:Int)+(s.uniq.length:Int)+(s.refs.length:Int)+(s.row.length:Int))=(s.names.length:Int)+(s.cols.length:Int)+(s.uniq.length:Int)+(s.refs.length:Int)+(s.row.length:Int):=IntWalk.i64_in _ (by omega);have i5:IntKind.i64.wrap ((s.names.length:Int)+(s.cols.length:Int)+(s.uniq.length:Int)+(s.refs.length:Int)+(s.row.length:Int)+(s.sets.length:Int))=(L:Int):=by rw[IntWalk.i64_in _ (by omega)];omega
 have hL2:((L:Int)==0)=decide (L=0):=by rw[Bool.eq_iff_iff];simp
 obtain⟨D,hD⟩:∃D,decide (L=0)=D:=⟨_,rfl⟩;rw[hD]at hR hL2;have HR:=Lib.hid hR;clear hR hN1 hN2 hT hL ks0 hD;obtain⟨s0,s1,s2,s3,s4,s5,s6,s7,s8,s9,s10,s11,s12,s13,s14,s15,s16,s17,s18,s19,s20,s21,s22⟩:=HST.out w0 (Below.refl _ _);dsimp only[St.cells];go_in
 go_upto_region 1 with fail
 rw[show w.alloc _=w0 from HW.out];clear HW;go_upto_region 3 with fail
 cases T with
 |false=>
  go_wp2_with fail;go_ret;exact⟨by rw[<-HR.out];rfl,HB.out⟩
 |true=>
  cases D with
  |false=>
   go_wp2_with fail;go_ret;exact⟨by rw[<-HR.out];rfl,HB.out⟩
  |true=>
   go_wp2_with fail;refine(HN1.out _).mono ?_;rintro en w1 ⟨rfl,hb1⟩;clear s0 s1 s2 s3 s4 s5 s6 s7 s8 s9 s10 s11 s12 s13 s14 s15 s16 s17 s18 s19 s20 s21 s22;cases N1 with
   |false=>
    go_wp2_with fail;go_ret;exact⟨by rw[<-HR.out];rfl,HB.out.trans (hb1.mono hz0)⟩
   |true=>
    obtain⟨s0,s1,s2,s3,s4,s5,s6,s7,s8,s9,s10,s11,s12,s13,s14,s15,s16,s17,s18,s19,s20,s21,s22⟩:=HST.out w1 hb1;have hz1:=hb1.size;go_wp2_with fail;refine(HN2.out _).mono ?_;rintro en w2 ⟨rfl,hb2⟩;go_wp2_with fail;go_ret;exact⟨by rw[<-HR.out];rfl,HB.out.trans ((hb1.trans (hb2.mono hz1)).mono hz0)⟩
end Go.Proofs.YtchilcchogcibaaGreatDoor
