/- Plain laws on expressions; Contracts of the library at this dump, as the kit's tool writes them in plain words (lay-plain); value.Text as a plain function; Plain laws on expressions; Plain. -/
import Derived.Shelf.LaysM
import Derived.Shelf.Strconv.Itoa4
import Derived.Shelf.LaysC
import Derived.Shelf.Strings.Replace
import Derived.Test.YtchilcchogcibaaGreatDoorProg
import Derived.Test.YtchilcchogcibaaGreatDoorFExLaw
set_option maxHeartbeats 1000000
namespace Go.Proofs.YtchilcchogcibaaGreatDoor
open Go.RowKit
def Fq(i:Int):Prop:=-9223372036854775808<=i/\i<=9223372036854775807
theorem Uc:Fq V.zero.i:=by simp[V.zero,Fq]
end Go.Proofs.YtchilcchogcibaaGreatDoor
namespace Go.Proofs
open Go.Shelf
def Tryz.laysM173_ren:Go.Shelf.Ren:=⟨fun|173=>152|246=>201|283=>224|284=>225|285=>226|286=>227|129=>237|317=>236|318=>238|319=>239|320=>240|337=>251|338=>252|n=>n,fun|2=>2|3=>3|9=>9|4=>4|171=>227|0=>0|53=>228|37=>163|5=>5|173=>231|212=>251|51=>245|20=>20|213=>252|46=>241|232=>268|233=>269|n=>n,fun|17=>5|18=>6|19=>7|n=>n⟩
theorem Tryz.laysM173:Go.Proofs.LaysM.n173 Tryz.prog Tryz.laysM173_ren:={
 mixed:=by kernel_rfl
 f129:=Tryz.func237.trans (congrArg some (by kernel_rfl))
 f173:=Tryz.func152.trans (congrArg some (by kernel_rfl))
 f246:=Tryz.func201.trans (congrArg some (by kernel_rfl))
 f283:=Tryz.func224.trans (congrArg some (by kernel_rfl))
 f284:=Tryz.func225.trans (congrArg some (by kernel_rfl))
 f285:=Tryz.func226.trans (congrArg some (by kernel_rfl))
 f286:=Tryz.func227.trans (congrArg some (by kernel_rfl))
 f317:=Tryz.func236.trans (congrArg some (by kernel_rfl))
 f318:=Tryz.func238.trans (congrArg some (by kernel_rfl))
 f319:=Tryz.func239.trans (congrArg some (by kernel_rfl))
 f320:=Tryz.func240.trans (congrArg some (by kernel_rfl))
 f337:=Tryz.func251.trans (congrArg some (by kernel_rfl))
 f338:=Tryz.func252.trans (congrArg some (by kernel_rfl))
 t0:=Tryz.underlying0
 a0:=Tryz.isAgg0
 z0:=Tryz.sizeOf0
 v0:=Tryz.zeroValue0
 t2:=Tryz.underlying2
 a2:=Tryz.isAgg2
 z2:=Tryz.sizeOf2
 v2:=Tryz.zeroValue2
 t3:=Tryz.underlying3
 a3:=Tryz.isAgg3
 z3:=Tryz.sizeOf3
 v3:=Tryz.zeroValue3
 t4:=Tryz.underlying4
 a4:=Tryz.isAgg4
 z4:=Tryz.sizeOf4
 v4:=Tryz.zeroValue4
 t5:=Tryz.underlying5
 a5:=Tryz.isAgg5
 z5:=Tryz.sizeOf5
 v5:=Tryz.zeroValue5
 t9:=Tryz.underlying9
 a9:=Tryz.isAgg9
 z9:=Tryz.sizeOf9
 v9:=Tryz.zeroValue9
 t20:=Tryz.underlying20
 a20:=Tryz.isAgg20
 z20:=Tryz.sizeOf20
 v20:=Tryz.zeroValue20
 t37:=Tryz.underlying163
 a37:=Tryz.isAgg163
 z37:=Tryz.sizeOf163
 v37:=Tryz.zeroValue163
 t46:=Tryz.underlying241
 a46:=Tryz.isAgg241
 z46:=Tryz.sizeOf241
 v46:=Tryz.zeroValue241
 t51:=Tryz.underlying245
 a51:=Tryz.isAgg245
 z51:=Tryz.sizeOf245
 v51:=Tryz.zeroValue245
 t53:=Tryz.underlying228
 a53:=Tryz.isAgg228
 z53:=Tryz.sizeOf228
 v53:=Tryz.zeroValue228
 t171:=Tryz.underlying227
 a171:=Tryz.isAgg227
 z171:=Tryz.sizeOf227
 v171:=Tryz.zeroValue227
 t173:=Tryz.underlying231
 a173:=Tryz.isAgg231
 z173:=Tryz.sizeOf231
 v173:=Tryz.zeroValue231
 t212:=Tryz.underlying251
 a212:=Tryz.isAgg251
 z212:=Tryz.sizeOf251
 v212:=Tryz.zeroValue251
 t213:=Tryz.underlying252
 a213:=Tryz.isAgg252
 z213:=Tryz.sizeOf252
 t232:=Tryz.underlying268
 a232:=Tryz.isAgg268
 z232:=Tryz.sizeOf268
 v232:=Tryz.zeroValue268
 t233:=Tryz.underlying269
 a233:=Tryz.isAgg269
 z233:=Tryz.sizeOf269
 v233:=Tryz.zeroValue269
 g17:=by kernel_rfl
 g18:=by kernel_rfl
 g19:=by kernel_rfl
 i0:=by kernel_rfl
 i2:=by kernel_rfl
 i3:=by kernel_rfl
 i4:=by kernel_rfl
 i5:=by kernel_rfl
 i9:=by kernel_rfl
 i20:=by kernel_rfl
 i37:=by kernel_rfl
 i46:=by kernel_rfl
 i51:=by kernel_rfl
 i53:=by kernel_rfl
 i171:=by kernel_rfl
 i173:=by kernel_rfl
 i212:=by kernel_rfl
 i232:=by kernel_rfl
 i233:=by kernel_rfl
 m17:=by kernel_rfl
 m18:=by kernel_rfl
 m19:=by kernel_rfl}
open Go.RowKit Go.Sort Go.Lib in
theorem Tryz.strconv_FormatInt_10 (n : Int) (h0 : -9223372036854775808 ≤ n) (h1 : n ≤ 9223372036854775807) (w : World) (htab : Lib.TabIs Tryz.prog w "internal/strconv.uint64pow10" .u64 Lib.pow10Tab) :
  Calls Tryz.prog 152 #[.int .i64 n,.int .i64 10] w λe w'=>e=.returned (.string ⟨(Lib.itoa n).toArray⟩)/\∃k os,w'=grow (w.drewN k) os:=Any.strconv_FormatInt_10 Tryz.laysM173 n h0 h1 w htab
def Tryz.lays155_ren:Go.Shelf.Ren:=⟨fun|155=>153|154=>202|138=>228|165=>143|143=>207|166=>144|197=>196|169=>146|195=>241|218=>242|240=>194|241=>195|219=>229|260=>221|276=>219|277=>220|217=>243|225=>244|224=>245|267=>246|266=>253|314=>254|n=>n,fun|9=>9|3=>3|4=>4|72=>165|0=>0|76=>169|105=>205|21=>21|5=>5|70=>162|20=>20|37=>163|75=>168|127=>204|164=>219|46=>241|119=>240|139=>244|138=>243|146=>265|51=>245|80=>145|n=>n,fun|1=>1|3=>3|4=>4|n=>n⟩
theorem Tryz.lays155:Go.Proofs.Lays.n155 Tryz.prog Tryz.lays155_ren:={
 mixed:=by kernel_rfl
 f138:=Tryz.func228.trans (congrArg some (by kernel_rfl))
 f143:=Tryz.func207.trans (congrArg some (by kernel_rfl))
 f154:=Tryz.func202.trans (congrArg some (by kernel_rfl))
 f155:=Tryz.func153.trans (congrArg some (by kernel_rfl))
 f165:=Tryz.func143.trans (congrArg some (by kernel_rfl))
 f166:=Tryz.func144.trans (congrArg some (by kernel_rfl))
 f169:=Tryz.func146.trans (congrArg some (by kernel_rfl))
 f195:=Tryz.func241.trans (congrArg some (by kernel_rfl))
 f197:=Tryz.func196.trans (congrArg some (by kernel_rfl))
 f217:=Tryz.func243.trans (congrArg some (by kernel_rfl))
 f218:=Tryz.func242.trans (congrArg some (by kernel_rfl))
 f219:=Tryz.func229.trans (congrArg some (by kernel_rfl))
 f224:=Tryz.func245.trans (congrArg some (by kernel_rfl))
 f225:=Tryz.func244.trans (congrArg some (by kernel_rfl))
 f240:=Tryz.func194.trans (congrArg some (by kernel_rfl))
 f241:=Tryz.func195.trans (congrArg some (by kernel_rfl))
 f260:=Tryz.func221.trans (congrArg some (by kernel_rfl))
 f266:=Tryz.func253.trans (congrArg some (by kernel_rfl))
 f267:=Tryz.func246.trans (congrArg some (by kernel_rfl))
 f276:=Tryz.func219.trans (congrArg some (by kernel_rfl))
 f277:=Tryz.func220.trans (congrArg some (by kernel_rfl))
 f314:=Tryz.func254.trans (congrArg some (by kernel_rfl))
 t0:=Tryz.underlying0
 a0:=Tryz.isAgg0
 z0:=Tryz.sizeOf0
 v0:=Tryz.zeroValue0
 t3:=Tryz.underlying3
 a3:=Tryz.isAgg3
 z3:=Tryz.sizeOf3
 v3:=Tryz.zeroValue3
 t4:=Tryz.underlying4
 a4:=Tryz.isAgg4
 z4:=Tryz.sizeOf4
 v4:=Tryz.zeroValue4
 t5:=Tryz.underlying5
 a5:=Tryz.isAgg5
 z5:=Tryz.sizeOf5
 v5:=Tryz.zeroValue5
 t9:=Tryz.underlying9
 a9:=Tryz.isAgg9
 z9:=Tryz.sizeOf9
 v9:=Tryz.zeroValue9
 t20:=Tryz.underlying20
 a20:=Tryz.isAgg20
 z20:=Tryz.sizeOf20
 v20:=Tryz.zeroValue20
 t21:=Tryz.underlying21
 a21:=Tryz.isAgg21
 z21:=Tryz.sizeOf21
 v21:=Tryz.zeroValue21
 t37:=Tryz.underlying163
 a37:=Tryz.isAgg163
 z37:=Tryz.sizeOf163
 v37:=Tryz.zeroValue163
 t46:=Tryz.underlying241
 a46:=Tryz.isAgg241
 z46:=Tryz.sizeOf241
 v46:=Tryz.zeroValue241
 t51:=Tryz.underlying245
 a51:=Tryz.isAgg245
 z51:=Tryz.sizeOf245
 v51:=Tryz.zeroValue245
 t70:=Tryz.underlying162
 a70:=Tryz.isAgg162
 z70:=Tryz.sizeOf162
 v70:=Tryz.zeroValue162
 t72:=Tryz.underlying165
 a72:=Tryz.isAgg165
 z72:=Tryz.sizeOf165
 v72:=Tryz.zeroValue165
 t75:=Tryz.underlying168
 a75:=Tryz.isAgg168
 z75:=Tryz.sizeOf168
 v75:=Tryz.zeroValue168
 t76:=Tryz.underlying169
 a76:=Tryz.isAgg169
 z76:=Tryz.sizeOf169
 v76:=Tryz.zeroValue169
 t105:=Tryz.underlying205
 a105:=Tryz.isAgg205
 z105:=Tryz.sizeOf205
 v105:=Tryz.zeroValue205
 t119:=Tryz.underlying240
 a119:=Tryz.isAgg240
 z119:=Tryz.sizeOf240
 t127:=Tryz.underlying204
 a127:=Tryz.isAgg204
 z127:=Tryz.sizeOf204
 v127:=Tryz.zeroValue204
 t138:=Tryz.underlying243
 a138:=Tryz.isAgg243
 z138:=Tryz.sizeOf243
 v138:=Tryz.zeroValue243
 t139:=Tryz.underlying244
 a139:=Tryz.isAgg244
 z139:=Tryz.sizeOf244
 v139:=Tryz.zeroValue244
 t146:=Tryz.underlying265
 a146:=Tryz.isAgg265
 z146:=Tryz.sizeOf265
 v146:=Tryz.zeroValue265
 t164:=Tryz.underlying219
 a164:=Tryz.isAgg219
 z164:=Tryz.sizeOf219
 v164:=Tryz.zeroValue219
 g1:=by kernel_rfl
 g3:=by kernel_rfl
 g4:=by kernel_rfl}
theorem Tryz.Builder_Extra_155:Builder.Extra Tryz.prog Tryz.lays155_ren:={
 sizeBuilder:=by kernel_rfl
 liesBuilder:=by kernel_rfl
 t5:=Tryz.underlying5
 a5:=Tryz.isAgg5
 z5:=Tryz.sizeOf5
 v5:=Tryz.zeroValue5
 infoByte:=by kernel_rfl
 cellsByte:=by kernel_rfl
 sizeByte:=by kernel_rfl
 neB5:=by decide}
open Go.RowKit Go.Lib in
theorem Tryz.strings_ReplaceAll(s old new:ByteArray)(m:Int)(w:World)(hs:s.size<4294967281)(hm:w.cell? ⟨1,0,none⟩=some (.int .i64 m))(h1:1<=old.size)(hlen:s.size+Lib.countB s old * new.size<=140737488355328):
  Calls Tryz.prog 153 #[.string s,.string old,.string new] w λe w'=>
   e=.returned (.string ⟨(Lib.replaceAll s.data.toList old.data.toList new.data.toList).toArray⟩)/\Below w.heap.size w w':=Any.strings_ReplaceAll Tryz.lays155 Tryz.Builder_Extra_155 s old new m w hs hm h1 hlen
end Go.Proofs
namespace Go.Proofs.YtchilcchogcibaaGreatDoor
open Go.RowKit
attribute [local go_sem] ByteArray.extract_mk Ak AY
attribute [local go_sem ↓] Go.wp_at_zero Go.wp_at_succ
def Kq(w:World):Prop:=∃m:Int,w.cell? ⟨1,0,none⟩=some (.int .i64 m)
theorem Kq.below{B:Nat}{w w':World}(h:Kq w)(hb:Below B w w')(hB:B=w.heap.size):Kq w':=by
 obtain⟨m,hm⟩:=h;exact⟨m,(hb.cell (by rw[hB];exact Ag hm)).trans hm⟩
def L9(w : World): Prop := Lib.TabIs Tryz.prog w "internal/strconv.uint64pow10" .u64 Lib.pow10Tab
theorem Kw{P:Program}{B:Nat}{w w':World}{n:String}{cs:Array Value}(h:w.var? P n=some cs)(hb:Below B w w')(hB:B=w.heap.size):w'.var? P n=some cs:=by
 unfold World.var? at h ⊢;cases hg:P.globalNamed n with
 |none=>rw[hg]at h;cases h
 |some g=>
  rw[hg]at h;simp only[Option.bind_some]at h ⊢;have hlt:g<w.heap.size:=by
   rcases Nat.lt_or_ge g w.heap.size with hlt|hge
   ·exact hlt
   ·rw[Array.getElem?_eq_none hge]at h;cases h
  rw[hb.block g (by rw[hB];exact hlt)];exact h
theorem L9.below{B:Nat}{w w':World}(h:L9 w)(hb:Below B w w')(hB:B=w.heap.size):L9 w':=Kw h hb hB
theorem OT(w:World)(k:Nat)(os:Array Obj):Below w.heap.size w (Sort.grow (w.drewN k) os):=by
 refine⟨rfl,rfl,rfl, ?_,λb hb=>?_⟩
 ·show w.heap.size<=(w.heap++os).size
  rw[Array.size_append];omega
 ·show(w.heap++os)[b]? = w.heap[b]?
  rw[Array.getElem?_append_left hb]
def DT(k i:Int)(s:List UInt8):List UInt8:=
 if D5 k i s then
  (if k=1 then Lib.itoa i else if k=2 then[39]++Bi s++[39]else if k=3 then(if i=1 then[84,82,85,69]else[70,65,76,83,69])else[78,85,76,76])
 else[]
theorem may2{i:Int}{s:List UInt8}(h:D5 2 i s=true):i=0/\s.length<=40/\s.any En=false:=by
 simp[D5]at h;refine⟨h.1.1,h.1.2, ?_⟩;simpa using h.2
theorem VV(i:Int)(s:List UInt8)(w:World)(hM:Kq w):
  Calls Tryz.prog 88 #[.agg #[.int .i64 2,.int .i64 i,.string ⟨s.toArray⟩]] w (Ret (.string ⟨(DT 2 i s).toArray⟩) w):=by
 cases hm:D5 2 i s
 ·have e:DT 2 i s=[]:=by unfold DT;rw[hm];rfl
  rw[e];have HM:=Lib.hid hm;clear hm e;go_in
  go_wp2_with fail;refine(Ep _ _ _ _).mono ?_;rintro e w0 ⟨rfl,hb0⟩;rw[HM.out];go_wp2;go_ret;exact⟨rfl,by exact bl⟩
 ·have e:DT 2 i s=[39]++Lib.replaceAll s [39] [39,39]++[39]:=by unfold DT;rw[hm,Jj];rfl
  have HS:Hid (s.length<=40):=(may2 hm).2.1;have HQ:=Lib.hid (NQ s);have HR:=Lib.hid (Jj s);rw[e];have HM:=Lib.hid hm;clear hm e;have M1:Kq (w.alloc (.cells #[.int .i64 2,.int .i64 i,.string ⟨s.toArray⟩] 27)):=hM.below ((Below.refl _ _).alloc (Nat.le_refl _) _) rfl;go_in
  go_wp2_with fail;refine(Ep _ _ _ _).mono ?_;rintro e w0 ⟨rfl,hb0⟩;rw[HM.out];have M2:=M1.below hb0 rfl;have hz0:=hb0.size;obtain⟨hc0,hf0⟩:=EJ hb0;simp at hz0 hc0 hf0;obtain⟨m,hm⟩:=M2;have Hm:=Lib.hid hm;clear hm M1;go_wp2_with fail;refine(Tryz.strings_ReplaceAll ⟨s.toArray⟩ ⟨#[39]⟩ ⟨#[39,39]⟩ m _ (by show s.length<_;have:=HS.out;omega) Hm.out (by decide) ?_).mono ?_
  ·have h1:=Lib.countB_le ⟨#[39]⟩ (by decide) s.length ⟨s.toArray⟩ (Nat.le_refl _);have h2:(⟨s.toArray⟩:ByteArray).size=s.length:=rfl;have h3:(⟨#[39,39]⟩:ByteArray).size=2:=rfl;have:=HS.out;rw[h2]at h1 ⊢;rw[h3];omega
  rintro e w1 ⟨rfl,hb1⟩;simp only;obtain⟨R,hR⟩:∃R,Lib.replaceAll s [39] [39,39]=R:=⟨_,rfl⟩;have hRl:R.length<=80:=by rw[<-hR,HR.out];have:=HQ.out;have:=HS.out;omega
  rw[hR];have HRR:=Lib.hid hR;clear hR;go_wp2;go_ret;exact⟨by rw[HRR.out];rfl,by exact bl⟩
theorem XL(k i:Int)(s:List UInt8)(w:World)(hm:D5 k i s=false):
  Calls Tryz.prog 88 #[.agg #[.int .i64 k,.int .i64 i,.string ⟨s.toArray⟩]] w (Ret (.string ⟨#[]⟩) w):=by
 have HM:=Lib.hid hm;clear hm;go_in
 go_wp2_with fail;refine(Ep _ _ _ _).mono ?_;rintro e w0 ⟨rfl,hb0⟩;rw[HM.out];go_wp2;go_ret;exact⟨rfl,by exact bl⟩
theorem Oy(w:World):
  Calls Tryz.prog 88 #[.agg #[.int .i64 0,.int .i64 0,.string ⟨#[]⟩]] w (Ret (.string ⟨#[78,85,76,76]⟩) w):=by
 have HM:Hid (D5 0 0 []=true):=by show _=_;rfl
 go_in
 go_wp2_with fail;refine(Ep 0 0 [] _).mono ?_;rintro e w0 ⟨rfl,hb0⟩;rw[HM.out];have hz0:=hb0.size;obtain⟨hc0,hf0⟩:=EJ hb0;simp at hz0 hc0 hf0;go_wp2;go_ret;exact⟨rfl,by exact bl⟩
theorem VW(i:Int)(w:World)(h1:-9223372036854775808<=i)(h2:i<=9223372036854775807)(hT:L9 w):
  Calls Tryz.prog 88 #[.agg #[.int .i64 1,.int .i64 i,.string ⟨#[]⟩]] w (Ret (.string ⟨(Lib.itoa i).toArray⟩) w):=by
 have HM:Hid (D5 1 i []=true):=by show _=_;simp[D5]
 have T1:L9 (w.alloc (.cells #[.int .i64 1,.int .i64 i,.string ⟨#[]⟩] 27)):=hT.below ((Below.refl _ _).alloc (Nat.le_refl _) _) rfl;go_in
 go_wp2_with fail;refine(Ep 1 i [] _).mono ?_;rintro e w0 ⟨rfl,hb0⟩;rw[HM.out];have T2:=T1.below hb0 rfl;have hz0:=hb0.size;obtain⟨hc0,hf0⟩:=EJ hb0;simp at hz0 hc0 hf0;clear T1 hT;go_wp2_with fail;refine(Tryz.strconv_FormatInt_10 i h1 h2 _ T2).mono ?_;rintro e w1 ⟨rfl,kk,os,rfl⟩;have hb1:=OT w0 kk os
 generalize Sort.grow (w0.drewN kk) os=w1 at *
 go_wp2;go_ret;exact⟨rfl,by exact bl⟩
theorem JU(b:Bool)(w:World):
  Calls Tryz.prog 88 #[.agg #[.int .i64 3,.int .i64 (if b then 1 else 0),.string ⟨#[]⟩]] w (Ret (.string ⟨(if b then[84,82,85,69]else[70,65,76,83,69]:List UInt8).toArray⟩) w):=by
 cases b
 ·have HM:Hid (D5 3 0 []=true):=by show _=_;rfl
  have HN:Hid (Gv 3 0 []=1):=by show _=_;rfl
  go_in
  go_wp2_with fail;refine(Ep 3 0 [] _).mono ?_;rintro e w0 ⟨rfl,hb0⟩;rw[HM.out];have hz0:=hb0.size;obtain⟨hc0,hf0⟩:=EJ hb0;simp at hz0 hc0 hf0;go_wp2_with fail;refine(Qa 3 0 [] _).mono ?_;rintro e w1 ⟨rfl,hb1⟩;rw[HN.out];go_wp2;go_ret;exact⟨rfl,by exact bl⟩
 ·have HM:Hid (D5 3 1 []=true):=by show _=_;rfl
  have HN:Hid (Gv 3 1 []=2):=by show _=_;rfl
  go_in
  go_wp2_with fail;refine(Ep 3 1 [] _).mono ?_;rintro e w0 ⟨rfl,hb0⟩;rw[HM.out];have hz0:=hb0.size;obtain⟨hc0,hf0⟩:=EJ hb0;simp at hz0 hc0 hf0;go_wp2_with fail;refine(Qa 3 1 [] _).mono ?_;rintro e w1 ⟨rfl,hb1⟩;rw[HN.out];go_wp2;go_ret;exact⟨rfl,by exact bl⟩
theorem Hy{k i:Int}{s:List UInt8}(h:D5 k i s=true):(k=0/\i=0/\s=[])\/(k=1/\s=[])\/(k=2/\i=0/\s.length<=40/\s.any En=false)\/(k=3/\(i=0\/i=1)/\s=[]):=by
 unfold D5 at h;split at h
 ·simp at h;exact .inl ⟨‹_›,h.1,h.2⟩
 ·split at h
  ·simp at h;exact .inr (.inl ⟨‹_›,h⟩)
  ·split at h
   ·subst k;exact .inr (.inr (.inl ⟨rfl,by simp at h;exact h.1.1,by simp at h;exact h.1.2,by simp at h;simpa using h.2⟩))
   ·split at h
    ·simp at h;exact .inr (.inr (.inr ⟨‹_›,h⟩))
    ·cases h
theorem QO(k i:Int)(s:List UInt8)(w:World)(h1:-9223372036854775808<=i)(h2:i<=9223372036854775807)(hM:Kq w)(hT:L9 w):
  Calls Tryz.prog 88 #[.agg #[.int .i64 k,.int .i64 i,.string ⟨s.toArray⟩]] w (Ret (.string ⟨(DT k i s).toArray⟩) w):=by
 cases hm:D5 k i s
 ·have e:DT k i s=[]:=by unfold DT;rw[hm];rfl
  rw[e];exact XL k i s w hm
 ·rcases Hy hm with⟨rfl,rfl,rfl⟩|⟨rfl,rfl⟩|⟨rfl,_⟩|⟨rfl,hi,rfl⟩
  ·exact Oy w
  ·have e:DT 1 i []=Lib.itoa i:=by unfold DT;rw[hm];rfl
   rw[e];exact VW i w h1 h2 hT
  ·exact VV i s w hM
  ·rcases hi with rfl|rfl
   ·exact JU false w
   ·exact JU true w
end Go.Proofs.YtchilcchogcibaaGreatDoor
namespace Go.Proofs.YtchilcchogcibaaGreatDoor
open Go.RowKit
theorem He{f g:Nat->Ex->Bool×Nat}:∀(l:List Ex) (c:Nat),(∀x∈l,∀c,f c x=g c x)->EP f c l=EP g c l
 |[],_,_=>rfl
 |x::r,c,h=>by
  unfold EP;rw[h x (by simp) c,He r _ (λy hy=>h y (by simp[hy]))]
theorem V5:∀(n m d c:Nat) (e:Ex),13<=n+d->13<=m+d->D7 n d c e=D7 m d c e:=by
 intro n
 induction n with
 |zero=>
  intro m d c e h1 h2;unfold D7;simp[show 12<d by omega]
 |succ n ih=>
  intro m d c e h1 h2;by_cases hd:12<d
  ·unfold D7;simp[hd]
  ·cases m with
   |zero=>omega
   |succ m=>
    unfold D7;simp only[He e.l (c+1) (λx _ c'=>ih m (d+1) c' x (by omega) (by omega))]
theorem Yv:∀(n d c:Nat) (e:Ex),Hgt n e.l->D7 (n+1) d c e=D7 n d c e:=by
 intro n
 induction n with
 |zero=>
  intro d c e h;have hl:e.l=[]:=h;unfold D7;rw[hl];rfl
 |succ n ih=>
  intro d c e h;unfold D7;simp only[He e.l (c+1) (λx hx c'=>ih (d+1) c' x (h x hx))]
theorem Hgt.upTo{n:Nat}{l:List Ex}(h:Hgt n l):∀m,n<=m->Hgt m l
 |0,hm=>by
  have:n=0:=by omega
  subst this;exact h
 |m+1,hm=>by
  by_cases he:n=m+1
  ·subst he;exact h
  ·exact(h.upTo m (by omega)).up m
theorem RN(d c:Nat)(e:Ex)(n:Nat)(h:Hgt n e.l):∀m,n<=m->D7 m d c e=D7 n d c e
 |0,hm=>by
  have:n=0:=by omega
  subst this;rfl
 |m+1,hm=>by
  by_cases he:n=m+1
  ·subst he;rfl
  ·rw[Yv m d c e (h.upTo m (by omega)),RN d c e n h m (by omega)]
def E5(e:Ex):Bool:=may 12 e
theorem Xl(n:Nat)(e:Ex)(h:Hgt n e.l):may n e=E5 e:=by
 unfold may E5 may;rw[<-RN 1 0 e n h (max n 12) (Nat.le_max_left _ _),V5 (max n 12) 12 1 0 e (by omega) (by omega)]
structure ExC where
 e:Ex
 A:Option Addr
 c:Nat
def ExC.cells(r:ExC):List Value:=r.e.cells r.A r.c
theorem ExC.cells_length(r:ExC):r.cells.length=6:=rfl
def ExC.good(K n:Nat)(w:World)(r:ExC):Prop:=r.e.fit K/\r.e.l.length<=r.c/\r.c<=maxLen/\ExS K n w w.heap.size r.A r.e.l
theorem ExC.good.below{K n:Nat}{w w':World}{r:ExC}(h:r.good K n w)(hb:Below w.heap.size w w'):r.good K n w':=⟨h.1,h.2.1,h.2.2.1,(h.2.2.2.below n hb).more hb.size n⟩
theorem X8:∀(l:List ExC) (i j:Nat) (v:ExC),l[i]? = some v->j<6->(l.flatMap ExC.cells)[i * 6+j]? = v.cells[j]? :=by
 intro l
 induction l with
 |nil=>intro i j v h;simp at h
 |cons x r ih=>
  intro i j v h hj;cases i with
  |zero=>
   simp at h;subst h;rw[List.flatMap_cons,List.getElem?_append_left (by rw[ExC.cells_length];omega)];simp
  |succ i=>
   rw[List.flatMap_cons,List.getElem?_append_right (by rw[ExC.cells_length];omega),ExC.cells_length];have e:(i+1) * 6+j - 6=i * 6+j:=by omega
   rw[e];exact ih i j v (by simpa using h) hj
theorem VB(l:List ExC):(l.flatMap ExC.cells).length=l.length * 6:=by
 induction l with
 |nil=>rfl
 |cons x r ih=>rw[List.flatMap_cons,List.length_append,ih,ExC.cells_length,List.length_cons];omega
theorem ZH(l:List ExC):∀u∈l.flatMap ExC.cells,u.oneCell'=true:=by
 intro u hu;rw[List.mem_flatMap]at hu;obtain⟨v,_,hv⟩:=hu;simp only[ExC.cells,Ex.cells,List.mem_cons,List.not_mem_nil,or_false]at hv;rcases hv with rfl|rfl|rfl|rfl|rfl|rfl<;>rfl
theorem ExS.own{K m:Nat}{w:World}{base:Nat}{e:TypeId}{sv:Value}{n:Nat}{l:List ExC}(h:w.ownsRow base e 6 sv n (l.flatMap ExC.cells))(hg:∀r∈l,r.good K m w):
  ∃A c,sv=.slice A (l.map ExC.e).length c/\(l.map ExC.e).length<=c/\c<=maxLen/\ExS K (m+1) w w.heap.size A (l.map ExC.e):=by
 have hn:l.length=n:=by have:=h.1;rw[VB]at this;omega
 rw[List.length_map];rcases h.2 with⟨rfl,h0⟩|⟨g,cap,cur,rfl,hb,hgg,hnc,hcm,hcs,htk⟩
 ·have hl:l=[]:=List.eq_nil_of_length_eq_zero (by omega);subst hl;exact⟨none,0,rfl,Nat.le_refl _,Nat.zero_le _,ExS.nil _⟩
 ·refine⟨some ⟨g,0,none⟩,cap,by rw[hn],by omega,hcm,λ_=>⟨g,0,rfl,(Array.getElem?_eq_some_iff.1 hgg).1, ?_⟩⟩;intro i x hx;rw[List.getElem?_map,Option.map_eq_some_iff]at hx;obtain⟨r,hr,rfl⟩:=hx;obtain⟨h1,h2,h3,h4⟩:=hg r (List.mem_of_getElem? hr);have hc:=h.cells (g:=g) rfl;have key:∀j u,j<6->r.cells[j]? = some u->w.cell? ⟨g,0+i * 6+j,none⟩=some u:=by
   intro j u hj hu;have:=hc (i * 6+j) u (by rw[X8 l i j r hr hj];exact hu);rw[add_mid]at this;rw[Nat.add_assoc];exact this
  exact⟨r.A,r.c,h1,h2,h3,⟨key 0 _ (by omega) rfl,key 1 _ (by omega) rfl,key 2 _ (by omega) rfl,key 3 _ (by omega) rfl,key 4 _ (by omega) rfl,key 5 _ (by omega) rfl⟩,h4⟩
def X4(v:V):V:=⟨v.k,v.i,v.s.take 45⟩
def DF(f:Int->Ex->Ex×Int):List Ex->Int->List Ex×Int
 |[],left=>([],left)
 |x::r,left=>if 0<left then((f left x).1::(DF f r (f left x).2).1,(DF f r (f left x).2).2)else([],left)
def Gt:Nat->Int->Ex->Ex×Int
 |d,left,e=>match d with
  |0=>(.mk (e.op.take 8) (X4 e.v) (e.s.take 20) [],left - 1)
  |d+1=>(.mk (e.op.take 8) (X4 e.v) (e.s.take 20) (DF (Gt d) (e.l.take 3) (left - 1)).1,(DF (Gt d) (e.l.take 3) (left - 1)).2)
def UQ(e:Ex):Ex:=(Gt 14 80 e).1
theorem Ry(f:Int->Ex->Ex×Int):∀(l:List Ex) (left:Int),(DF f l left).1.length<=l.length
 |[],_=>Nat.le_refl _
 |x::r,left=>by
  unfold DF;split
  ·have:=Ry f r (f left x).2;simp only[List.length_cons];omega
  ·simp
theorem WV(d:Nat):∀(left:Int) (e:Ex),(Gt d left e).2<=left - 1:=by
 induction d with
 |zero=>intro left e;exact Int.le_refl _
 |succ d ih=>
  intro left e;have hf:∀(l:List Ex) (k:Int),(DF (Gt d) l k).2<=k:=by
   intro l
   induction l with
   |nil=>intro k;exact Int.le_refl _
   |cons x r ihl=>
    intro k;unfold DF;split
    ·have h1:=ihl (Gt d k x).2;have h2:=ih k x;omega
    ·exact Int.le_refl _
  exact hf _ _
theorem ZE(d:Nat):∀(left:Int) (e:Ex),0<left->0<=(Gt d left e).2:=by
 induction d with
 |zero=>intro left e h;show 0<=left - 1;omega
 |succ d ih=>
  intro left e h;have hf:∀(l:List Ex) (k:Int),0<=k->0<=(DF (Gt d) l k).2:=by
   intro l
   induction l with
   |nil=>intro k hk;exact hk
   |cons x r ihl=>
    intro k hk;unfold DF;split
    ·rename_i h0
     exact ihl _ (ih k x h0)
    ·exact hk
  exact hf _ _ (by omega)
end Go.Proofs.YtchilcchogcibaaGreatDoor
