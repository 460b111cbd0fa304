/- Contracts of the library at this dump, as the kit's tool writes them in plain words (lay-plain); The parser's chain as a plain function. -/
import Derived.Shelf.Strings.OnBuilder
import Derived.Deep.CutBlock
import Derived.Test.YtchilcchogcibaaGreatDoorFParse1
set_option maxRecDepth 100000
set_option maxHeartbeats 8000000
namespace Go.Proofs
open Go.Shelf
def Tryz.lays159_ren:Go.Shelf.Ren:=⟨fun|159=>256|165=>143|166=>144|167=>145|169=>146|230=>147|204=>259|240=>194|241=>195|197=>196|118=>197|168=>198|270=>199|262=>200|276=>219|277=>220|260=>221|242=>222|313=>223|278=>233|274=>234|275=>235|n=>n,fun|9=>9|4=>4|3=>3|5=>5|72=>165|0=>0|76=>169|75=>168|107=>173|70=>162|20=>20|37=>163|127=>204|21=>21|105=>205|164=>219|162=>225|203=>223|119=>240|46=>241|139=>244|138=>243|51=>245|160=>246|208=>263|206=>261|80=>145|n=>n,fun|13=>2|3=>3|4=>4|n=>n⟩
theorem Tryz.lays159:Go.Proofs.Lays.n159 Tryz.prog Tryz.lays159_ren:={
 mixed:=by kernel_rfl
 f118:=Tryz.func197.trans (congrArg some (by kernel_rfl))
 f159:=Tryz.func256.trans (congrArg some (by kernel_rfl))
 f165:=Tryz.func143.trans (congrArg some (by kernel_rfl))
 f166:=Tryz.func144.trans (congrArg some (by kernel_rfl))
 f167:=Tryz.func145.trans (congrArg some (by kernel_rfl))
 f168:=Tryz.func198.trans (congrArg some (by kernel_rfl))
 f169:=Tryz.func146.trans (congrArg some (by kernel_rfl))
 f197:=Tryz.func196.trans (congrArg some (by kernel_rfl))
 f204:=Tryz.func259.trans (congrArg some (by kernel_rfl))
 f230:=Tryz.func147.trans (congrArg some (by kernel_rfl))
 f240:=Tryz.func194.trans (congrArg some (by kernel_rfl))
 f241:=Tryz.func195.trans (congrArg some (by kernel_rfl))
 f242:=Tryz.func222.trans (congrArg some (by kernel_rfl))
 f260:=Tryz.func221.trans (congrArg some (by kernel_rfl))
 f262:=Tryz.func200.trans (congrArg some (by kernel_rfl))
 f270:=Tryz.func199.trans (congrArg some (by kernel_rfl))
 f274:=Tryz.func234.trans (congrArg some (by kernel_rfl))
 f275:=Tryz.func235.trans (congrArg some (by kernel_rfl))
 f276:=Tryz.func219.trans (congrArg some (by kernel_rfl))
 f277:=Tryz.func220.trans (congrArg some (by kernel_rfl))
 f278:=Tryz.func233.trans (congrArg some (by kernel_rfl))
 f313:=Tryz.func223.trans (congrArg some (by kernel_rfl))
 t0:=Tryz.underlying0
 a0:=Tryz.isAgg0
 z0:=Tryz.sizeOf0
 v0:=Tryz.zeroValue0
 t3:=Tryz.underlying3
 a3:=Tryz.isAgg3
 z3:=Tryz.sizeOf3
 v3:=Tryz.zeroValue3
 t4:=Tryz.underlying4
 a4:=Tryz.isAgg4
 z4:=Tryz.sizeOf4
 v4:=Tryz.zeroValue4
 t5:=Tryz.underlying5
 a5:=Tryz.isAgg5
 z5:=Tryz.sizeOf5
 v5:=Tryz.zeroValue5
 t9:=Tryz.underlying9
 a9:=Tryz.isAgg9
 z9:=Tryz.sizeOf9
 v9:=Tryz.zeroValue9
 t20:=Tryz.underlying20
 a20:=Tryz.isAgg20
 z20:=Tryz.sizeOf20
 v20:=Tryz.zeroValue20
 t21:=Tryz.underlying21
 a21:=Tryz.isAgg21
 z21:=Tryz.sizeOf21
 v21:=Tryz.zeroValue21
 t37:=Tryz.underlying163
 a37:=Tryz.isAgg163
 z37:=Tryz.sizeOf163
 v37:=Tryz.zeroValue163
 t46:=Tryz.underlying241
 a46:=Tryz.isAgg241
 z46:=Tryz.sizeOf241
 v46:=Tryz.zeroValue241
 t51:=Tryz.underlying245
 a51:=Tryz.isAgg245
 z51:=Tryz.sizeOf245
 v51:=Tryz.zeroValue245
 t70:=Tryz.underlying162
 a70:=Tryz.isAgg162
 z70:=Tryz.sizeOf162
 v70:=Tryz.zeroValue162
 t72:=Tryz.underlying165
 a72:=Tryz.isAgg165
 z72:=Tryz.sizeOf165
 v72:=Tryz.zeroValue165
 t75:=Tryz.underlying168
 a75:=Tryz.isAgg168
 z75:=Tryz.sizeOf168
 v75:=Tryz.zeroValue168
 t76:=Tryz.underlying169
 a76:=Tryz.isAgg169
 z76:=Tryz.sizeOf169
 v76:=Tryz.zeroValue169
 t105:=Tryz.underlying205
 a105:=Tryz.isAgg205
 z105:=Tryz.sizeOf205
 v105:=Tryz.zeroValue205
 t107:=Tryz.underlying173
 a107:=Tryz.isAgg173
 z107:=Tryz.sizeOf173
 v107:=Tryz.zeroValue173
 t119:=Tryz.underlying240
 a119:=Tryz.isAgg240
 z119:=Tryz.sizeOf240
 t127:=Tryz.underlying204
 a127:=Tryz.isAgg204
 z127:=Tryz.sizeOf204
 v127:=Tryz.zeroValue204
 t138:=Tryz.underlying243
 a138:=Tryz.isAgg243
 z138:=Tryz.sizeOf243
 v138:=Tryz.zeroValue243
 t139:=Tryz.underlying244
 a139:=Tryz.isAgg244
 z139:=Tryz.sizeOf244
 v139:=Tryz.zeroValue244
 t160:=Tryz.underlying246
 a160:=Tryz.isAgg246
 z160:=Tryz.sizeOf246
 v160:=Tryz.zeroValue246
 t162:=Tryz.underlying225
 a162:=Tryz.isAgg225
 z162:=Tryz.sizeOf225
 v162:=Tryz.zeroValue225
 t164:=Tryz.underlying219
 a164:=Tryz.isAgg219
 z164:=Tryz.sizeOf219
 v164:=Tryz.zeroValue219
 t203:=Tryz.underlying223
 a203:=Tryz.isAgg223
 z203:=Tryz.sizeOf223
 v203:=Tryz.zeroValue223
 t206:=Tryz.underlying261
 a206:=Tryz.isAgg261
 z206:=Tryz.sizeOf261
 v206:=Tryz.zeroValue261
 t208:=Tryz.underlying263
 a208:=Tryz.isAgg263
 z208:=Tryz.sizeOf263
 v208:=Tryz.zeroValue263
 g3:=by kernel_rfl
 g4:=by kernel_rfl
 g13:=by kernel_rfl}
theorem Tryz.Builder_Extra_159:Builder.Extra Tryz.prog Tryz.lays159_ren:={
 sizeBuilder:=by kernel_rfl
 liesBuilder:=by kernel_rfl
 t5:=Tryz.underlying5
 a5:=Tryz.isAgg5
 z5:=Tryz.sizeOf5
 v5:=Tryz.zeroValue5
 infoByte:=by kernel_rfl
 cellsByte:=by kernel_rfl
 sizeByte:=by kernel_rfl
 neB5:=by decide}
open Go.RowKit in
theorem Tryz.strings_ToLower_ascii(s:ByteArray)(w:World)(hs:s.size<=140737488355328)(hascii:∀(j:Nat) (b:UInt8),s.data.toList[j]? = some b->b.toNat<128):
  Calls Tryz.prog 256 #[.string s] w λe w'=>e=.returned (.string ⟨(Lib.toLowerA s.data.toList).toArray⟩)/\Below w.heap.size w w':=Any.strings_ToLower_ascii Tryz.lays159 Tryz.Builder_Extra_159 s w hs hascii
end Go.Proofs
namespace Go.Proofs.YtchilcchogcibaaGreatDoor
open Go.RowKit
attribute [local go_sem] ByteArray.extract_mk Ak AY
attribute [local go_sem ↓] Go.wp_at_zero Go.wp_at_succ CY CE
def G7(R:Ex×Bool×Nat)(p:Nat)(A:Option Addr)(c:Nat)(l:List Tok)(deep:Nat)(w:World)(en:Ending)(w':World):Prop:=
 ∃A' c',en=.returned (.tuple #[.agg (R.1.cells A' c').toArray,.bool R.2.1])/\ExR (λb=>w.heap.size<=b/\b<w'.heap.size) R.1 A' c' w'/\PSt p A c l R.2.2 deep w'/\But p w w'
def FT(f p:Nat)(A:Option Addr)(c:Nat)(l:List Tok)(deep:Nat)(F:Nat->Ex×Bool×Nat):Prop:=
 (∀a,a<=l.length->a<=(F a).2.2/\(F a).2.2<=l.length)/\∀a w,a<=l.length->PSt p A c l a deep w->Calls Tryz.prog f #[.pointer (some ⟨p,0,none⟩)] w (G7 (F a) p A c l deep w)
def GK(F:Nat->Ex×Bool×Nat)(l:List Tok)(ws:List (List UInt8)):Nat->Ex->Bool->Nat->Ex×Bool×Nat
 |0,e,ok,a=>(e,ok,a)
 |n+1,e,ok,a=>if ok then(match Ar l a ws with|none=>(e,true,a)|some x=>GK F l ws n (.mk (Lib.toLowerA x) V.zero [] [e,(F (a+1)).1]) (F (a+1)).2.1 (F (a+1)).2.2)else(e,false,a)
def D6(F:Nat->Ex×Bool×Nat)(l:List Tok)(ws:List (List UInt8))(a:Nat):Ex×Bool×Nat:=GK F l ws (l.length+1) (F a).1 (F a).2.1 (F a).2.2
theorem QC(F:Nat->Ex×Bool×Nat)(l:List Tok)(ws:List (List UInt8))(e:Ex)(a:Nat):∀n,GK F l ws n e false a=(e,false,a)
 |0=>rfl
 |_+1=>rfl
theorem GZ{l:List Tok}{a:Nat}{x:List UInt8}:∀{ws:List (List UInt8)},Ar l a ws=some x->a<l.length/\x∈ws
 |[],h=>by cases h
 |y::r,h=>by
  unfold Ar at h;split at h
  ·rename_i hy
   cases h
   refine⟨?_,by simp⟩;unfold hit at hy;split at hy
   ·cases hy
   ·rename_i t ht
    exact(List.getElem?_eq_some_iff.1 ht).1
  ·obtain⟨h1,h2⟩:=GZ h;exact⟨h1,List.mem_cons_of_mem _ h2⟩
theorem OO(F:Nat->Ex×Bool×Nat)(l:List Tok)(ws:List (List UInt8))(hF:∀a,a<=l.length->a<=(F a).2.2/\(F a).2.2<=l.length):∀(n:Nat) (e:Ex) (ok:Bool) (a:Nat),a<=l.length->a<=(GK F l ws n e ok a).2.2/\(GK F l ws n e ok a).2.2<=l.length:=by
 intro n
 induction n with
 |zero=>intro e ok a ha;exact⟨Nat.le_refl _,ha⟩
 |succ n ih=>
  intro e ok a ha;unfold GK;cases ok
  ·exact⟨Nat.le_refl _,ha⟩
  ·simp only[if_true];split
   ·exact⟨Nat.le_refl _,ha⟩
   ·rename_i x hx
    have h1:=(GZ hx).1;have h2:=hF (a+1) (by omega);have h3:=ih (.mk (Lib.toLowerA x) V.zero [] [e,(F (a+1)).1]) (F (a+1)).2.1 (F (a+1)).2.2 h2.2;omega
theorem PSt.far{p:Nat}{A:Option Addr}{c:Nat}{l:List Tok}{a deep g:Nat}{w w':World}(h:PSt p A c l a deep w)(hb:But g w w')(hg:p<g):PSt p A c l a deep w':=by
 have lp:=h.1.lt;exact⟨hb.blk h.1 (by omega),h.2.below ⟨hb.os,hb.tape,hb.output,hb.size,λk hk=>hb.block k (by omega) (by omega)⟩⟩
theorem DR{R:Ex×Bool×Nat}{p:Nat}{A:Option Addr}{c:Nat}{l:List Tok}{deep:Nat}{w wr:World}{e:Ex}{A':Option Addr}{c' g a:Nat}{b:Bool}(hR:R=(e,b,a))(hg:w.heap.size<=g)(hpg:p<g)(hE:ExR (λx=>w.heap.size<=x/\x<wr.heap.size/\x≠g) e A' c' wr)
 (hP:PSt p A c l a deep wr)(hb:But p w wr)(y0 y1 y2 y3 y4 y5:Value):
  G7 R p A c l deep w (.returned (.tuple #[.agg (e.cells A' c').toArray,.bool b])) ((((((wr.setCell ⟨g,0,none⟩ y0).setCell ⟨g,1,none⟩ y1).setCell ⟨g,2,none⟩ y2).setCell ⟨g,3,none⟩ y3).setCell ⟨g,4,none⟩ y4).setCell ⟨g,5,none⟩ y5):=by
 subst hR;have hB:=But.sixSet wr g y0 y1 y2 y3 y4 y5;have hs:=hB.size;refine⟨A',c',rfl,hE.keep λx hx=>⟨⟨hx.1,by omega⟩,λo=>hB.cell hx.2.1 hx.2.2 o⟩,hP.far hB hpg,hb.sixOwn hg _ _ _ _ _ _⟩
def YJ(G:Nat)(op:List UInt8)(e e5:Ex)(A' A5:Option Addr)(c' c5:Nat)(W wx:World):Prop:=
 ∃gs,W.heap.size<=gs/\gs<wx.heap.size/\Blk wx gs 30 (e.cells A' c'++e5.cells A5 c5).toArray/\Blk wx G 30 ((Ex.mk op V.zero [] [e,e5]).cells (some ⟨gs,0,none⟩) 2).toArray/\But G W wx
theorem XE{W X:World}{G gs:Nat}{op:List UInt8}{e e5:Ex}{A' A5:Option Addr}{c' c5:Nat}(hX:But G W X)(kG:Blk X G 30 (e.cells A' c').toArray)(ks:Blk X gs 30 (e.cells A' c'++e5.cells A5 c5).toArray)(hgs:W.heap.size<=gs)(hG:G<W.heap.size):
  YJ G op e e5 A' A5 c' c5 W ((((((X.setCell ⟨G,0,none⟩ (.string ⟨op.toArray⟩)).setCell ⟨G,1,none⟩ (.int .i64 0)).setCell ⟨G,2,none⟩ (.int .i64 0)).setCell ⟨G,3,none⟩ (.string ⟨#[]⟩)).setCell ⟨G,4,none⟩ (.string ⟨#[]⟩)).setCell ⟨G,5,none⟩ (.slice (some ⟨gs,0,none⟩) 2 2)):=by
 have hB:=But.sixSet X G (.string ⟨op.toArray⟩) (.int .i64 0) (.int .i64 0) (.string ⟨#[]⟩) (.string ⟨#[]⟩) (.slice (some ⟨gs,0,none⟩) 2 2);have ks':=hB.blk ks (by omega);exact⟨gs,hgs,ks'.lt,ks',kG.sixSet _ _ _ _ _ _,hX.trans hB⟩
theorem VK{W X:World}{G:Nat}{op:List UInt8}{e e5:Ex}{A' A5:Option Addr}{c' c5:Nat}(hX:But G W X)(kG:Blk X G 30 (e.cells A' c').toArray)(_hG:G<W.heap.size):
  YJ G op e e5 A' A5 c' c5 W (((((((X.setCell ⟨G,0,none⟩ (.string ⟨op.toArray⟩)).setCell ⟨G,1,none⟩ (.int .i64 0)).setCell ⟨G,2,none⟩ (.int .i64 0)).setCell ⟨G,3,none⟩ (.string ⟨#[]⟩)).setCell ⟨G,4,none⟩ (.string ⟨#[]⟩)).setCell ⟨G,5,none⟩ (.slice (some ⟨X.heap.size,0,none⟩) 2 2)).alloc (.cells #[.string ⟨e.op.toArray⟩,.int .i64 e.v.k,.int .i64 e.v.i,.string ⟨e.v.s.toArray⟩,.string ⟨e.s.toArray⟩,.slice A' e.l.length c',.string ⟨e5.op.toArray⟩,.int .i64 e5.v.k,.int .i64 e5.v.i,.string ⟨e5.v.s.toArray⟩,.string ⟨e5.s.toArray⟩,.slice A5 e5.l.length c5] 30)):=by
 have hB:=But.sixSet X G (.string ⟨op.toArray⟩) (.int .i64 0) (.int .i64 0) (.string ⟨#[]⟩) (.string ⟨#[]⟩) (.slice (some ⟨X.heap.size,0,none⟩) 2 2);have hs:=hX.size;refine⟨X.heap.size,hs,by simp,Blk.new' _ _ _ _ (by simp),(kG.sixSet _ _ _ _ _ _).alloc _,(hX.trans hB).after ((Below.refl _ _).alloc (Nat.le_refl _) _)⟩
theorem LY(f p:Nat)(A:Option Addr)(c:Nat)(l:List Tok)(deep:Nat)(F:Nat->Ex×Bool×Nat)(hC:FT f p A c l deep F)(ws:List (List UInt8))(g cg a:Nat)(w:World)(hll:l.length<=999)(ha:a<=l.length)(hwl:ws.length<=1000)
 (hws:∀x∈ws,x≠[]/\x.length<=1000/\∀b∈x,b.toNat<128)(hgp:g≠p)(hent:∀args w,(callFunc f args).run Tryz.prog w=.ok (.enter f args) w)(hP:PSt p A c l a deep w)(kg:Blk w g 9 (ws.map MF).toArray):
  Calls Tryz.prog 247 #[.pointer (some ⟨p,0,none⟩),.func (.func f) #[.pointer (some ⟨p,0,none⟩)] #[],.slice (some ⟨g,0,none⟩) ws.length cg] w (G7 (D6 F l ws a) p A c l deep w):=by
 have lp:=hP.1.lt;have lg:=kg.lt;have HC:=Lib.hid hC;have HWS:=Lib.hid hws;obtain⟨R,hR⟩:∃R,D6 F l ws a=R:=⟨_,rfl⟩;rw[hR];unfold D6 at hR;have hFa:=hC.1 a ha;obtain⟨w0,hw0⟩:∃w0,w.alloc (.cells (AL.cells none 0).toArray 30)=w0:=⟨_,rfl⟩;have kR0:Blk w0 w.heap.size 30 (AL.cells none 0).toArray:=by rw[<-hw0];exact Blk.new _ _ _
 have hb0:Below w.heap.size w w0:=by rw[<-hw0];exact bl
 have hs0:w0.heap.size=w.heap.size+1:=by rw[<-hw0];simp
 have HW:=Lib.hid hw0;have HP0:=Lib.hid (hP.but hb0);have kg0:=kg.below hb0 lg;clear hw0 hP hC hws kg;obtain⟨Q,hQ⟩:∃Q,F a=Q:=⟨_,rfl⟩;rw[hQ]at hR hFa;obtain⟨e1,ok1,a1⟩:=Q;have HQ:=Lib.hid hQ;have HR:=Lib.hid hR;clear hQ hR;go_in
 go_upto_region 1 with fail
 rw[show w.alloc (.cells #[.string ⟨#[]⟩,.int .i64 0,.int .i64 0,.string ⟨#[]⟩,.string ⟨#[]⟩,.slice none 0 0] 30)=w0 from HW.out];clear HW;go_wp2_with fail;refine(HC.out.2 a w0 ha HP0.out).mono ?_;rw[HQ.out];rintro en w1 ⟨A1,c1,rfl,hE1,hP1,hb1⟩;dsimp only[Ex.cells];obtain⟨w2,hw2⟩:∃w2,w1.alloc (.cells (e1.cells A1 c1).toArray 30)=w2:=⟨_,rfl⟩;have kB2:Blk w2 w1.heap.size 30 (e1.cells A1 c1).toArray:=by rw[<-hw2];exact Blk.new _ _ _
 have hb2:Below w1.heap.size w1 w2:=by rw[<-hw2];exact bl
 have hs2:w2.heap.size=w1.heap.size+1:=by rw[<-hw2];simp
 have HW2:=Lib.hid hw2;clear hw2;have hz1:=hb1.size;have kR2:=(hb1.blk kR0 (by omega)).below hb2 (by omega);have kg2:=(hb1.blk kg0 hgp).below hb2 (by omega);have HP2:=Lib.hid (hP1.but hb2);have HE2:Hid (ExR (λx=>w.heap.size<x/\x<w2.heap.size/\x≠w1.heap.size) e1 A1 c1 w2):=hE1.keep λx hx=>⟨⟨by omega,by omega,by omega⟩,λo=>hb2.cell (p:=⟨x,o,none⟩) hx.2⟩
 have hbw2:But p w w2:=((But.of_below hb0).trans hb1).after hb2;clear hP1 hE1 hb1 hb2 kg0 kR0 HP0;go_upto_region 2 with fail
 rw[show w1.alloc (.cells #[.string ⟨e1.op.toArray⟩,.int .i64 e1.v.k,.int .i64 e1.v.i,.string ⟨e1.v.s.toArray⟩,.string ⟨e1.s.toArray⟩,.slice A1 e1.l.length c1] 30)=w2 from HW2.out];clear HW2;obtain⟨G,hG⟩:∃G,w1.heap.size=G:=⟨_,rfl⟩;rw[hG]at kB2 HE2 hz1 hs2 ⊢;have hGw:w.heap.size<G:=by omega
 clear hG hz1 hs2 hs0 hb0;go_wp2_with fail;go_loopg [9] (l.length+1) (λgk ok wr=>∃(a:Nat) (e:Ex) (b:Bool) (A':Option Addr) (c':Nat),ok=.bool b/\a<=l.length/\l.length - a<gk/\Hid (GK F l ws gk e b a=R)/\Hid (PSt p A c l a deep wr)/\Blk wr G 30 (e.cells A' c').toArray/\Blk wr w.heap.size 30 (AL.cells none 0).toArray ∧
  Hid (ExR (λx=>w.heap.size<x/\x<wr.heap.size/\x≠G) e A' c' wr)/\But p w wr/\Blk wr g 9 (ws.map MF).toArray)
 case atStart=>exact⟨a1,e1,ok1,A1,c1,rfl,hFa.2,by omega,HR,HP2,kB2,kR2,HE2,hbw2,kg2⟩
 case round=>
  obtain⟨a,e,b,A',c',rfl,haL,hgk,HJ,HPr,kB,kR,HE,hbr,kgr⟩:=hrel;clear HR HP2 kB2 kR2 HE2 hbw2 kg2 HQ;have hzr:=hbr.size;have lB:=kB.lt;have lR:=kR.lt;have lgr:=kgr.lt;cases b
  ·have HF:Hid (R=(e,false,a)):=by show _=_;rw[<-HJ.out,QC]
   clear HJ;obtain⟨q0,q1,q2,q3,q4,q5⟩:=kB.six;obtain⟨z0,z1,z2,z3,z4,z5⟩:=kR.sixF;obtain⟨r0,r1,r2,r3,r4,r5⟩:=kR.six;go_wp2_with fail;refine bodyPost_ret (v:=.tuple #[.agg (e.cells A' c').toArray,.bool false]) (by simp[results,Tryz.results247,go_sem, *,Ex.cells]) rfl ?_;exact DR HF.out (Nat.le_refl _) lp (HE.out.keep λx hx=>⟨⟨by omega,hx.2.1,by omega⟩,λo=>rfl⟩) HPr.out hbr _ _ _ _ _ _
  ·obtain⟨n,rfl⟩:∃n,gk=n+1:=⟨gk - 1,by omega⟩;obtain⟨O,hO⟩:∃O,Ar l a ws=O:=⟨_,rfl⟩;have hJ:=HJ.out;unfold GK at hJ;rw[hO]at hJ;simp only[if_true]at hJ;have HO:=Lib.hid hO;clear HJ;cases O with
   |none=>
    have HF:Hid (R=(e,true,a)):=hJ.symm;clear hJ hO;go_wp2_with fail;refine(JV p A c l a deep g ws wr (by omega) hwl hgp HPr.out kgr cg).mono ?_;rw[HO.out];rintro en w3 ⟨rfl,hP3,hb3⟩;have kB3:=hb3.blk kB (by omega);have kR3:=hb3.blk kR (by omega);have lB3:=kB3.lt;have lR3:=kR3.lt;have hz3:=hb3.size;have HP3:=Lib.hid hP3;have HE3:Hid (ExR (λx=>w.heap.size<x/\x<w3.heap.size/\x≠G) e A' c' w3):=HE.out.keep λx hx=>⟨⟨hx.1,by omega,hx.2.2⟩,λo=>hb3.cell hx.2.1 (by omega) o⟩
    have hbw3:=hbr.trans hb3;clear hP3 HE HPr;obtain⟨q0,q1,q2,q3,q4,q5⟩:=kB3.six;obtain⟨z0,z1,z2,z3,z4,z5⟩:=kR3.sixF;obtain⟨r0,r1,r2,r3,r4,r5⟩:=kR3.six;go_wp2_with fail;refine bodyPost_ret (v:=.tuple #[.agg (e.cells A' c').toArray,.bool true]) (by simp[results,Tryz.results247,go_sem, *,Ex.cells]) rfl ?_;exact DR HF.out (Nat.le_refl _) lp (HE3.out.keep λx hx=>⟨⟨by omega,hx.2.1,by omega⟩,λo=>rfl⟩) HP3.out hbw3 _ _ _ _ _ _
   |some x=>
    obtain⟨halt,hxw⟩:=GZ hO;obtain⟨hx0,hxl,hxa⟩:=HWS.out x hxw;have HXA:=Lib.hid hxa;have ex:(x==[])=false:=by simpa using hx0
    have hFn:=HC.out.1 (a+1) (by omega);simp only at hJ;obtain⟨Q,hQ⟩:∃Q,F (a+1)=Q:=⟨_,rfl⟩;rw[hQ]at hJ hFn;obtain⟨e5,ok5,a5⟩:=Q;have HQ:=Lib.hid hQ;have HJ:=Lib.hid hJ;clear hJ hO hQ hxw hx0 hxa;go_wp2_with fail;refine(JV p A c l a deep g ws wr (by omega) hwl hgp HPr.out kgr cg).mono ?_;rw[HO.out];rintro en w3 ⟨rfl,hP3,hb3⟩;have hz3:=hb3.size;obtain⟨w4,hw4⟩:∃w4,w3.alloc (.cells (AL.cells none 0).toArray 30)=w4:=⟨_,rfl⟩;have kN4:Blk w4 w3.heap.size 30 (AL.cells none 0).toArray:=by rw[<-hw4];exact Blk.new _ _ _
    have hb4:Below w3.heap.size w3 w4:=by rw[<-hw4];exact bl
    have hs4:w4.heap.size=w3.heap.size+1:=by rw[<-hw4];simp
    have HW4:=Lib.hid hw4;clear hw4;have kB4:=(hb3.blk kB (by omega)).below hb4 (by omega);have kR4:=(hb3.blk kR (by omega)).below hb4 (by omega);have kg4:=(hb3.blk kgr hgp).below hb4 (by omega);have HP4:Hid (PSt p A c l (a+1) deep w4):=hP3.but hb4;have HE4:Hid (ExR (λx=>w.heap.size<x/\x<w3.heap.size/\x≠G) e A' c' w4):=HE.out.keep λx hx=>⟨⟨hx.1,by omega,hx.2.2⟩,λo=>(hb4.cell (p:=⟨x,o,none⟩) (show x<_ by omega)).trans (hb3.cell hx.2.1 (by omega) o)⟩
    have hbw4:=(hbr.trans hb3).after hb4;clear hP3 HE HPr kB kR kgr hb3 hb4;go_upto_region 6 with fail
    rw[show w3.alloc (.cells #[.string ⟨#[]⟩,.int .i64 0,.int .i64 0,.string ⟨#[]⟩,.string ⟨#[]⟩,.slice none 0 0] 30)=w4 from HW4.out];clear HW4;go_wp2_with fail;refine(HC.out.2 (a+1) w4 (by omega) HP4.out).mono ?_;rw[HQ.out];rintro en w5 ⟨A5,c5,rfl,hE5,hP5,hb5⟩;dsimp only[Ex.cells];have hz5:=hb5.size;have kN5:=hb5.blk kN4 (by omega);have kB5:=hb5.blk kB4 (by omega);have kR5:=hb5.blk kR4 (by omega);have kg5:=hb5.blk kg4 hgp;have HP5:=Lib.hid hP5;have HE5:Hid (ExR (λx=>w.heap.size<x/\x<w5.heap.size/\x≠G/\x≠w3.heap.size) e A' c' w5):=HE4.out.keep λx hx=>⟨⟨hx.1,by omega,hx.2.2,by omega⟩,λo=>hb5.cell (by omega) (by omega) o⟩
    have HN5:Hid (ExR (λx=>w.heap.size<x/\x<w5.heap.size/\x≠G/\x≠w3.heap.size) e5 A5 c5 w5):=hE5.keep λx hx=>⟨⟨by omega,hx.2,by omega,by omega⟩,λo=>rfl⟩
    have hbw5:=hbw4.trans hb5;have lN5:=kN5.lt;clear hP5 hE5 HE4 HP4 kB4 kR4 kg4 kN4 hbw4 hb5;obtain⟨z0,z1,z2,z3,z4,z5⟩:=kN5.sixF;obtain⟨r0,r1,r2,r3,r4,r5⟩:=kN5.six;go_upto_region 7 with fail
    have hBN:=But.sixSet w5 w3.heap.size (.string ⟨e5.op.toArray⟩) (.int .i64 e5.v.k) (.int .i64 e5.v.i) (.string ⟨e5.v.s.toArray⟩) (.string ⟨e5.s.toArray⟩) (.slice A5 e5.l.length c5);have hsz:=hBN.size;refine Hl (λwx=>Blk wx w3.heap.size 30 (e5.cells A5 c5).toArray/\Blk wx G 30 (e.cells A' c').toArray/\Blk wx w.heap.size 30 (AL.cells none 0).toArray/\Blk wx g 9 (ws.map MF).toArray/\Hid (PSt p A c l a5 deep wx) ∧
     Hid (ExR (λx=>w.heap.size<x/\x<wx.heap.size/\x≠G) e A' c' wx)/\Hid (ExR (λx=>w.heap.size<x/\x<wx.heap.size/\x≠G) e5 A5 c5 wx)/\But p w wx)
     ⟨kN5.sixSet _ _ _ _ _ _,hBN.blk kB5 (by omega),hBN.blk kR5 (by omega),hBN.blk kg5 (by omega),HP5.out.far hBN (by omega),HE5.out.keep λx hx=>⟨⟨hx.1,by omega,hx.2.2.1⟩,λo=>hBN.cell hx.2.1 hx.2.2.2 o⟩,HN5.out.keep λx hx=>⟨⟨hx.1,by omega,hx.2.2.1⟩,λo=>hBN.cell hx.2.1 hx.2.2.2 o⟩,hbw5.sixOwn (by omega) _ _ _ _ _ _⟩ ?_
    rintro W ⟨kN,kB,kR,kgW,HPW,HEW,HNW,hbW⟩;have HTL:Hid (∀w1:World,Calls Tryz.prog 256 #[.string ⟨x.toArray⟩] w1 λen w'=>en=.returned (.string ⟨(Lib.toLowerA x).toArray⟩)/\Below w1.heap.size w1 w'):=
     λw1=>Tryz.strings_ToLower_ascii ⟨x.toArray⟩ w1 (by show x.toArray.size<=_;simp;omega) (λj b hb=>HXA.out b (List.mem_of_getElem? hb))
    have hBP:But p w W:=hbW;obtain⟨gN,hgN⟩:∃gN,w3.heap.size=gN:=⟨_,rfl⟩;rw[hgN]at kN ⊢;have hGN:G<gN:=by omega
    clear hBN hsz kN5 kB5 kR5 kg5 HP5 HE5 HN5 hbw5 lN5 z0 z1 z2 z3 z4 z5 r0 r1 r2 r3 r4 r5 hz5 hs4;have lB':=kB.lt;have lN':=kN.lt;obtain⟨q0,q1,q2,q3,q4,q5⟩:=kB.six;obtain⟨f0,f1,f2,f3,f4,f5⟩:=kB.sixF;obtain⟨s0,s1,s2,s3,s4,s5⟩:=kN.six;have HREL:Hid (∀wc:World,YJ G (Lib.toLowerA x) e e5 A' A5 c' c5 W wc->∃(a:Nat) (e:Ex) (b:Bool) (A':Option Addr) (c':Nat),(.bool ok5:Value)=.bool b/\a<=l.length/\l.length - a<n/\Hid (GK F l ws n e b a=R)/\Hid (PSt p A c l a deep wc)/\Blk wc G 30 (e.cells A' c').toArray/\Blk wc w.heap.size 30 (AL.cells none 0).toArray ∧
     Hid (ExR (λx=>w.heap.size<x/\x<wc.heap.size/\x≠G) e A' c' wc)/\But p w wc/\Blk wc g 9 (ws.map MF).toArray):=by
     intro wc hcut;obtain⟨gs,hgs1,hgs2,kgs,kG,hbG⟩:=hcut;have hzG:=hbG.size;have hEn:ExR (λx=>w.heap.size<x/\x<wc.heap.size/\x≠G) (.mk (Lib.toLowerA x) V.zero [] [e,e5]) (some ⟨gs,0,none⟩) 2 wc:=by
      refine ExR.two (HEW.out.keep λx hx=>⟨⟨hx.1,by omega,hx.2.2⟩,λo=>hbG.cell hx.2.1 hx.2.2 o⟩) (HNW.out.keep λx hx=>⟨⟨hx.1,by omega,hx.2.2⟩,λo=>hbG.cell hx.2.1 hx.2.2 o⟩) kgs ⟨by omega,hgs2,by omega⟩ ?_;have:(Lib.toLowerA x).length=x.length:=by simp[Lib.toLowerA]
      omega
     have hbwc:But p w wc:=
      ⟨hbG.os.trans hBP.os,hbG.tape.trans hBP.tape,hbG.output.trans hBP.output,Nat.le_trans hBP.size hbG.size,λk hk hp=>(hbG.block k (Nat.lt_of_lt_of_le hk hBP.size) (by omega)).trans (hBP.block k hk hp)⟩
     exact⟨a5,_,ok5,_,2,rfl,hFn.2,by omega,HJ.out,HPW.out.far hbG (by omega),kG,hbG.blk kR (by omega),hEn,hbwc,hbG.blk kgW (by omega)⟩
    go_region_with (go_at_call 256;refine(HTL.out _).mono ?_;rintro en w6 ⟨rfl,hb6⟩;obtain⟨hc6,hf6⟩:=EJ hb6;have hz6:=hb6.size;(try simp at hz6 hc6 hf6);have lG6:G<w6.heap.size:=(by omega);have lN6:gN<w6.heap.size:=(by omega))
    all_goals(go_wp2_with fail)
    all_goals
     go_roundg n
     case measure=>omega
     case rel=>
      refine HREL.out _ ?_
      first
       |(have h1:Below W.drew.heap.size W.drew w6:=(by with_reducible exact hb6);exact VK ((But.refl _ _).drew.after h1) (kB.drew.below h1 lB') lB')
       |exact XE (gs:=W.heap.size) (((But.refl _ _).drew.alloc _).after hb6) ((kB.drew.alloc _).below hb6 (by simp;omega)) ((Blk.new W.drew _ _).below hb6 (by simp)) (Nat.le_refl _) lB'
end Go.Proofs.YtchilcchogcibaaGreatDoor
