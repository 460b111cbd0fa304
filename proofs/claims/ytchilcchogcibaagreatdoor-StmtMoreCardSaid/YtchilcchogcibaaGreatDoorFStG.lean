/- Contracts of the library at this dump, as the kit's tool writes them in plain words (lay-plain); stmt.listed at four types, and the closures that it is given, as plain functions. -/
import Derived.Lib.JoinLaws
import Derived.Test.YtchilcchogcibaaGreatDoorFStD
set_option maxRecDepth 100000
set_option maxHeartbeats 4000000
namespace Go.Proofs
open Go.Shelf
def Tryz.lays156_ren:Go.Shelf.Ren:=⟨fun|156=>151|165=>143|166=>144|169=>146|240=>194|241=>195|276=>219|277=>220|n=>n,fun|31=>23|9=>9|3=>3|4=>4|0=>0|20=>20|72=>165|76=>169|70=>162|37=>163|75=>168|127=>204|164=>219|5=>5|80=>145|n=>n,fun|n=>n⟩
theorem Tryz.lays156:Go.Proofs.Lays.n156 Tryz.prog Tryz.lays156_ren:={
 mixed:=by kernel_rfl
 f156:=Tryz.func151.trans (congrArg some (by kernel_rfl))
 f165:=Tryz.func143.trans (congrArg some (by kernel_rfl))
 f166:=Tryz.func144.trans (congrArg some (by kernel_rfl))
 f169:=Tryz.func146.trans (congrArg some (by kernel_rfl))
 f240:=Tryz.func194.trans (congrArg some (by kernel_rfl))
 f241:=Tryz.func195.trans (congrArg some (by kernel_rfl))
 f276:=Tryz.func219.trans (congrArg some (by kernel_rfl))
 f277:=Tryz.func220.trans (congrArg some (by kernel_rfl))
 t0:=Tryz.underlying0
 a0:=Tryz.isAgg0
 z0:=Tryz.sizeOf0
 v0:=Tryz.zeroValue0
 t3:=Tryz.underlying3
 a3:=Tryz.isAgg3
 z3:=Tryz.sizeOf3
 v3:=Tryz.zeroValue3
 t4:=Tryz.underlying4
 a4:=Tryz.isAgg4
 z4:=Tryz.sizeOf4
 v4:=Tryz.zeroValue4
 t9:=Tryz.underlying9
 a9:=Tryz.isAgg9
 z9:=Tryz.sizeOf9
 v9:=Tryz.zeroValue9
 t20:=Tryz.underlying20
 a20:=Tryz.isAgg20
 z20:=Tryz.sizeOf20
 v20:=Tryz.zeroValue20
 t31:=Tryz.underlying23
 a31:=Tryz.isAgg23
 z31:=Tryz.sizeOf23
 v31:=Tryz.zeroValue23
 t37:=Tryz.underlying163
 a37:=Tryz.isAgg163
 z37:=Tryz.sizeOf163
 v37:=Tryz.zeroValue163
 t70:=Tryz.underlying162
 a70:=Tryz.isAgg162
 z70:=Tryz.sizeOf162
 v70:=Tryz.zeroValue162
 t72:=Tryz.underlying165
 a72:=Tryz.isAgg165
 z72:=Tryz.sizeOf165
 v72:=Tryz.zeroValue165
 t75:=Tryz.underlying168
 a75:=Tryz.isAgg168
 z75:=Tryz.sizeOf168
 v75:=Tryz.zeroValue168
 t76:=Tryz.underlying169
 a76:=Tryz.isAgg169
 z76:=Tryz.sizeOf169
 v76:=Tryz.zeroValue169
 t127:=Tryz.underlying204
 a127:=Tryz.isAgg204
 z127:=Tryz.sizeOf204
 v127:=Tryz.zeroValue204
 t164:=Tryz.underlying219
 a164:=Tryz.isAgg219
 z164:=Tryz.sizeOf219
 v164:=Tryz.zeroValue219}
theorem Tryz.Builder_Extra_156:Builder.Extra Tryz.prog Tryz.lays156_ren:={
 sizeBuilder:=by kernel_rfl
 liesBuilder:=by kernel_rfl
 t5:=Tryz.underlying5
 a5:=Tryz.isAgg5
 z5:=Tryz.sizeOf5
 v5:=Tryz.zeroValue5
 infoByte:=by kernel_rfl
 cellsByte:=by kernel_rfl
 sizeByte:=by kernel_rfl
 neB5:=by decide}
open Go.RowKit in
theorem Tryz.strings_Join_none(a:Option Addr)(c:Nat)(sep:ByteArray)(w:World):
  Calls Tryz.prog 151 #[.slice a 0 c,.string sep] w λe w'=>e=.returned (.string ⟨#[]⟩)/\w'=w:=Any.strings_Join_none Tryz.lays156 Tryz.Builder_Extra_156 a c sep w
open Go.RowKit in
theorem Tryz.strings_Join(bk o c:Nat)(xs:List ByteArray)(sep:ByteArray)(w:World)(hcells:∀(j:Nat) x,xs[j]? = some x->w.cell? ⟨bk,o+j,none⟩=some (.string x))(hbk:bk<w.heap.size)(hN:xs.length<=140737488355328)(hcap:xs.length<=c)(hlen:(Lib.join (xs.map (·.data.toList)) sep.data.toList).length<=140737488355328):
  Calls Tryz.prog 151 #[.slice (some ⟨bk,o,none⟩) xs.length c,.string sep] w λe w'=>e=.returned (.string ⟨(Lib.join (xs.map (·.data.toList)) sep.data.toList).toArray⟩)/\Below w.heap.size w w':=Any.strings_Join Tryz.lays156 Tryz.Builder_Extra_156 bk o c xs sep w hcells hbk hN hcap hlen
end Go.Proofs
namespace Go.Proofs.YtchilcchogcibaaGreatDoor
open Go.RowKit
attribute [local go_sem] ByteArray.extract_mk Ak AY
attribute [local go_sem ↓] Go.wp_at_zero Go.wp_at_succ
theorem QA(sep:List UInt8):∀l:List (List UInt8),Lib.join l sep=BM sep l
 |[]=>rfl
 |[x]=>by simp[Lib.join,BM,List.intercalate]
 |x::y::r=>by
  have ih:=QA sep (y::r);simp only[BM];rw[<-ih];simp[Lib.join,List.intercalate]
def tcs(l:List (List UInt8)):List Value:=l.map λx=>.string ⟨x.toArray⟩
theorem YZ(l:List (List UInt8)):(tcs l).length=l.length:=by simp[tcs]
theorem J8(l:List (List UInt8))(x:List UInt8):tcs (l++[x])=tcs l++[.string ⟨x.toArray⟩]:=by simp[tcs]
theorem ML:(Tryz.prog.info? 9).map (λi=>(i.zero,i.size,i.bytes))=some (some (.string ⟨#[]⟩),1,16):=by kernel_rfl
theorem Jb(base n:Nat)(sv:Value)(sep:List UInt8)(l:List (List UInt8))(w:World)(hown:w.ownsRow base 9 1 sv n (tcs l))(hl:l.length<=1000000)(hj:(BM sep l).length<=1000000):
  Calls Tryz.prog 151 #[sv,.string ⟨sep.toArray⟩] w (Ret (.string ⟨(BM sep l).toArray⟩) w):=by
 have hn:l.length=n:=by have:=hown.1;rw[YZ]at this;omega
 have hnone:∀(A:Option Addr) (c:Nat),l=[]->Calls Tryz.prog 151 #[.slice A 0 c,.string ⟨sep.toArray⟩] w (Ret (.string ⟨(BM sep l).toArray⟩) w):=λA c h=>by
  rw[h];exact(Tryz.strings_Join_none A c ⟨sep.toArray⟩ w).mono λe w' ⟨he,hw⟩=>⟨he,by rw[hw];exact Below.refl _ _⟩
 rcases hown.2 with⟨rfl,h0⟩|⟨g,cap,cur,rfl,hb,hg,hnc,hcm,hcs,htk⟩
 ·exact hnone none 0 (List.eq_nil_of_length_eq_zero (by omega))
 ·have hgl:g<w.heap.size:=(Array.getElem?_eq_some_iff.1 hg).1;have h:=Tryz.strings_Join g 0 cap (l.map λx=>(⟨x.toArray⟩:ByteArray)) ⟨sep.toArray⟩ w (λj x hx=>by
   have hc:=hown.cells (g:=g) rfl j (.string x) (by
    rw[List.getElem?_map]at hx;unfold tcs;rw[List.getElem?_map];cases hq:l[j]? with
    |none=>rw[hq]at hx;cases hx
    |some y=>rw[hq]at hx;simp at hx ⊢;exact hx)
   rw[add_mid]at hc;exact hc) hgl (by simp;omega) (by rw[List.length_map,hn];exact hnc) (by
    rw[List.map_map,show(l.map ((λx:ByteArray=>x.data.toList) ∘ λx=>⟨x.toArray⟩))=l by
     conv=>rhs;rw[<-List.map_id l]
     exact List.map_congr_left λx _=>by simp,QA]
    show(BM sep l).length<=_
    omega)
  rw[List.length_map,hn,List.map_map,show(l.map ((λx:ByteArray=>x.data.toList) ∘ λx=>⟨x.toArray⟩))=l by
   conv=>rhs;rw[<-List.map_id l]
   exact List.map_congr_left λx _=>by simp,QA]at h
  exact h
theorem PP(sep:List UInt8):∀l:List (List UInt8),(BM sep l).length<=(l.map λx=>x.length+sep.length).sum
 |[]=>by simp[BM]
 |[x]=>by simp[BM]
 |x::y::r=>by
  have ih:=PP sep (y::r);simp only[BM,List.length_append,List.map_cons,List.sum_cons]at ih ⊢;omega
theorem UG(A:Option Addr)(c:Nat)(l:List (List UInt8))(t:(List UInt8)->List UInt8)(f:Nat)(eg:∀args (w:World),(callFunc f args).run Tryz.prog w=.ok (.enter f args) w)(w:World)(hl:l.length<=1000)(ht:(BM BB (l.map t)).length<=1000000) (h:SQ l A (Old w.heap.size) w)
 (hp:∀x∈l,  ∀Z:World,Below w.heap.size w Z->True->Calls Tryz.prog f #[.string ⟨x.toArray⟩] Z (Ret (.string ⟨(t x).toArray⟩) Z)):
  Calls Tryz.prog 93 #[.slice A l.length c,.func (.func f) #[] #[]] w (Ret (.string ⟨(BM BB (l.map t)).toArray⟩) w):=by
 obtain⟨i0,hi0,zi0,zi1,zi2⟩:=info_parts ML;have HP:=Lib.hid hp;have HQ:Hid (∀Z:World,Below w.heap.size w Z->SQ l A (Old w.heap.size) Z):=λZ hz=>h.keep λb hb=>⟨hb,λo=>hz.cell (p:=⟨b,o,none⟩) hb⟩
 obtain⟨N,hN⟩:∃N,l.length=N:=⟨_,rfl⟩;have HL:=Lib.hid hN;obtain⟨R,hR⟩:∃R,BM BB (l.map t)=R:=⟨_,rfl⟩;have HR:=Lib.hid hR;have HJ:Hid (∀(n:Nat) (sv:Value) (Z:World),Z.ownsRow w.heap.size 9 1 sv n (tcs (l.map t))->Calls Tryz.prog 151 #[sv,.string ⟨#[32,44,32]⟩] Z (Ret (.string ⟨R.toArray⟩) Z)):=λn sv Z ho=>by
  have:=Jb w.heap.size n sv BB (l.map t) Z ho (by rw[List.length_map];omega) ht;rw[hR]at this;exact this
 rw[hR];rw[hN]at hl ⊢;clear hp h hN hR ht;go_in
 go_wp2_with fail;go_loopw [5,10] (λs5' i wr=>∃(s5:Value) (j:Nat),s5=s5'/\j<=N/\i=.int .i64 j/\wr.ownsRow w.heap.size 9 1 s5 j (tcs ((l.map t).take j))/\Below w.heap.size w wr) (λ_ i _=>N - (intOf i).toNat)
 case atStart=>exact⟨_,0,rfl,by omega,rfl,World.ownsRow_nil _ _ _ _,Below.refl _ _⟩
 case round=>
  obtain⟨s5,j,rfl,hj,rfl,hown,hbw⟩:=hrel;obtain⟨W,rfl⟩:∃W,W=wr:=⟨_,rfl⟩;have hzw:=hbw.size;by_cases hlt:j<N
  ·obtain⟨b,off,x,rfl,hbB,hv,c0⟩:=(HQ.out _ hbw).at_ (j:=j) (by rw[HL.out];exact hlt);have HT:Hid (tcs ((l.map t).take (j+1))=tcs ((l.map t).take j)++[.string ⟨(t x).toArray⟩]):=by
    show _=_
    rw[List.take_add_one,List.getElem?_map,hv];exact J8 _ _
   have hmem:=List.mem_of_getElem? hv;have HOW:=Lib.hid hown;clear hv hown;have HC:=Lib.hid (HP.out x hmem W hbw trivial);clear hmem;go_wp2_with fail;refine HC.out.mono ?_;rintro en w1 ⟨rfl,hb1⟩;have hbW1:Below W.heap.size W w1:=by first|exact hb1|exact hbWV.trans (hb1.mono hbWV.size)
   have hbw1:Below w.heap.size w w1:=hbw.trans (hbW1.mono hzw);have hz1:w.heap.size<=w1.heap.size:=hbw1.size;have hown1:=CJ HOW.out hbW1;have HOL:=Lib.hid hown1.lt;have HO1:=Lib.hid (hown1.alloc (.cells #[.string ⟨(t x).toArray⟩] 9));clear hown1;go_wp2_with (at_builtin;refine wpList_append_own _ rfl _ _ 23 rfl w.heap.size 9 i0 _ 1 16 Tryz.underlying23 hi0 zi0 zi1 zi2 rfl (by decide) _ _ _ rfl HO1.out ⟨w1.heap.size,0,none⟩ 1 1 [.string ⟨(t x).toArray⟩] rfl rfl ?c1 ?c2 ?c3 ?c4 ?c5 ?_)
   try case c1=>exact World.news_of_block (cs:=#[.string ⟨(t x).toArray⟩]) (t:=9) (fr:=(0,0)) (heap_alloc_new _ _)
   try case c2=>first|rfl|exact⟨rfl⟩|(intro u hu;simp at hu;rw[hu];rfl)
   try case c3=>unfold maxLen;omega
   try case c4=>omega
   try case c5=>first|omega|(simp;omega)
   intro v' w2 hown2 hg2 _;have hb2:Below w.heap.size w w2:=(hbw1.alloc hz1 _).grown hg2 (by have:=hz1;simp;omega) (λk hk=>(HOL.out k hk).1);have HO2:Hid (w2.ownsRow w.heap.size 9 1 v' (j+1) (tcs ((l.map t).take (j+1)))):=by show World.ownsRow _ _ _ _ _ _ _;rw[HT.out];exact hown2
   clear hown2 hg2;go_wp2_with fail;go_roundw
   case rel=>exact⟨_,j+1,rfl,by omega,by go_num,HO2.out,hb2⟩
   case measure=>simp[intOf];omega
  ·obtain rfl:N=j:=by omega
   have HO:Hid (W.ownsRow w.heap.size 9 1 s5 N (tcs (l.map t))):=by
    have:=hown;rw[List.take_of_length_le (by rw[List.length_map,HL.out];exact Nat.le_refl _)]at this;exact this
   have HC:=Lib.hid (HJ.out N s5 W HO.out);have g11:¬(N:Int)<(N:Int):=by omega
   clear hlt hown;go_wp2_with fail;refine HC.out.mono ?_;rintro en w1 ⟨rfl,hb1⟩;have hbf:=hbw.trans (hb1.mono hzw);go_wp2_with fail;go_ret;exact⟨rfl,hbf⟩
theorem UI(A:Option Addr)(c:Nat)(l:List Col)(t:Col->List UInt8)(f:Nat)(eg:∀args (w:World),(callFunc f args).run Tryz.prog w=.ok (.enter f args) w)(w:World)(hl:l.length<=1000)(ht:(BM BB (l.map t)).length<=1000000) (h:CQ l A (Old w.heap.size) w)
 (hp:∀x∈l,  ∀Z:World,Below w.heap.size w Z->True->Calls Tryz.prog f #[.agg #[.string ⟨x.n.toArray⟩,.int .i64 x.t,.bool x.b]] Z (Ret (.string ⟨(t x).toArray⟩) Z)):
  Calls Tryz.prog 149 #[.slice A l.length c,.func (.func f) #[] #[]] w (Ret (.string ⟨(BM BB (l.map t)).toArray⟩) w):=by
 obtain⟨i0,hi0,zi0,zi1,zi2⟩:=info_parts ML;have HP:=Lib.hid hp;have HQ:Hid (∀Z:World,Below w.heap.size w Z->CQ l A (Old w.heap.size) Z):=λZ hz=>h.keep λb hb=>⟨hb,λo=>hz.cell (p:=⟨b,o,none⟩) hb⟩
 obtain⟨N,hN⟩:∃N,l.length=N:=⟨_,rfl⟩;have HL:=Lib.hid hN;obtain⟨R,hR⟩:∃R,BM BB (l.map t)=R:=⟨_,rfl⟩;have HR:=Lib.hid hR;have HJ:Hid (∀(n:Nat) (sv:Value) (Z:World),Z.ownsRow w.heap.size 9 1 sv n (tcs (l.map t))->Calls Tryz.prog 151 #[sv,.string ⟨#[32,44,32]⟩] Z (Ret (.string ⟨R.toArray⟩) Z)):=λn sv Z ho=>by
  have:=Jb w.heap.size n sv BB (l.map t) Z ho (by rw[List.length_map];omega) ht;rw[hR]at this;exact this
 rw[hR];rw[hN]at hl ⊢;clear hp h hN hR ht;go_in
 go_wp2_with fail;go_loopw [5,10] (λs5' i wr=>∃(s5:Value) (j:Nat),s5=s5'/\j<=N/\i=.int .i64 j/\wr.ownsRow w.heap.size 9 1 s5 j (tcs ((l.map t).take j))/\Below w.heap.size w wr) (λ_ i _=>N - (intOf i).toNat)
 case atStart=>exact⟨_,0,rfl,by omega,rfl,World.ownsRow_nil _ _ _ _,Below.refl _ _⟩
 case round=>
  obtain⟨s5,j,rfl,hj,rfl,hown,hbw⟩:=hrel;obtain⟨W,rfl⟩:∃W,W=wr:=⟨_,rfl⟩;have hzw:=hbw.size;by_cases hlt:j<N
  ·obtain⟨b,off,x,rfl,hbB,hv,c0,c1,c2⟩:=(HQ.out _ hbw).at_ (j:=j) (by rw[HL.out];exact hlt);have HT:Hid (tcs ((l.map t).take (j+1))=tcs ((l.map t).take j)++[.string ⟨(t x).toArray⟩]):=by
    show _=_
    rw[List.take_add_one,List.getElem?_map,hv];exact J8 _ _
   have hmem:=List.mem_of_getElem? hv;have HOW:=Lib.hid hown;clear hv hown;obtain⟨V,hV⟩:∃V,W.alloc (.cells #[.string ⟨x.n.toArray⟩,.int .i64 x.t,.bool x.b] 96)=V:=⟨_,rfl⟩;have hbWV:Below W.heap.size W V:=by rw[<-hV];exact bl
   have hbV:Below w.heap.size w V:=hbw.trans (hbWV.mono hzw);have kV:Blk V W.heap.size 96 #[.string ⟨x.n.toArray⟩,.int .i64 x.t,.bool x.b]:=by rw[<-hV];exact Blk.new _ _ _
   have HK:Hid (∀i,V.cell? ⟨W.heap.size,i,none⟩=(#[.string ⟨x.n.toArray⟩,.int .i64 x.t,.bool x.b]:Array Value)[i]?):=λi=>kV.cell i
   have HC:=Lib.hid (HP.out x hmem  V hbV trivial);have HV:=Lib.hid hV;clear hmem hV kV;go_upto_region 5 with fail
   rw[show W.alloc _=V from HV.out];have k0:=HK.out 0;have k1:=HK.out 1;have k2:=HK.out 2;have k3:=HK.out 3;have k4:=HK.out 4;have k5:=HK.out 5;have k6:=HK.out 6;have k7:=HK.out 7;simp only[List.getElem?_toArray,List.getElem?_cons_zero,List.getElem?_cons_succ,List.getElem?_nil]at k0 k1 k2 k3 k4 k5 k6 k7;go_wp2_with fail;refine HC.out.mono ?_;rintro en w1 ⟨rfl,hb1⟩;have hbW1:Below W.heap.size W w1:=by first|exact hb1|exact hbWV.trans (hb1.mono hbWV.size)
   have hbw1:Below w.heap.size w w1:=hbw.trans (hbW1.mono hzw);have hz1:w.heap.size<=w1.heap.size:=hbw1.size;have hown1:=CJ HOW.out hbW1;have HOL:=Lib.hid hown1.lt;have HO1:=Lib.hid (hown1.alloc (.cells #[.string ⟨(t x).toArray⟩] 9));clear hown1;go_wp2_with (at_builtin;refine wpList_append_own _ rfl _ _ 23 rfl w.heap.size 9 i0 _ 1 16 Tryz.underlying23 hi0 zi0 zi1 zi2 rfl (by decide) _ _ _ rfl HO1.out ⟨w1.heap.size,0,none⟩ 1 1 [.string ⟨(t x).toArray⟩] rfl rfl ?c1 ?c2 ?c3 ?c4 ?c5 ?_)
   try case c1=>exact World.news_of_block (cs:=#[.string ⟨(t x).toArray⟩]) (t:=9) (fr:=(0,0)) (heap_alloc_new _ _)
   try case c2=>first|rfl|exact⟨rfl⟩|(intro u hu;simp at hu;rw[hu];rfl)
   try case c3=>unfold maxLen;omega
   try case c4=>omega
   try case c5=>first|omega|(simp;omega)
   intro v' w2 hown2 hg2 _;have hb2:Below w.heap.size w w2:=(hbw1.alloc hz1 _).grown hg2 (by have:=hz1;simp;omega) (λk hk=>(HOL.out k hk).1);have HO2:Hid (w2.ownsRow w.heap.size 9 1 v' (j+1) (tcs ((l.map t).take (j+1)))):=by show World.ownsRow _ _ _ _ _ _ _;rw[HT.out];exact hown2
   clear hown2 hg2;go_wp2_with fail;go_roundw
   case rel=>exact⟨_,j+1,rfl,by omega,by go_num,HO2.out,hb2⟩
   case measure=>simp[intOf];omega
  ·obtain rfl:N=j:=by omega
   have HO:Hid (W.ownsRow w.heap.size 9 1 s5 N (tcs (l.map t))):=by
    have:=hown;rw[List.take_of_length_le (by rw[List.length_map,HL.out];exact Nat.le_refl _)]at this;exact this
   have HC:=Lib.hid (HJ.out N s5 W HO.out);have g11:¬(N:Int)<(N:Int):=by omega
   clear hlt hown;go_wp2_with fail;refine HC.out.mono ?_;rintro en w1 ⟨rfl,hb1⟩;have hbf:=hbw.trans (hb1.mono hzw);go_wp2_with fail;go_ret;exact⟨rfl,hbf⟩
theorem UF(A:Option Addr)(c:Nat)(l:List V)(t:V->List UInt8)(f:Nat)(eg:∀args (w:World),(callFunc f args).run Tryz.prog w=.ok (.enter f args) w)(w:World)(hl:l.length<=1000)(ht:(BM BB (l.map t)).length<=1000000) (h:WQ l A (Old w.heap.size) w)
 (hp:∀x∈l,  ∀Z:World,Below w.heap.size w Z->True->Calls Tryz.prog f #[.agg #[.int .i64 x.k,.int .i64 x.i,.string ⟨x.s.toArray⟩]] Z (Ret (.string ⟨(t x).toArray⟩) Z)):
  Calls Tryz.prog 87 #[.slice A l.length c,.func (.func f) #[] #[]] w (Ret (.string ⟨(BM BB (l.map t)).toArray⟩) w):=by
 obtain⟨i0,hi0,zi0,zi1,zi2⟩:=info_parts ML;have HP:=Lib.hid hp;have HQ:Hid (∀Z:World,Below w.heap.size w Z->WQ l A (Old w.heap.size) Z):=λZ hz=>h.keep λb hb=>⟨hb,λo=>hz.cell (p:=⟨b,o,none⟩) hb⟩
 obtain⟨N,hN⟩:∃N,l.length=N:=⟨_,rfl⟩;have HL:=Lib.hid hN;obtain⟨R,hR⟩:∃R,BM BB (l.map t)=R:=⟨_,rfl⟩;have HR:=Lib.hid hR;have HJ:Hid (∀(n:Nat) (sv:Value) (Z:World),Z.ownsRow w.heap.size 9 1 sv n (tcs (l.map t))->Calls Tryz.prog 151 #[sv,.string ⟨#[32,44,32]⟩] Z (Ret (.string ⟨R.toArray⟩) Z)):=λn sv Z ho=>by
  have:=Jb w.heap.size n sv BB (l.map t) Z ho (by rw[List.length_map];omega) ht;rw[hR]at this;exact this
 rw[hR];rw[hN]at hl ⊢;clear hp h hN hR ht;go_in
 go_wp2_with fail;go_loopw [5,10] (λs5' i wr=>∃(s5:Value) (j:Nat),s5=s5'/\j<=N/\i=.int .i64 j/\wr.ownsRow w.heap.size 9 1 s5 j (tcs ((l.map t).take j))/\Below w.heap.size w wr) (λ_ i _=>N - (intOf i).toNat)
 case atStart=>exact⟨_,0,rfl,by omega,rfl,World.ownsRow_nil _ _ _ _,Below.refl _ _⟩
 case round=>
  obtain⟨s5,j,rfl,hj,rfl,hown,hbw⟩:=hrel;obtain⟨W,rfl⟩:∃W,W=wr:=⟨_,rfl⟩;have hzw:=hbw.size;by_cases hlt:j<N
  ·obtain⟨b,off,x,rfl,hbB,hv,c0,c1,c2⟩:=(HQ.out _ hbw).at_ (j:=j) (by rw[HL.out];exact hlt);have HT:Hid (tcs ((l.map t).take (j+1))=tcs ((l.map t).take j)++[.string ⟨(t x).toArray⟩]):=by
    show _=_
    rw[List.take_add_one,List.getElem?_map,hv];exact J8 _ _
   have hmem:=List.mem_of_getElem? hv;have HOW:=Lib.hid hown;clear hv hown;obtain⟨V,hV⟩:∃V,W.alloc (.cells #[.int .i64 x.k,.int .i64 x.i,.string ⟨x.s.toArray⟩] 27)=V:=⟨_,rfl⟩;have hbWV:Below W.heap.size W V:=by rw[<-hV];exact bl
   have hbV:Below w.heap.size w V:=hbw.trans (hbWV.mono hzw);have kV:Blk V W.heap.size 27 #[.int .i64 x.k,.int .i64 x.i,.string ⟨x.s.toArray⟩]:=by rw[<-hV];exact Blk.new _ _ _
   have HK:Hid (∀i,V.cell? ⟨W.heap.size,i,none⟩=(#[.int .i64 x.k,.int .i64 x.i,.string ⟨x.s.toArray⟩]:Array Value)[i]?):=λi=>kV.cell i
   have HC:=Lib.hid (HP.out x hmem  V hbV trivial);have HV:=Lib.hid hV;clear hmem hV kV;go_upto_region 5 with fail
   rw[show W.alloc _=V from HV.out];have k0:=HK.out 0;have k1:=HK.out 1;have k2:=HK.out 2;have k3:=HK.out 3;have k4:=HK.out 4;have k5:=HK.out 5;have k6:=HK.out 6;have k7:=HK.out 7;simp only[List.getElem?_toArray,List.getElem?_cons_zero,List.getElem?_cons_succ,List.getElem?_nil]at k0 k1 k2 k3 k4 k5 k6 k7;go_wp2_with fail;refine HC.out.mono ?_;rintro en w1 ⟨rfl,hb1⟩;have hbW1:Below W.heap.size W w1:=by first|exact hb1|exact hbWV.trans (hb1.mono hbWV.size)
   have hbw1:Below w.heap.size w w1:=hbw.trans (hbW1.mono hzw);have hz1:w.heap.size<=w1.heap.size:=hbw1.size;have hown1:=CJ HOW.out hbW1;have HOL:=Lib.hid hown1.lt;have HO1:=Lib.hid (hown1.alloc (.cells #[.string ⟨(t x).toArray⟩] 9));clear hown1;go_wp2_with (at_builtin;refine wpList_append_own _ rfl _ _ 23 rfl w.heap.size 9 i0 _ 1 16 Tryz.underlying23 hi0 zi0 zi1 zi2 rfl (by decide) _ _ _ rfl HO1.out ⟨w1.heap.size,0,none⟩ 1 1 [.string ⟨(t x).toArray⟩] rfl rfl ?c1 ?c2 ?c3 ?c4 ?c5 ?_)
   try case c1=>exact World.news_of_block (cs:=#[.string ⟨(t x).toArray⟩]) (t:=9) (fr:=(0,0)) (heap_alloc_new _ _)
   try case c2=>first|rfl|exact⟨rfl⟩|(intro u hu;simp at hu;rw[hu];rfl)
   try case c3=>unfold maxLen;omega
   try case c4=>omega
   try case c5=>first|omega|(simp;omega)
   intro v' w2 hown2 hg2 _;have hb2:Below w.heap.size w w2:=(hbw1.alloc hz1 _).grown hg2 (by have:=hz1;simp;omega) (λk hk=>(HOL.out k hk).1);have HO2:Hid (w2.ownsRow w.heap.size 9 1 v' (j+1) (tcs ((l.map t).take (j+1)))):=by show World.ownsRow _ _ _ _ _ _ _;rw[HT.out];exact hown2
   clear hown2 hg2;go_wp2_with fail;go_roundw
   case rel=>exact⟨_,j+1,rfl,by omega,by go_num,HO2.out,hb2⟩
   case measure=>simp[intOf];omega
  ·obtain rfl:N=j:=by omega
   have HO:Hid (W.ownsRow w.heap.size 9 1 s5 N (tcs (l.map t))):=by
    have:=hown;rw[List.take_of_length_le (by rw[List.length_map,HL.out];exact Nat.le_refl _)]at this;exact this
   have HC:=Lib.hid (HJ.out N s5 W HO.out);have g11:¬(N:Int)<(N:Int):=by omega
   clear hlt hown;go_wp2_with fail;refine HC.out.mono ?_;rintro en w1 ⟨rfl,hb1⟩;have hbf:=hbw.trans (hb1.mono hzw);go_wp2_with fail;go_ret;exact⟨rfl,hbf⟩
theorem UH(A:Option Addr)(c:Nat)(l:List Se)(t:Se->List UInt8)(f:Nat)(eg:∀args (w:World),(callFunc f args).run Tryz.prog w=.ok (.enter f args) w)(w:World)(hl:l.length<=1000)(ht:(BM BB (l.map t)).length<=1000000)(K n:Nat)(h:ZQ K n l A (Old w.heap.size) w)
 (hp:∀x∈l,∀(A':Option Addr) (c':Nat),∀Z:World,Below w.heap.size w Z->(x.e.fit K/\x.e.l.length<=c'/\c'<=maxLen/\ExQ K n Z (Old Z.heap.size) A' x.e.l)->Calls Tryz.prog f #[.agg #[.string ⟨x.n.toArray⟩,.string ⟨x.e.op.toArray⟩,.int .i64 x.e.v.k,.int .i64 x.e.v.i,.string ⟨x.e.v.s.toArray⟩,.string ⟨x.e.s.toArray⟩,.slice A' x.e.l.length c']] Z (Ret (.string ⟨(t x).toArray⟩) Z)):
  Calls Tryz.prog 91 #[.slice A l.length c,.func (.func f) #[] #[]] w (Ret (.string ⟨(BM BB (l.map t)).toArray⟩) w):=by
 obtain⟨i0,hi0,zi0,zi1,zi2⟩:=info_parts ML;have HP:=Lib.hid hp;have HQ:Hid (∀Z:World,Below w.heap.size w Z->ZQ K n l A (Old w.heap.size) Z):=λZ hz=>h.keep λb hb=>⟨hb,λo=>hz.cell (p:=⟨b,o,none⟩) hb⟩
 obtain⟨N,hN⟩:∃N,l.length=N:=⟨_,rfl⟩;have HL:=Lib.hid hN;obtain⟨R,hR⟩:∃R,BM BB (l.map t)=R:=⟨_,rfl⟩;have HR:=Lib.hid hR;have HJ:Hid (∀(n:Nat) (sv:Value) (Z:World),Z.ownsRow w.heap.size 9 1 sv n (tcs (l.map t))->Calls Tryz.prog 151 #[sv,.string ⟨#[32,44,32]⟩] Z (Ret (.string ⟨R.toArray⟩) Z)):=λn sv Z ho=>by
  have:=Jb w.heap.size n sv BB (l.map t) Z ho (by rw[List.length_map];omega) ht;rw[hR]at this;exact this
 rw[hR];rw[hN]at hl ⊢;clear hp h hN hR ht;go_in
 go_wp2_with fail;go_loopw [5,10] (λs5' i wr=>∃(s5:Value) (j:Nat),s5=s5'/\j<=N/\i=.int .i64 j/\wr.ownsRow w.heap.size 9 1 s5 j (tcs ((l.map t).take j))/\Below w.heap.size w wr) (λ_ i _=>N - (intOf i).toNat)
 case atStart=>exact⟨_,0,rfl,by omega,rfl,World.ownsRow_nil _ _ _ _,Below.refl _ _⟩
 case round=>
  obtain⟨s5,j,rfl,hj,rfl,hown,hbw⟩:=hrel;obtain⟨W,rfl⟩:∃W,W=wr:=⟨_,rfl⟩;have hzw:=hbw.size;by_cases hlt:j<N
  ·obtain⟨b,off,x,A',c',rfl,hbB,hv,c0,⟨d1,d2,d3,d4,d5,d6⟩,hfit,hc1,hc2,hex⟩:=(HQ.out _ hbw).read (j:=j) (by rw[HL.out];exact hlt);have HT:Hid (tcs ((l.map t).take (j+1))=tcs ((l.map t).take j)++[.string ⟨(t x).toArray⟩]):=by
    show _=_
    rw[List.take_add_one,List.getElem?_map,hv];exact J8 _ _
   have hmem:=List.mem_of_getElem? hv;have HOW:=Lib.hid hown;clear hv hown;obtain⟨V,hV⟩:∃V,W.alloc (.cells #[.string ⟨x.n.toArray⟩,.string ⟨x.e.op.toArray⟩,.int .i64 x.e.v.k,.int .i64 x.e.v.i,.string ⟨x.e.v.s.toArray⟩,.string ⟨x.e.s.toArray⟩,.slice A' x.e.l.length c'] 76)=V:=⟨_,rfl⟩;have hbWV:Below W.heap.size W V:=by rw[<-hV];exact bl
   have hbV:Below w.heap.size w V:=hbw.trans (hbWV.mono hzw);have kV:Blk V W.heap.size 76 #[.string ⟨x.n.toArray⟩,.string ⟨x.e.op.toArray⟩,.int .i64 x.e.v.k,.int .i64 x.e.v.i,.string ⟨x.e.v.s.toArray⟩,.string ⟨x.e.s.toArray⟩,.slice A' x.e.l.length c']:=by rw[<-hV];exact Blk.new _ _ _
   have HK:Hid (∀i,V.cell? ⟨W.heap.size,i,none⟩=(#[.string ⟨x.n.toArray⟩,.string ⟨x.e.op.toArray⟩,.int .i64 x.e.v.k,.int .i64 x.e.v.i,.string ⟨x.e.v.s.toArray⟩,.string ⟨x.e.s.toArray⟩,.slice A' x.e.l.length c']:Array Value)[i]?):=λi=>kV.cell i
   have HC:=Lib.hid (HP.out x hmem A' c' V hbV ⟨hfit,hc1,hc2,hex.keep (DK (hbWV.mono hzw |> λh=>⟨h.os,h.tape,h.output,h.size,h.block⟩) hbV.size) n⟩);have HV:=Lib.hid hV;clear hmem hV kV;go_upto_region 5 with fail
   rw[show W.alloc _=V from HV.out];have k0:=HK.out 0;have k1:=HK.out 1;have k2:=HK.out 2;have k3:=HK.out 3;have k4:=HK.out 4;have k5:=HK.out 5;have k6:=HK.out 6;have k7:=HK.out 7;simp only[List.getElem?_toArray,List.getElem?_cons_zero,List.getElem?_cons_succ,List.getElem?_nil]at k0 k1 k2 k3 k4 k5 k6 k7;go_wp2_with fail;refine HC.out.mono ?_;rintro en w1 ⟨rfl,hb1⟩;have hbW1:Below W.heap.size W w1:=by first|exact hb1|exact hbWV.trans (hb1.mono hbWV.size)
   have hbw1:Below w.heap.size w w1:=hbw.trans (hbW1.mono hzw);have hz1:w.heap.size<=w1.heap.size:=hbw1.size;have hown1:=CJ HOW.out hbW1;have HOL:=Lib.hid hown1.lt;have HO1:=Lib.hid (hown1.alloc (.cells #[.string ⟨(t x).toArray⟩] 9));clear hown1;go_wp2_with (at_builtin;refine wpList_append_own _ rfl _ _ 23 rfl w.heap.size 9 i0 _ 1 16 Tryz.underlying23 hi0 zi0 zi1 zi2 rfl (by decide) _ _ _ rfl HO1.out ⟨w1.heap.size,0,none⟩ 1 1 [.string ⟨(t x).toArray⟩] rfl rfl ?c1 ?c2 ?c3 ?c4 ?c5 ?_)
   try case c1=>exact World.news_of_block (cs:=#[.string ⟨(t x).toArray⟩]) (t:=9) (fr:=(0,0)) (heap_alloc_new _ _)
   try case c2=>first|rfl|exact⟨rfl⟩|(intro u hu;simp at hu;rw[hu];rfl)
   try case c3=>unfold maxLen;omega
   try case c4=>omega
   try case c5=>first|omega|(simp;omega)
   intro v' w2 hown2 hg2 _;have hb2:Below w.heap.size w w2:=(hbw1.alloc hz1 _).grown hg2 (by have:=hz1;simp;omega) (λk hk=>(HOL.out k hk).1);have HO2:Hid (w2.ownsRow w.heap.size 9 1 v' (j+1) (tcs ((l.map t).take (j+1)))):=by show World.ownsRow _ _ _ _ _ _ _;rw[HT.out];exact hown2
   clear hown2 hg2;go_wp2_with fail;go_roundw
   case rel=>exact⟨_,j+1,rfl,by omega,by go_num,HO2.out,hb2⟩
   case measure=>simp[intOf];omega
  ·obtain rfl:N=j:=by omega
   have HO:Hid (W.ownsRow w.heap.size 9 1 s5 N (tcs (l.map t))):=by
    have:=hown;rw[List.take_of_length_le (by rw[List.length_map,HL.out];exact Nat.le_refl _)]at this;exact this
   have HC:=Lib.hid (HJ.out N s5 W HO.out);have g11:¬(N:Int)<(N:Int):=by omega
   clear hlt hown;go_wp2_with fail;refine HC.out.mono ?_;rintro en w1 ⟨rfl,hb1⟩;have hbf:=hbw.trans (hb1.mono hzw);go_wp2_with fail;go_ret;exact⟨rfl,hbf⟩
end Go.Proofs.YtchilcchogcibaaGreatDoor
