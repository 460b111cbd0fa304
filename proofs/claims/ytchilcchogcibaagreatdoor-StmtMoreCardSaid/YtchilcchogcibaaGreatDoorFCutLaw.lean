/- lexer.quoted and first as plain functions; lexer.Cut as a plain function; Plain laws on cutting. -/
import Derived.Test.YtchilcchogcibaaGreatDoorFExFew
import Derived.Test.YtchilcchogcibaaGreatDoorFExpr1
set_option maxRecDepth 100000
set_option maxHeartbeats 2000000
namespace Go.Proofs.YtchilcchogcibaaGreatDoor
section
open Go.RowKit
attribute [local go_sem] ByteArray.extract_mk Ak AY
attribute [local go_sem ↓] Go.wp_at_zero Go.wp_at_succ ix0 ix1
theorem WX(s:List UInt8)(j:Nat)(c:UInt8)(h:s[j]? = some c)(hc:¬c.toNat=39):DN (s.drop j) j=DN (s.drop (j+1)) (j+1):=by
 obtain⟨hj,he⟩:=List.getElem?_eq_some_iff.1 h;rw[List.drop_eq_getElem_cons hj,he];cases hd:s.drop (j+1)with
 |nil=>simp[DN,hc]
 |cons d r=>simp[DN,hc]
theorem YA(s:List UInt8)(j:Nat)(c d:UInt8)(h:s[j]? = some c)(h2:s[j+1]? = some d)(hc:c.toNat=39)(hd:d.toNat=39):DN (s.drop j) j=DN (s.drop (j+2)) (j+2):=by
 obtain⟨hj,he⟩:=List.getElem?_eq_some_iff.1 h;obtain⟨hj2,he2⟩:=List.getElem?_eq_some_iff.1 h2;rw[List.drop_eq_getElem_cons hj,he,List.drop_eq_getElem_cons hj2,he2];simp[DN,hc,hd]
theorem SA(s:List UInt8)(j:Nat)(c:UInt8)(h:s[j]? = some c)(hc:c.toNat=39)(h2:∀d,s[j+1]? = some d->¬d.toNat=39):DN (s.drop j) j=some j:=by
 obtain⟨hj,he⟩:=List.getElem?_eq_some_iff.1 h;rw[List.drop_eq_getElem_cons hj,he];cases hd:s.drop (j+1)with
 |nil=>simp[DN,hc]
 |cons d r=>
  have:s[j+1]? = some d:=by
   have:=List.getElem?_drop (xs:=s) (i:=j+1) (j:=0);rw[hd]at this;simpa using this.symm
  simp[DN,hc,h2 d this]
def FD(s:List UInt8):Option Nat->Tok×Nat
 |none=>(⟨0,[]⟩,0)
 |some n=>(⟨3,DJ ((s.take n).drop 1)⟩,n+1)
theorem EC(s:List UInt8):Fa s=FD s (DN (s.drop 1) 1):=by
 unfold Fa;cases DN (s.drop 1) 1<;>rfl
def Zo(x:Tok×Nat)(w:World):Ending->World->Prop:=Ret (.tuple #[.agg #[.int .i64 x.1.k,.string ⟨x.1.s.toArray⟩],.int .i64 (x.2:Int)]) w
theorem KD(m:List UInt8)(w:World)(hm:m.length<=1000000)(hM:Kq w):Calls Tryz.prog 153 #[.string ⟨m.toArray⟩,.string ⟨#[39,39]⟩,.string ⟨#[39]⟩] w (Ret (.string ⟨(DJ m).toArray⟩) w):=by
 obtain⟨x,hx⟩:=hM;have hrep:Lib.replaceAll m [39,39] [39]=DJ m:=MH _ _ (Nat.le_refl _);refine(Tryz.strings_ReplaceAll ⟨m.toArray⟩ ⟨#[39,39]⟩ ⟨#[39]⟩ x _ (by show m.length<_;omega) hx (by decide) ?_).mono ?_
 ·have h1:=Lib.countB_le ⟨#[39,39]⟩ (by decide) m.length ⟨m.toArray⟩ (Nat.le_refl _);have h2:(⟨m.toArray⟩:ByteArray).size=m.length:=rfl;have h3:(⟨#[39]⟩:ByteArray).size=1:=rfl;rw[h2]at h1 ⊢;rw[h3];omega
 simp only;rw[hrep];rintro e w3 ⟨rfl,hb3⟩;exact⟨rfl,hb3⟩
theorem Oz(s:List UInt8)(j:Nat):List.take (j - 1) s.tail=(s.take j).drop 1:=by
 rw[List.drop_take,List.drop_one]
theorem Qi(s:List UInt8)(w:World)(hs:s.length<=1000000)(hM:Kq w):Calls Tryz.prog 158 #[.string ⟨s.toArray⟩] w (Zo (Fa s) w):=by
 obtain⟨R,hR⟩:∃R,Fa s=R:=⟨_,rfl⟩;rw[hR];obtain⟨E,hE⟩:∃E,DN (s.drop 1) 1=E:=⟨_,rfl⟩;have HR:Hid (R=FD s E):=by show _=_;rw[<-hR,<-hE];exact EC s
 have HE:=Lib.hid hE;have HM:=Lib.hid hM;clear hR hE hM;have l0:w.heap.size<w.heap.size+1:=by omega
 go_in
 go_wp2_with fail;go_loop [4] (λt=>∃j:Nat,1<=j/\j<=s.length+1/\t=.int .i64 j/\Hid (DN (s.drop j) j=E)) (λt=>s.length+1 - (intOf t).toNat)
 case atStart=>exact⟨1,by omega,by omega,rfl,HE⟩
 case round=>
  obtain⟨j,hj1,hj2,rfl,HJ⟩:=hrel;by_cases hlt:j<s.length
  ·obtain⟨c,hc⟩:∃c,s[j]? = some c:=⟨_,List.getElem?_eq_getElem hlt⟩;have hcg:s[j]=c:=by rw[List.getElem?_eq_getElem hlt]at hc;exact Option.some.inj hc
   by_cases h39:c.toNat=39
   ·have t1:((c.toNat:Int) != 39)=false:=by rw[h39];rfl
    by_cases h2:j+1<s.length
    ·obtain⟨d,hd⟩:∃d,s[j+1]? = some d:=⟨_,List.getElem?_eq_getElem h2⟩;have hdg:s[j+1]=d:=by rw[List.getElem?_eq_getElem h2]at hd;exact Option.some.inj hd
     have b2:(j:Int)+1<(s.length:Int):=by omega
     by_cases hd39:d.toNat=39
     ·have t2:((d.toNat:Int)==39)=true:=by rw[hd39];rfl
      have HJ2:Hid (DN (s.drop (j+2)) (j+2)=E):=by show _=_;rw[<-HJ.out];exact(YA s j c d hc hd h39 hd39).symm
      clear h39 hd39 hc hd;go_wp2_with fail;go_round
      case rel=>exact⟨j+2,by omega,by omega,by go_num,HJ2⟩
      case measure=>simp[intOf];omega
     ·have t2:((d.toNat:Int)==39)=false:=by rw[beq_eq_false_iff_ne];omega
      have HJ2:Hid (E=some j):=by show _=_;rw[<-HJ.out];exact SA s j c hc h39 (λx hx=>by rw[hd]at hx;cases hx;exact hd39)
      clear h39 hd39 hc hd;have hM0:Kq (w.alloc (.cells #[.int .i64 0,.string ⟨#[]⟩] 128)):=HM.out.below (by exact bl) rfl;have hml:(List.take (j - 1) s.tail).length<=1000000:=by rw[List.length_take];simp;omega
      have HML:=Lib.hid hml;clear hml;go_wp2_with fail;refine(KD _ _ HML.out hM0).mono ?_;rintro e w1 ⟨rfl,hb1⟩;obtain⟨hc1,hf1⟩:=EJ hb1;have hz1:=hb1.size;simp at hz1 hc1 hf1;have l1:w.heap.size<w1.heap.size:=by omega
      go_wp2_with fail;refine bodyPost_ret (v:=.tuple #[.agg #[.int .i64 3,.string ⟨(DJ (List.take (j - 1) s.tail)).toArray⟩],.int .i64 ((j:Int)+1)]) (by simp[results,Tryz.results158,go_sem, *]) rfl ?_;rw[HR.out,HJ2.out,Oz];exact⟨rfl,by exact bl⟩
    ·have b2:¬(j:Int)+1<(s.length:Int):=by omega
     have HJ2:Hid (E=some j):=by show _=_;rw[<-HJ.out];exact SA s j c hc h39 (λx hx=>by rw[List.getElem?_eq_none (by omega)]at hx;cases hx)
     clear h39 hc;have hM0:Kq (w.alloc (.cells #[.int .i64 0,.string ⟨#[]⟩] 128)):=HM.out.below (by exact bl) rfl;have hml:(List.take (j - 1) s.tail).length<=1000000:=by rw[List.length_take];simp;omega
     have HML:=Lib.hid hml;clear hml;go_wp2_with fail;refine(KD _ _ HML.out hM0).mono ?_;rintro e w1 ⟨rfl,hb1⟩;obtain⟨hc1,hf1⟩:=EJ hb1;have hz1:=hb1.size;simp at hz1 hc1 hf1;have l1:w.heap.size<w1.heap.size:=by omega
     go_wp2_with fail;refine bodyPost_ret (v:=.tuple #[.agg #[.int .i64 3,.string ⟨(DJ (List.take (j - 1) s.tail)).toArray⟩],.int .i64 ((j:Int)+1)]) (by simp[results,Tryz.results158,go_sem, *]) rfl ?_;rw[HR.out,HJ2.out,Oz];exact⟨rfl,by exact bl⟩
   ·have t1:((c.toNat:Int) != 39)=true:=by rw[bne_iff_ne];omega
    have HJ2:Hid (DN (s.drop (j+1)) (j+1)=E):=by show _=_;rw[<-HJ.out];exact(WX s j c hc h39).symm
    clear h39 hc;go_wp2_with fail;go_round
    case rel=>exact⟨j+1,by omega,by omega,by go_num,HJ2⟩
    case measure=>simp[intOf];omega
  ·have HJ2:Hid (E=none):=by show _=_;rw[<-HJ.out,List.drop_of_length_le (by omega)];rfl
   have hb:¬(j:Int)<(s.length:Int):=by omega
   go_wp2_with fail;refine bodyPost_ret (v:=.tuple #[.agg #[.int .i64 0,.string ⟨#[]⟩],.int .i64 0]) (by simp[results,Tryz.results158,go_sem]) rfl ?_;rw[HR.out,HJ2.out];exact⟨rfl,by exact bl⟩
def MN:List UInt8->Tok×Nat
 |[]=>(⟨4,[]⟩,1)
 |c::r=>if c.toNat=39 then Fa (c::r)else(⟨4,[c]⟩,1)
theorem UO(s:List UInt8)(w:World)(hs:s.length<=1000000)(h0:0<s.length)(hM:Kq w):Calls Tryz.prog 95 #[.string ⟨s.toArray⟩] w (Zo (Ah s) w):=by
 obtain⟨R,hR⟩:∃R,Ah s=R:=⟨_,rfl⟩;rw[hR];have HM:=Lib.hid hM;clear hM;obtain⟨w0,hw0⟩:∃w0,w.alloc (.cells #[.int .i64 0,.string ⟨#[]⟩] 128)=w0:=⟨_,rfl⟩;have hk0:Blk w0 w.heap.size 128 #[.int .i64 0,.string ⟨#[]⟩]:=by rw[<-hw0];exact Blk.new _ _ _
 have hb0:Below w.heap.size w w0:=by rw[<-hw0];exact bl
 have HW:=Lib.hid hw0;clear hw0;have lw:=hk0.lt;go_in
 go_upto_region 1 with fail
 rw[HW.out];go_wp2_with fail;refine(Qe _).mono ?_;rintro e w1 ⟨rfl,hb1⟩;have k1:=hk0.below hb1 lw;have lw1:=k1.lt;have hbw1:Below w.heap.size w w1:=hb0.trans (hb1.mono hb0.size);have hzw:=hbw1.size;clear HW hb1 hk0 lw hb0;go_wp2_with fail;refine wp_loop_rounds 3 ?_;rw[rounds_succ];obtain⟨w2,hw2⟩:∃w2,w1.alloc (.cells #[.int .i64 1,.int .i64 16,.func (.func 205) #[] #[],.func (.func 204) #[] #[]] 183)=w2:=⟨_,rfl⟩;have kr:Blk w2 w1.heap.size 183 #[.int .i64 1,.int .i64 16,.func (.func 205) #[] #[],.func (.func 204) #[] #[]]:=by rw[<-hw2];exact Blk.new _ _ _
 have hb12:Below w1.heap.size w1 w2:=by rw[<-hw2];exact bl
 have kt:=k1.below hb12 lw1;have hbw2:Below w.heap.size w w2:=hbw1.trans (hb12.mono hzw);have hz2:=hbw2.size;have HW2:=Lib.hid hw2;clear hw2 k1;have q0:=kr.cell 0;have q1:=kr.cell 1;have q2:=kr.cell 2;have q3:=kr.cell 3;simp at q0 q1 q2 q3;have lr:=kr.lt;have lt:=kt.lt;go_upto_region 4 with fail
 rw[HW2.out];go_wp2_with fail;refine(Lr s _ hs).mono ?_;rintro e w3 ⟨rfl,hb3⟩;have kr3:=kr.below hb3 lr;have kt3:=kt.below hb3 lt;have hbw3:Below w.heap.size w w3:=hbw2.trans (hb3.mono hz2);have hz3:=hbw3.size;have hl1:=EM DV BV s;clear q0 q1 q2 q3 kr kt lr lt hb3 hb12 HW2;by_cases hn1:0<Aj DV BV s
 ·have HR:Hid (R=(⟨1,s.take (Aj DV BV s)⟩,Aj DV BV s)):=by show _=_;rw[<-hR];unfold Ah;rw[if_pos hn1]
  clear hR
  generalize Aj DV BV s=n at *
  have d1:(0:Int)<(n:Int):=by omega
  have d2:(n:Int)<=(s.length:Int):=by omega
  have q0:=kr3.cell 0;simp at q0;obtain⟨⟨y0,y1⟩,yf0,yf1⟩:=kt3.two;have lt3:=kt3.lt;have lr3:=kr3.lt;go_wp2_with fail;go_region;go_wp2_with fail;refine bodyPost_ret (v:=.tuple #[.agg #[.int .i64 1,.string ⟨(s.take n).toArray⟩],.int .i64 (n:Int)]) (by simp[results,Tryz.results95,go_sem, *]) rfl ?_;rw[HR.out];exact⟨rfl,by exact bl⟩
 ·have hz0:Aj DV BV s=0:=by omega
  have HR:Hid (R=if 0<Aj BA BA s then(⟨2,s.take (Aj BA BA s)⟩,Aj BA BA s)else MN s):=by
   show _=_;rw[<-hR];unfold Ah;rw[if_neg hn1];cases s<;>rfl
  rw[hz0];clear hR hn1 hz0 hl1;go_wp2_with fail;rw[rounds_succ];obtain⟨w4,hw4⟩:∃w4,w3.alloc (.cells #[.int .i64 2,.int .i64 19,.func (.func 206) #[] #[],.func (.func 206) #[] #[]] 183)=w4:=⟨_,rfl⟩;have kr:Blk w4 w3.heap.size 183 #[.int .i64 2,.int .i64 19,.func (.func 206) #[] #[],.func (.func 206) #[] #[]]:=by rw[<-hw4];exact Blk.new _ _ _
  have hb34:Below w3.heap.size w3 w4:=by rw[<-hw4];exact bl
  have kt:=kt3.below hb34 kt3.lt;have hbw4:Below w.heap.size w w4:=hbw3.trans (hb34.mono hz3);have hz4:=hbw4.size;have HW4:=Lib.hid hw4;clear hw4 kt3 kr3;have q0:=kr.cell 0;have q1:=kr.cell 1;have q2:=kr.cell 2;have q3:=kr.cell 3;simp at q0 q1 q2 q3;have lr:=kr.lt;have lt:=kt.lt;go_upto_region 4 with fail
  rw[HW4.out];go_wp2_with fail;refine(Lu s _ hs).mono ?_;rintro e w5 ⟨rfl,hb5⟩;have kr5:=kr.below hb5 lr;have kt5:=kt.below hb5 lt;have hbw5:Below w.heap.size w w5:=hbw4.trans (hb5.mono hz4);have hz5:=hbw5.size;have hl1:=EM BA BA s;clear q0 q1 q2 q3 kr kt lr lt hb5 hb34 HW4;obtain⟨⟨y0,y1⟩,yf0,yf1⟩:=kt5.two;have lt5:=kt5.lt;by_cases hn1:0<Aj BA BA s
  ·have HR2:Hid (R=(⟨2,s.take (Aj BA BA s)⟩,Aj BA BA s)):=by show _=_;rw[HR.out,if_pos hn1]
   clear HR
   generalize Aj BA BA s=n at *
   have d1:(0:Int)<(n:Int):=by omega
   have d2:(n:Int)<=(s.length:Int):=by omega
   have q0:=kr5.cell 0;simp at q0;have lr5:=kr5.lt;go_wp2_with fail;go_region;go_wp2_with fail;refine bodyPost_ret (v:=.tuple #[.agg #[.int .i64 2,.string ⟨(s.take n).toArray⟩],.int .i64 (n:Int)]) (by simp[results,Tryz.results95,go_sem, *]) rfl ?_;rw[HR2.out];exact⟨rfl,by exact bl⟩
  ·have hz0:Aj BA BA s=0:=by omega
   have HR2:Hid (R=MN s):=by show _=_;rw[HR.out,if_neg hn1]
   rw[hz0];clear HR hn1 hz0 hl1;obtain⟨c,r,rfl⟩:∃c r,s=c::r:=by
    cases s with
    |nil=>simp at h0
    |cons c r=>exact⟨c,r,rfl⟩
   have hr:r.length<=999999:=by simp at hs;omega
   go_wp2_with fail;rw[rounds_succ];by_cases h39:c.toNat=39
   ·have t1:((c.toNat:Int)==39)=true:=by rw[h39];rfl
    have HR3:Hid (R=Fa (c::r)):=by show _=_;rw[HR2.out];simp only[MN];rw[if_pos h39]
    clear HR2 h39;have hM5:=HM.out.below hbw5 rfl;go_wp2_with fail;refine(Qi (c::r) _ hs hM5).mono ?_;rw[<-HR3.out];rintro e w6 ⟨rfl,hb6⟩;have kt6:=kt5.below hb6 lt5;have hz6:=hb6.size;clear y0 y1 yf0 yf1;obtain⟨⟨y0,y1⟩,yf0,yf1⟩:=kt6.two;have lt6:=kt6.lt;go_wp2_with fail;refine bodyPost_ret (v:=.tuple #[.agg #[.int .i64 R.1.k,.string ⟨R.1.s.toArray⟩],.int .i64 (R.2:Int)]) (by simp[results,Tryz.results95,go_sem, *]) rfl ?_;exact⟨rfl,by exact bl⟩
   ·have t1:((c.toNat:Int)==39)=false:=by rw[beq_eq_false_iff_ne];omega
    have HR3:Hid (R=(⟨4,[c]⟩,1)):=by show _=_;rw[HR2.out];simp only[MN];rw[if_neg h39]
    clear HR2 h39;go_wp2_with fail;refine bodyPost_ret (v:=.tuple #[.agg #[.int .i64 4,.string ⟨[c].toArray⟩],.int .i64 1]) (by simp[results,Tryz.results95,go_sem, *]) rfl ?_;rw[HR3.out];exact⟨rfl,by exact bl⟩
end
section
open Go.RowKit
attribute [local go_sem] ByteArray.extract_mk Ak AY
attribute [local go_sem ↓] Go.wp_at_zero Go.wp_at_succ
theorem ax:(Tryz.prog.info? 128).map (λi=>(i.zero,i.size,i.bytes))=some (some (.agg #[.int .i64 0,.string ⟨#[]⟩]),2,24):=by kernel_rfl
theorem Jc:∀(s:List UInt8) (n k:Nat),DN s n=some k->n<=k/\k<n+s.length
 |[],n,k,h=>by simp[DN]at h
 |[c],n,k,h=>by
  unfold DN at h;split at h
  ·cases h;simp
  ·cases h
 |c::d::r,n,k,h=>by
  unfold DN at h;split at h
  ·split at h
   ·have:=Jc r (n+2) k h;simp only[List.length_cons];omega
   ·cases h;simp only[List.length_cons];omega
  ·have:=Jc (d::r) (n+1) k h;simp only[List.length_cons]at this ⊢;omega
theorem Tm(s:List UInt8):(Fa s).2<=s.length/\(EG (Fa s).1=true->1<=(Fa s).2):=by
 rw[EC];cases h:DN (s.drop 1) 1 with
 |none=>exact⟨Nat.zero_le _,λhm=>by cases hm⟩
 |some n=>
  have:=Jc _ _ _ h;rw[List.length_drop]at this;simp only[FD];exact⟨by omega,λ_=>by omega⟩
theorem EN(s:List UInt8)(h0:0<s.length):(Ah s).2<=s.length/\(EG (Ah s).1=true->1<=(Ah s).2):=by
 unfold Ah;split
 ·exact⟨EM _ _ _,λ_=>by assumption⟩
 ·split
  ·exact⟨EM _ _ _,λ_=>by assumption⟩
  ·cases s with
   |nil=>simp at h0
   |cons c r=>
    simp only;split
    ·exact Tm _
    ·exact⟨by simp,λ_=>Nat.le_refl _⟩
theorem IM:∀s:List UInt8,(DJ s).length<=s.length
 |[]=>Nat.le_refl _
 |[_]=>Nat.le_refl _
 |c::d::r=>by
  unfold DJ;have h1:=IM r;have h2:=IM (d::r);split
  ·simp only[List.length_cons];omega
  ·simp only[List.length_cons]at h2 ⊢;omega
theorem Rq(s:List UInt8):(Ah s).1.s.length<=s.length+1:=by
 unfold Ah;split
 ·simp only[List.length_take];omega
 ·split
  ·simp only[List.length_take];omega
  ·cases s with
   |nil=>simp
   |cons c r=>
    simp only;split
    ·rw[EC];cases h:DN ((c::r).drop 1) 1 with
     |none=>simp[FD]
     |some n=>
      simp only[FD];have:=IM (((c::r).take n).drop 1);rw[List.length_drop,List.length_take]at this;omega
    ·simp
def Ib:Option (List Tok)->List Tok×Int
 |none=>([],2)
 |some l=>(l,0)
theorem YY(l:List Tok)(t:Tok):(l++[t]).flatMap Tok.cells=l.flatMap Tok.cells++t.cells:=by simp
theorem N9(s:List UInt8)(w:World)(hs:s.length<=900000)(hM:Kq w):Calls Tryz.prog 55 #[.string ⟨s.toArray⟩] w (Zp (Ib (Ii s)).1 (Ib (Ii s)).2 w):=by
 obtain⟨i0,hi0,zi0,zi1,zi2⟩:=info_parts ax;obtain⟨R,hR⟩:∃R,Ii s=R:=⟨_,rfl⟩;rw[hR];have HR:Hid (LX s.length (s.drop 0) []=R):=hR;have HM:=Lib.hid hM;clear hM hR;go_in
 go_wp2;go_loopw [4,5] (λv i wr=>∃(j n:Nat) (l:List Tok),j<=s.length/\s.length - j<=n/\l.length<=400/\i=.int .i64 j/\wr.ownsRow w.heap.size 128 2 v l.length (l.flatMap Tok.cells)/\Below w.heap.size w wr/\Hid (LX n (s.drop j) l=R)) (λ_ i _=>s.length - (intOf i).toNat)
 case atStart=>exact⟨0,s.length,[],by omega,by omega,by simp,rfl,World.ownsRow_nil _ _ _ _,Below.refl _ _,HR⟩
 case round=>
  obtain⟨j,n,l,hj,hn,hl,rfl,hown,hbr,HJ⟩:=hrel;have hzr:=hbr.size;by_cases hlt:j<s.length
  ·obtain⟨c,hc⟩:∃c,s[j]? = some c:=⟨_,List.getElem?_eq_getElem hlt⟩;have hcg:s[j]=c:=by rw[List.getElem?_eq_getElem hlt]at hc;exact Option.some.inj hc
   have hdr:s.drop j=c::s.drop (j+1):=by rw[List.drop_eq_getElem_cons hlt,hcg]
   obtain⟨n',rfl⟩:∃n',n=n'+1:=⟨n - 1,by omega⟩;have hJ:=HJ.out;rw[hdr]at hJ;cases hb:CP c
   ·have b1:((c.toNat:Int)==32)=false:=by
     rw[beq_eq_false_iff_ne];intro e;have:CP c=true:=by unfold CP;simp[show c.toNat=32 by omega]
     rw[this]at hb;cases hb
    have b2:((c.toNat:Int)==10)=false:=by
     rw[beq_eq_false_iff_ne];intro e;have:CP c=true:=by unfold CP;simp[show c.toNat=10 by omega]
     rw[this]at hb;cases hb
    have hJ2:(if EG (Ah (s.drop j)).1&&decide (l.length≠400)then LX n' ((s.drop j).drop (Ah (s.drop j)).2) (l++[(Ah (s.drop j)).1])else none)=R:=by
     rw[hdr,<-hJ];simp[LX,hb]
    have hdl:(s.drop j).length<=1000000:=by rw[List.length_drop];omega
    have hdp:0<(s.drop j).length:=by rw[List.length_drop];omega
    obtain⟨hf1,hf2⟩:=EN (s.drop j) hdp;rw[List.length_drop]at hf1;rw[List.drop_drop]at hJ2;have HDL:=Lib.hid hdl;have HDP:=Lib.hid hdp;obtain⟨F,hF⟩:∃F,Ah (s.drop j)=F:=⟨_,rfl⟩;rw[hF]at hJ2 hf1 hf2;have HF:=Lib.hid hF;have HJ2:=Lib.hid hJ2;have HF2:=Lib.hid hf2;clear hb hJ hdr hc hJ2 hdl hdp hF hf2 HJ;have hMr:=HM.out.below hbr rfl;go_wp2_with fail;rw[show List.take (s.length - j) (List.drop j s)=s.drop j from List.take_of_length_le (by simp)];refine(UO (s.drop j) _ HDL.out HDP.out hMr).mono ?_;rw[HF.out];rintro e w1 ⟨rfl,hb1⟩;have hfs:F.1.s.length<=1000000:=by
     have:=Rq (s.drop j);rw[HF.out]at this;rw[List.length_drop]at this;omega
    obtain⟨w2,hw2⟩:∃w2,w1.alloc (.cells #[.int .i64 F.1.k,.string ⟨F.1.s.toArray⟩] 128)=w2:=⟨_,rfl⟩;have k2:Blk w2 w1.heap.size 128 #[.int .i64 F.1.k,.string ⟨F.1.s.toArray⟩]:=by rw[<-hw2];exact Blk.new _ _ _
    have hb12:Below w1.heap.size w1 w2:=by rw[<-hw2];exact bl
    have hbr2:Below wr.heap.size wr w2:=hb1.trans (hb12.mono hb1.size);have HW2:=Lib.hid hw2;clear hw2 hb1 hMr;have l2:=k2.lt;obtain⟨⟨y0,y1⟩,_⟩:=k2.two;go_upto_region 7 with fail
    rw[HW2.out];clear HW2;go_wp2_with fail;refine(Jt F.1.k F.1.s w2 hfs).mono ?_;rintro e w3 ⟨rfl,hb3⟩;have k3:=k2.below hb3 l2;have l3:=k3.lt;have hbr3:Below wr.heap.size wr w3:=hbr2.trans (hb3.mono hbr2.size);have hbw3:Below w.heap.size w w3:=hbr.trans (hbr3.mono hzr);have hz3:=hbw3.size;have hown3:=CJ hown hbr3;obtain⟨A4,c4,hA4,hc1,hc2,_⟩:=TkS.own hown3;clear y0 y1 hb12 k2 l2 hbr2 hb3 hown hfs;obtain⟨⟨y0,y1⟩,_⟩:=k3.two;obtain⟨m,hm⟩:∃m,EG ⟨F.1.k,F.1.s⟩=m:=⟨_,rfl⟩;rw[hm];have hmm:EG F.1=m:=hm;rw[hmm]at HJ2 HF2;clear hm hmm;subst hA4;cases m
    ·have HJ3:Hid (R=none):=by show _=_;rw[<-HJ2.out];rfl
     clear HJ2 HF2;go_wp2_with fail;go_ret2;rw[HJ3.out];exact⟨none,0,rfl,Nat.le_refl _,Nat.zero_le _,TkF.nil,hbw3⟩
    ·have hm1:=HF2.out rfl;by_cases h400:l.length=400
     ·have e400:((l.length:Int)==400)=true:=by rw[h400];rfl
      have HJ3:Hid (R=none):=by show _=_;rw[<-HJ2.out];simp[h400]
      clear HJ2 HF2 h400;go_wp2_with fail;go_ret2;rw[HJ3.out];exact⟨none,0,rfl,Nat.le_refl _,Nat.zero_le _,TkF.nil,hbw3⟩
     ·have e400:((l.length:Int)==400)=false:=by rw[beq_eq_false_iff_ne];omega
      have HJ3:Hid (LX n' (s.drop (j+F.2)) (l++[F.1])=R):=by show _=_;rw[<-HJ2.out];simp[h400]
      clear HJ2 HF2;go_wp2_with (at_builtin;refine wpList_append_own _ rfl _ _ 91 rfl w.heap.size 128 i0 _ 2 24 Tryz.underlying91 hi0 zi0 zi1 zi2 rfl (by decide) _ _ _ rfl (hown3.alloc _) ⟨w3.heap.size,0,none⟩ 1 1 F.1.cells rfl rfl ?c1 ?c2 ?c3 ?c4 ?c5 ?_)
      case c1=>
       exact World.news_of_block (cs:=#[.int .i64 F.1.k,.string ⟨F.1.s.toArray⟩]) (t:=128) (fr:=(0,0)) (heap_alloc_new w3 _)
      case c2=>exactλu hu=>Zx [F.1] u (by simpa using hu)
      case c3=>unfold maxLen;omega
      case c4=>omega
      case c5=>simp;omega
      intro v' w4 hown4 hg4 _;go_wp2;go_roundw
      case rel=>
       refine⟨j+F.2,n',l++[F.1],by omega,by omega,by simp;omega,by go_num, ?_, ?_,HJ3⟩
       ·rw[YY];simpa using hown4
       ·refine Below.grown (w:=w3.alloc (.cells #[.int .i64 F.1.k,.string ⟨F.1.s.toArray⟩] 128)) ?_ hg4 (by simp;omega) (λk hk=>(hown3.lt k hk).1);exact bl
      case measure=>simp[intOf];omega
   ·have hJ2:LX n' (s.drop (j+1)) l=R:=by rw[<-hJ];simp[LX,hb]
    have HJ2:=Lib.hid hJ2;have b0:((c.toNat:Int)==32)=true\/(((c.toNat:Int)==32)=false/\((c.toNat:Int)==10)=true):=by
     unfold CP at hb;simp only[Bool.or_eq_true,beq_iff_eq]at hb ⊢;rcases hb with h|h
     ·left;omega
     ·right;exact⟨by rw[beq_eq_false_iff_ne];omega,by omega⟩
    clear hb hJ hJ2 hdr hc HJ;rcases b0 with b1|⟨b1,b2⟩
    all_goals
     go_wp2_with fail;go_roundw
     case rel=>exact⟨j+1,n',l,by omega,by omega,hl,by go_num,hown,hbr,HJ2⟩
     case measure=>simp[intOf];omega
  ·have hd:s.drop j=[]:=List.drop_of_length_le (by omega);have hJ:=HJ.out;rw[hd]at hJ;have HJ2:Hid (R=some l):=by show _=_;rw[<-hJ];cases n<;>rfl
   have hb:¬(j:Int)<(s.length:Int):=by omega
   clear hJ hd HJ;go_wp2_with fail;go_ret2;obtain⟨A,c,rfl,h1,h2,h3⟩:=TkS.own hown;rw[HJ2.out];exact⟨A,c,rfl,h1,h2,h3,hbr⟩
end
section
open Go.RowKit
def KT:Nat->List UInt8->Option (List Tok)
 |_,[]=>some []
 |0,_::_=>none
 |n+1,c::r=>if CP c then KT n r else if EG (Ah (c::r)).1 then(KT n ((c::r).drop (Ah (c::r)).2)).map ((Ah (c::r)).1::·)else none
def lim(l:Option (List Tok)):Option (List Tok):=l.bind λt=>if t.length<=400 then some t else none
theorem LV:∀(n:Nat) (s:List UInt8) (l:List Tok),l.length<=400->LX n s l=(KT n s).bind λt=>if l.length+t.length<=400 then some (l++t)else none
 |n,[],l,hl=>by
  have h1:LX n [] l=some l:=by cases n<;>rfl
  have h2:KT n []=some []:=by cases n<;>rfl
  rw[h1,h2];simp[hl]
 |0,_::_,l,_=>rfl
 |n+1,c::r,l,hl=>by
  unfold LX KT;cases hb:CP c
  ·simp only[Bool.false_eq_true,if_false];cases hm:EG (Ah (c::r)).1
   ·simp
   ·by_cases h4:l.length=400
    ·simp only[h4,ne_eq,not_true_eq_false,decide_false,Bool.and_false,Bool.false_eq_true,if_false,if_true];cases KT n ((c::r).drop (Ah (c::r)).2)with
     |none=>rfl
     |some t=>simp
    ·have h5:decide (l.length≠400)=true:=by simpa using h4
     simp only[h5,Bool.and_true,if_true];rw[LV n _ (l++[(Ah (c::r)).1]) (by simp;omega)];cases KT n ((c::r).drop (Ah (c::r)).2)with
     |none=>rfl
     |some t=>
      simp only[Option.map_some,Option.bind_some,List.length_append,List.length_cons,List.length_nil,List.append_assoc,List.cons_append,List.nil_append];congr 1;rw[show l.length+(0+1)+t.length=l.length+(t.length+1) by omega]
  ·simp only[if_true];exact LV n r l hl
theorem LU:∀(n m:Nat) (s:List UInt8),s.length<=n->s.length<=m->KT n s=KT m s
 |n,m,[],_,_=>by cases n<;>cases m<;>rfl
 |0,_,_::_,h,_=>by simp at h
 |_+1,0,_::_,_,h=>by simp at h
 |n+1,m+1,c::r,h1,h2=>by
  simp only[List.length_cons]at h1 h2;unfold KT;cases hb:CP c
  ·simp only[Bool.false_eq_true,if_false];cases hm:EG (Ah (c::r)).1
   ·simp
   ·simp only[if_true];have hge:=(EN (c::r) (by simp)).2 hm;have hl:((c::r).drop (Ah (c::r)).2).length<=r.length:=by rw[List.length_drop,List.length_cons];omega
    rw[LU n m _ (by omega) (by omega)]
  ·simp only[if_true];exact LU n m r (by omega) (by omega)
def DW(s:List UInt8):Option (List Tok):=KT s.length s
theorem cutT_toks(s:List UInt8):Ii s=lim (DW s):=by
 unfold Ii DW lim;rw[LV _ _ _ (by simp)];simp
theorem QL:DW []=some []:=rfl
theorem Dq(c:UInt8)(r:List UInt8)(h:CP c=true):DW (c::r)=DW r:=by
 unfold DW;rw[List.length_cons]
 conv=>lhs;unfold KT
 rw[h];rfl
theorem E9(c:UInt8)(r:List UInt8)(h:CP c=false)(hm:EG (Ah (c::r)).1=true):DW (c::r)=(DW ((c::r).drop (Ah (c::r)).2)).map ((Ah (c::r)).1::·):=by
 have hge:=(EN (c::r) (by simp)).2 hm;unfold DW;rw[List.length_cons]
 conv=>lhs;unfold KT
 rw[h,hm];simp only[Bool.false_eq_true,if_false,if_true];rw[LU r.length ((c::r).drop (Ah (c::r)).2).length _ (by rw[List.length_drop,List.length_cons];omega) (Nat.le_refl _)]
theorem J6(c:UInt8)(r:List UInt8)(h:CP c=false)(hm:EG (Ah (c::r)).1=false):DW (c::r)=none:=by
 unfold DW;rw[List.length_cons]
 conv=>lhs;unfold KT
 rw[h,hm];rfl
def Gap(t:List UInt8):Prop:=t=[]\/∃b r,t=b::r/\CP b=true
theorem G6{b:UInt8}(h:CP b=true):b.toNat=32\/b.toNat=10:=by
 unfold CP at h;simp only[Bool.or_eq_true,beq_iff_eq]at h;exact h
theorem FM{b:UInt8}(h:CP b=true):BV b=false/\DV b=false/\BA b=false:=by
 rcases G6 h with e|e<;>(unfold BV DV BA;rw[e];decide)
theorem Oe(g:UInt8->Bool)(r t:List UInt8)(ht:t=[]\/∃b q,t=b::q/\g b=false):((r++t).takeWhile g).length=(r.takeWhile g).length:=by
 induction r with
 |nil=>
  rcases ht with rfl|⟨b,q,rfl,hb⟩
  ·rfl
  ·simp[hb]
 |cons c r ih=>
  rw[List.cons_append,List.takeWhile_cons,List.takeWhile_cons];split
  ·simp[ih]
  ·rfl
theorem ET(f g:UInt8->Bool)(s t:List UInt8)(h0:0<s.length)(ht:t=[]\/∃b q,t=b::q/\g b=false):Aj f g (s++t)=Aj f g s:=by
 cases s with
 |nil=>simp at h0
 |cons c r=>
  show(if f c then 1+((r++t).takeWhile g).length else 0)=(if f c then 1+(r.takeWhile g).length else 0)
  rw[Oe g r t ht]
theorem JJ:∀(s t:List UInt8) (n k:Nat),(t=[]\/∃b q,t=b::q/\¬b.toNat=39)->DN s n=some k->DN (s++t) n=some k
 |[],t,n,k,_,h=>by simp[DN]at h
 |[c],t,n,k,ht,h=>by
  rcases ht with rfl|⟨b,q,rfl,hb⟩
  ·exact h
  ·unfold DN at h;split at h
   ·rename_i hc
    cases h
    simp[DN,hc,hb]
   ·cases h
 |c::d::r,t,n,k,ht,h=>by
  rw[List.cons_append,List.cons_append];unfold DN at h ⊢;by_cases hc:c.toNat=39
  ·rw[if_pos hc]at h ⊢;by_cases hd:d.toNat=39
   ·rw[if_pos hd]at h ⊢;exact JJ r t (n+2) k ht h
   ·rw[if_neg hd]at h ⊢;exact h
  ·rw[if_neg hc]at h ⊢;exact JJ (d::r) t (n+1) k ht h
theorem Nz:∀(t:List UInt8) (n:Nat),(∀b∈t,¬b.toNat=39)->DN t n=none
 |[],_,_=>rfl
 |[c],n,h=>by simp[DN,h c (by simp)]
 |c::d::r,n,h=>by
  unfold DN;rw[if_neg (h c (by simp))];exact Nz (d::r) (n+1) (λb hb=>h b (List.mem_cons_of_mem _ hb))
theorem LQ:∀(s t:List UInt8) (n:Nat),(∀b∈t,¬b.toNat=39)->DN s n=none->DN (s++t) n=none
 |[],t,n,ht,_=>Nz t n ht
 |[c],t,n,ht,h=>by
  have hc:¬c.toNat=39:=by intro e;simp[DN,e]at h
  exact Nz (c::t) n (λb hb=>by
   rcases List.mem_cons.1 hb with rfl|hb
   ·exact hc
   ·exact ht b hb)
 |c::d::r,t,n,ht,h=>by
  rw[List.cons_append,List.cons_append];unfold DN at h ⊢;by_cases hc:c.toNat=39
  ·rw[if_pos hc]at h ⊢;by_cases hd:d.toNat=39
   ·rw[if_pos hd]at h ⊢;exact LQ r t (n+2) ht h
   ·rw[if_neg hd]at h;cases h
  ·rw[if_neg hc]at h ⊢;exact LQ (d::r) t (n+1) ht h
theorem Gap.run{t:List UInt8}(h:Gap t):(t=[]\/∃b q,t=b::q/\BV b=false)/\(t=[]\/∃b q,t=b::q/\BA b=false)/\(t=[]\/∃b q,t=b::q/\¬b.toNat=39):=by
 rcases h with rfl|⟨b,r,rfl,hb⟩
 ·exact⟨.inl rfl,.inl rfl,.inl rfl⟩
 ·obtain⟨h1,_,h3⟩:=FM hb;exact⟨.inr ⟨b,r,rfl,h1⟩,.inr ⟨b,r,rfl,h3⟩,.inr ⟨b,r,rfl,by rcases G6 hb with e|e<;>omega⟩⟩
theorem Nv(c:UInt8)(r t:List UInt8)(ht:Gap t)(hm:EG (Ah (c::r)).1=true):Ah (c::r++t)=Ah (c::r):=by
 obtain⟨g1,g2,g3⟩:=ht.run;have e1:=ET DV BV (c::r) t (by simp) g1;have e2:=ET BA BA (c::r) t (by simp) g2;have l1:=EM DV BV (c::r);have l2:=EM BA BA (c::r);unfold Ah at hm ⊢;rw[e1,e2];split
 ·rw[List.take_append_of_le_length l1]
 ·rename_i h1
  rw[if_neg h1]at hm;split
  ·rw[List.take_append_of_le_length l2]
  ·rename_i h2
   rw[if_neg h2]at hm;simp only[List.cons_append]at hm ⊢;split
   ·rename_i hc
    rw[if_pos hc]at hm;rw[EC]at hm ⊢;rw[EC];cases he:DN ((c::r).drop 1) 1 with
    |none=>rw[he]at hm;cases hm
    |some k=>
     have hk:=Jc _ _ _ he;have h3:DN ((c::(r++t)).drop 1) 1=some k:=JJ _ t 1 k g3 he;rw[h3];simp only[FD];rw[List.length_drop]at hk;have:(c::(r++t)).take k=(c::r).take k:=by
      rw[<-List.cons_append];exact List.take_append_of_le_length (by omega)
     rw[this]
   ·rfl
theorem UN(c:UInt8)(r t:List UInt8)(ht:∀b∈t,CP b=true)(hm:EG (Ah (c::r)).1=false):EG (Ah (c::r++t)).1=false:=by
 have hg:Gap t:=by
  cases t with
  |nil=>exact .inl rfl
  |cons b q=>exact .inr ⟨b,q,rfl,ht b (by simp)⟩
 obtain⟨g1,g2,g3⟩:=hg.run;have e1:=ET DV BV (c::r) t (by simp) g1;have e2:=ET BA BA (c::r) t (by simp) g2;have l1:=EM DV BV (c::r);have l2:=EM BA BA (c::r);unfold Ah at hm ⊢;rw[e1,e2];split
 ·rename_i h1
  rw[if_pos h1]at hm;rw[List.take_append_of_le_length l1];exact hm
 ·rename_i h1
  rw[if_neg h1]at hm;split
  ·rename_i h2
   rw[if_pos h2]at hm;rw[List.take_append_of_le_length l2];exact hm
  ·rename_i h2
   rw[if_neg h2]at hm;simp only[List.cons_append]at hm ⊢;split
   ·rename_i hc
    rw[if_pos hc]at hm;rw[EC]at hm ⊢;cases he:DN ((c::r).drop 1) 1 with
    |none=>
     have h3:DN ((c::(r++t)).drop 1) 1=none:=LQ _ t 1 (λb hb=>by rcases G6 (ht b hb)with e|e<;>omega) he;rw[h3];rfl
    |some k=>
     have hk:=Jc _ _ _ he;have h3:DN ((c::(r++t)).drop 1) 1=some k:=JJ _ t 1 k g3 he;rw[he]at hm;rw[h3];simp only[FD]at hm ⊢;rw[List.length_drop]at hk;have:(c::(r++t)).take k=(c::r).take k:=by
      rw[<-List.cons_append];exact List.take_append_of_le_length (by omega)
     rw[this];exact hm
   ·rename_i hc
    rw[if_neg hc]at hm;exact hm
theorem XG(t:List UInt8)(ht:Gap t):∀(n:Nat) (s:List UInt8) (a:List Tok),s.length<=n->DW s=some a->DW (s++t)=(DW t).map (a++·):=by
 intro n
 induction n with
 |zero=>
  intro s a hs h;have:s=[]:=List.eq_nil_of_length_eq_zero (by omega);subst this;cases h
  cases hq:DW t<;>simp[hq]
 |succ n ih=>
  intro s a hs h;cases s with
  |nil=>cases h;cases hq:DW t<;>simp[hq]
  |cons c r=>
   simp only[List.length_cons]at hs;cases hb:CP c
   ·cases hm:EG (Ah (c::r)).1
    ·rw[J6 c r hb hm]at h;cases h
    ·have hge:=(EN (c::r) (by simp)).2 hm;have hle:=(EN (c::r) (by simp)).1;rw[E9 c r hb hm]at h;cases hq:DW ((c::r).drop (Ah (c::r)).2)with
     |none=>rw[hq]at h;cases h
     |some a'=>
      rw[hq]at h;cases h
      have hf:=Nv c r t ht hm;have h1:=ih ((c::r).drop (Ah (c::r)).2) a' (by rw[List.length_drop,List.length_cons];omega) hq;rw[List.cons_append]at hf ⊢;rw[E9 c (r++t) hb (by rw[hf];exact hm),hf,<-List.cons_append,List.drop_append_of_le_length hle,h1];cases DW t<;>simp
   ·rw[Dq c r hb]at h;rw[List.cons_append,Dq c _ hb];exact ih r a (by omega) h
theorem Jg:∀t:List UInt8,(∀b∈t,CP b=true)->DW t=some []
 |[],_=>rfl
 |b::r,h=>by rw[Dq b r (h b (by simp))];exact Jg r (λx hx=>h x (by simp[hx]))
theorem TI(s:List UInt8):∀t:List UInt8,(∀b∈t,CP b=true)->DW (t++s)=DW s
 |[],_=>rfl
 |b::r,h=>by rw[List.cons_append,Dq b _ (h b (by simp))];exact TI s r (λx hx=>h x (by simp[hx]))
theorem VM(t:List UInt8)(ht:∀b∈t,CP b=true):∀(n:Nat) (s:List UInt8),s.length<=n->DW s=none->DW (s++t)=none:=by
 have hg:Gap t:=by
  cases t with
  |nil=>exact .inl rfl
  |cons b q=>exact .inr ⟨b,q,rfl,ht b (by simp)⟩
 intro n
 induction n with
 |zero=>
  intro s hs h;have:s=[]:=List.eq_nil_of_length_eq_zero (by omega);subst this;cases h
 |succ n ih=>
  intro s hs h;cases s with
  |nil=>cases h
  |cons c r=>
   simp only[List.length_cons]at hs;cases hb:CP c
   ·cases hm:EG (Ah (c::r)).1
    ·rw[List.cons_append];exact J6 c _ hb (UN c r t ht hm)
    ·have hge:=(EN (c::r) (by simp)).2 hm;have hle:=(EN (c::r) (by simp)).1;rw[E9 c r hb hm]at h;cases hq:DW ((c::r).drop (Ah (c::r)).2)with
     |some a'=>rw[hq]at h;cases h
     |none=>
      have hf:=Nv c r t hg hm;have h1:=ih ((c::r).drop (Ah (c::r)).2) (by rw[List.length_drop,List.length_cons];omega) hq;rw[List.cons_append]at hf ⊢;rw[E9 c (r++t) hb (by rw[hf];exact hm),hf,<-List.cons_append,List.drop_append_of_le_length hle,h1];rfl
   ·rw[Dq c r hb]at h;rw[List.cons_append,Dq c _ hb];exact ih r (by omega) h
theorem toks_back(s t:List UInt8)(ht:∀b∈t,CP b=true):DW (s++t)=DW s:=by
 have hg:Gap t:=by
  cases t with
  |nil=>exact .inl rfl
  |cons b q=>exact .inr ⟨b,q,rfl,ht b (by simp)⟩
 cases h:DW s with
 |none=>exact VM t ht _ s (Nat.le_refl _) h
 |some a=>rw[XG t hg _ s a (Nat.le_refl _) h,Jg t ht];simp
theorem Jw(t:List UInt8)(ht:t=[]\/∃b q,t=b::q/\¬b.toNat=39):∀(s:List UInt8) (n:Nat),DN (Bi s++39::t) n=some (n+(Bi s).length)
 |[],n=>by
  rcases ht with rfl|⟨b,q,rfl,hb⟩
  ·simp[Bi,DN]
  ·simp[Bi,DN,hb]
 |c::r,n=>by
  by_cases hc:c=39
  ·subst hc;have e:Bi (39::r)=39::39::Bi r:=by simp[Bi]
   rw[e];have ih:=Jw t ht r (n+2);simp only[List.cons_append,List.length_cons];show DN (39::39::(Bi r++39::t)) n=_
   unfold DN;rw[if_pos (by rfl),if_pos (by rfl),ih];congr 1;omega
  ·have e:Bi (c::r)=c::Bi r:=by simp[Bi,hc]
   have hn:¬c.toNat=39:=λh=>hc (UInt8.toNat_inj.1 h)
   rw[e];have ih:=Jw t ht r (n+1);simp only[List.cons_append,List.length_cons];cases hq:Bi r++39::t with
   |nil=>simp at hq
   |cons d q=>
    rw[hq]at ih;unfold DN;rw[if_neg hn,ih];congr 1;omega
def MW(s:List UInt8):List UInt8:=[39]++Bi s++[39]
theorem Ro(s t:List UInt8)(ht:Gap t):Ah (MW s++t)=(⟨3,s⟩,(MW s).length):=by
 have hw:MW s++t=39::(Bi s++39::t):=by simp[MW]
 rw[hw];unfold Ah;have l1:Aj DV BV (39::(Bi s++39::t))=0:=rfl;have l2:Aj BA BA (39::(Bi s++39::t))=0:=rfl;rw[l1,l2];simp only[Nat.lt_irrefl,if_false];rw[if_pos (by rfl),EC];have he:DN ((39::(Bi s++39::t)).drop 1) 1=some (1+(Bi s).length):=Jw t ht.run.2.2 s 1;rw[he];simp only[FD];have h1:((39::(Bi s++39::t)).take (1+(Bi s).length)).drop 1=Bi s:=by
  rw[Nat.add_comm,List.take_succ_cons,List.drop_succ_cons,List.drop_zero,List.take_left'];rfl
 rw[h1,Oc];congr 1;simp[MW];omega
theorem VL(s t:List UInt8)(ht:Gap t)(hm:D5 2 0 s=true):DW (MW s++t)=(DW t).map (⟨3,s⟩::·):=by
 have hf:=Ro s t ht;have hw:MW s++t=39::(Bi s++[39]++t):=by simp[MW]
 have hd:(MW s++t).drop (MW s).length=t:=by simp
 rw[hw]at hf hd ⊢;rw[E9 39 _ (by decide) (by rw[hf];exact hm),hf];simp only;rw[hd]
end
end Go.Proofs.YtchilcchogcibaaGreatDoor
