/- (expr.counter).may and expr.May as plain functions; Expressions whose memory lies in blocks of a kind; caddislaw04.Cols; A variable of six cells is stored anew. -/
import Derived.Test.YtchilcchogcibaaGreatDoorFExFew
import Derived.Test.YtchilcchogcibaaGreatDoorFExpr1
set_option maxRecDepth 100000
set_option maxHeartbeats 4000000
namespace Go.Proofs.YtchilcchogcibaaGreatDoor
section
open Go.RowKit
attribute [local go_sem] ByteArray.extract_mk Ak AY
attribute [local go_sem ↓] Go.wp_at_zero Go.wp_at_succ CY CE
theorem But.after{p:Nat}{a w w':World}(h:But p a w)(hb:Below w.heap.size w w'):But p a w':=h.trans (But.of_below hb)
theorem But.alloc{p:Nat}{a w:World}(h:But p a w)(o:Obj):But p a (w.alloc o):=h.after ((Below.refl _ _).alloc (Nat.le_refl _) o)
theorem But.drew{p:Nat}{a w:World}(h:But p a w):But p a w.drew:=h.after (Below.drew (Below.refl _ _))
theorem But.set{p:Nat}{a w:World}(h:But p a w)(i:Nat)(u:Value):But p a (w.setCell ⟨p,i,none⟩ u):=by
 have hb:Below 0 w (w.setCell ⟨p,i,none⟩ u):=by exact bl
 exact h.trans ⟨hb.os,hb.tape,hb.output,hb.size,λk _ hp=>Below.heap_setCell w ⟨p,i,none⟩ u k hp⟩
theorem Blk.six{w:World}{g:Nat}{t:TypeId}{e:Ex}{A:Option Addr}{c:Nat}(h:Blk w g t (e.cells A c).toArray):
  w.cell? ⟨g,0,none⟩=some (.string ⟨e.op.toArray⟩)/\w.cell? ⟨g,1,none⟩=some (.int .i64 e.v.k)/\w.cell? ⟨g,2,none⟩=some (.int .i64 e.v.i)/\w.cell? ⟨g,3,none⟩=some (.string ⟨e.v.s.toArray⟩)/\w.cell? ⟨g,4,none⟩=some (.string ⟨e.s.toArray⟩)/\w.cell? ⟨g,5,none⟩=some (.slice A e.l.length c):=
 ⟨h.cell 0,h.cell 1,h.cell 2,h.cell 3,h.cell 4,h.cell 5⟩
theorem JI(e:Ex)(A:Option Addr)(c:Nat)(w:World){G:Prop}(k:∀w0:World,w.alloc (.cells (e.cells A c).toArray 30)=w0->Blk w0 w.heap.size 30 (e.cells A c).toArray->Below w.heap.size w w0->w.heap.size<=w0.heap.size->
  Hid (∀w':World,Below w0.heap.size w0 w'->(w'.cell? ⟨w.heap.size,0,none⟩=some (.string ⟨e.op.toArray⟩)/\w'.cell? ⟨w.heap.size,1,none⟩=some (.int .i64 e.v.k)/\w'.cell? ⟨w.heap.size,2,none⟩=some (.int .i64 e.v.i)/\w'.cell? ⟨w.heap.size,3,none⟩=some (.string ⟨e.v.s.toArray⟩)/\w'.cell? ⟨w.heap.size,4,none⟩=some (.string ⟨e.s.toArray⟩)/\w'.cell? ⟨w.heap.size,5,none⟩=some (.slice A e.l.length c)))->
  Hid (w.alloc (.cells (e.cells A c).toArray 30)=w0)->Hid (Below w.heap.size w w0)->G):G:=by
 have kq0:Blk (w.alloc (.cells (e.cells A c).toArray 30)) w.heap.size 30 (e.cells A c).toArray:=Blk.new _ _ _;have hb0:Below w.heap.size w (w.alloc (.cells (e.cells A c).toArray 30)):=by exact bl
 exact k _ rfl kq0 hb0 hb0.size (λw' h=>(kq0.below h kq0.lt).six) rfl hb0
theorem Blk.one{w:World}{g:Nat}{t:TypeId}{x:Value}(h:Blk w g t #[x]):w.cell? ⟨g,0,none⟩=some x/\w.frozen? ⟨g,0,none⟩=false:=⟨h.cell 0,h.frozen 0⟩
theorem Yw:∀(n d c:Nat) (e:Ex),(D7 n d c e).1=true->(D7 n d c e).2<=60:=by
 intro n
 induction n with
 |zero=>
  intro d c e;unfold D7;split
  ·intro h;cases h
  ·rename_i h1
   simp only[Bool.or_eq_true,decide_eq_true_eq,not_or]at h1;have:=h1.1.2;intro _;split
   ·simp only;omega
   ·split
    ·simp only;omega
    ·split
     ·simp only;omega
     ·simp only;omega
 |succ n ih=>
  intro d c e;have hfold:∀(l:List Ex) (c':Nat),c'<=60->(EP (D7 n (d+1)) c' l).1=true->(EP (D7 n (d+1)) c' l).2<=60:=by
   intro l
   induction l with
   |nil=>intro c' hc _;exact hc
   |cons x r ihl=>
    intro c' hc;unfold EP;split
    ·rename_i hx
     exact ihl _ (ih _ _ _ hx)
    ·intro h;cases h
  unfold D7;split
  ·intro h;cases h
  ·rename_i h1
   simp only[Bool.or_eq_true,decide_eq_true_eq,not_or]at h1;have:=h1.1.2;split
   ·intro _;simp only;omega
   ·split
    ·intro _;simp only;omega
    ·split
     ·intro h;cases h
     ·exact hfold _ _ (by omega)
def QR(n d c:Nat)(l:List Ex):Bool×Nat:=match n with|0=>(true,c)|n+1=>EP (D7 n (d+1)) c l
theorem Yx(n d k:Nat)(e:Ex)(h12:¬12<d)(h60:¬60<k+1)(hpt:(e.l.length:Int)=Dx e.op):D7 n d k e=if e.op=CU then(decide (e.s=[])&&D5 e.v.k e.v.i e.v.s,k+1)
  else if e.op=DC then(Eu e.v&&D9 e.s&&!CZ e.s,k+1)
  else if !Eu e.v||!decide (e.s=[])then(false,k+1)
  else QR n d (k+1) e.l:=by
 unfold D7;simp only[h12,h60,hpt,decide_true,decide_false,Bool.not_true,Bool.or_self,Bool.false_eq_true,if_false];rfl
def AHH(R:Bool×Nat)(p:Nat)(w:World)(en:Ending)(w':World):Prop:=en=.returned (.bool R.1)/\Blk w' p 159 #[.int .i64 (R.2:Nat)]/\But p w w'
def AHJ(n:Nat):Prop:=∀(e:Ex) (A:Option Addr) (c p d k:Nat) (w:World),e.fit 1000->ExS 1000 n w p A e.l->Blk w p 159 #[.int .i64 (k:Nat)]->d<=13->k<=60->
  Calls Tryz.prog 138 #[.pointer (some ⟨p,0,none⟩),.agg (e.cells A c).toArray,.int .i64 (d:Nat)] w (AHH (D7 n d k e) p w)
theorem RI(n:Nat)(ih:∀m,n=m+1->AHJ m):AHJ n:=by
 intro e A c p d k w hf hA hk hd hk60;have lp:=hk.lt;have HA:=Lib.hid hA;have HIH:=Lib.hid ih;obtain⟨hfi,hf1,hf2,hf3⟩:=hf;have HFI:=Lib.hid hfi;obtain⟨R,hR⟩:∃R,D7 n d k e=R:=⟨_,rfl⟩;rw[hR];have HR:=Lib.hid hR;clear hA ih hR hfi;obtain⟨w0,hw0⟩:∃w0,w.alloc (.cells (e.cells A c).toArray 30)=w0:=⟨_,rfl⟩;have kq0:Blk w0 w.heap.size 30 (e.cells A c).toArray:=by rw[<-hw0];exact Blk.new _ _ _
 have hb0:But p w w0:=by rw[<-hw0];exact(But.refl _ _).alloc _
 have kp0:Blk w0 p 159 #[.int .i64 (k:Nat)]:=by rw[<-hw0];exact hk.alloc _
 have HW:=Lib.hid hw0;clear hw0;obtain⟨x0,x1⟩:=kp0.one;go_in
 go_upto_region 1 with fail
 rw[HW.out];go_upto_region 2 with fail
 refine Hl (λwx=>Blk wx p 159 #[.int .i64 ((k:Int)+1)]/\Blk wx w.heap.size 30 (e.cells A c).toArray/\But p w wx) ⟨kp0.set_ 0 _,kq0.far (by show w.heap.size≠p;omega) _,hb0.set 0 _⟩ ?_;clear HW kq0 hb0 kp0 x0 x1 w0;rintro W ⟨kp,kq,hbw⟩;have lpW:=kp.lt;have lqW:=kq.lt;have HSH:Hid (∀w':World,Below W.heap.size W w'->(w'.cell? ⟨p,0,none⟩=some (.int .i64 ((k:Int)+1))/\w'.cell? ⟨w.heap.size,0,none⟩=some (.string ⟨e.op.toArray⟩)/\w'.cell? ⟨w.heap.size,5,none⟩=some (.slice A e.l.length c))):=
  λw' h=>⟨(kp.below h lpW).one.1,(kq.below h lqW).six.1,(kq.below h lqW).six.2.2.2.2.2⟩
 by_cases h12:12<d
 ·have HF:Hid (R=(false,k+1)):=by show _=_;rw[<-HR.out];unfold D7;simp[h12]
  have b1:(12:Int)<(d:Int):=by omega
  refine rgn HSH λhHeld=>?_
  refine tS [0,1,2] ?_;iterate 3(refine tC ?_;refine ap ?_)
  refine tN ?_;refine tS [3,4,5,6,7] ?_;iterate 5(refine tX ?_;refine ap ?_)
  refine tN ?_;refine tS [8,9] ?_;iterate 2(refine tC ?_;refine ap ?_)
  refine tN ?_;refine tS [10,11,12,13,14,15,16] ?_;iterate 7(refine tX ?_;refine ap ?_)
  refine tN ?_;refine tS [17] (tC ?_);refine ap (tN ?_);refine wpAnyH_done (by kernel_rfl) ?_ _;go_wp2_with fail;go_ret;exact⟨by rw[HF.out];rfl,by rw[HF.out];exact kp,hbw.drew⟩
 have b1:¬(12:Int)<(d:Int):=by omega
 by_cases h60:60<k+1
 ·have HF:Hid (R=(false,k+1)):=by show _=_;rw[<-HR.out];unfold D7;simp[h60]
  have b2:(60:Int)<(k:Int)+1:=by omega
  refine rgn HSH λhHeld=>?_
  refine tS [0,1,2,3,4,5,6,7,8,9] ?_;iterate 10(refine tC ?_;refine ap ?_)
  refine tN ?_;refine tS [10,11,12,13,14,15,16] ?_;iterate 7(refine tX ?_;refine ap ?_)
  refine tN ?_;refine tS [17] (tC ?_);refine ap (tN ?_);refine wpAnyH_done (by kernel_rfl) ?_ _;go_wp2_with fail;go_ret;exact⟨by rw[HF.out];rfl,by rw[HF.out];exact kp,hbw.drew⟩
 have b2:¬(60:Int)<(k:Int)+1:=by omega
 have HPT:Hid (∀w1:World,Calls Tryz.prog 192 #[.string ⟨e.op.toArray⟩] w1 λen w'=>en=.returned (.int .i64 (Dx e.op))/\w1=w'):=λw1=>Vp e.op w1
 by_cases hpt:(e.l.length:Int)=Dx e.op
 ·obtain⟨P,hP⟩:∃P,Dx e.op=P:=⟨_,rfl⟩;have HP:=Lib.hid hP;have bp:((e.l.length:Int) != P)=false:=by rw[<-hP];simp[hpt]
  have hR2:(if e.op=CU then(decide (e.s=[])&&D5 e.v.k e.v.i e.v.s,k+1)
    else if e.op=DC then(Eu e.v&&D9 e.s&&!CZ e.s,k+1)
    else if !Eu e.v||!decide (e.s=[])then(false,k+1)
    else QR n d (k+1) e.l)=R:=by
   rw[<-HR.out];exact(Yx n d k e h12 h60 hpt).symm
  have HR2:=Lib.hid hR2;have hl2:e.l.length<=2:=by
   have:Dx e.op<=2:=by unfold Dx;split<;>(try split)<;>(try split)<;>omega
   omega
  clear hR2 hpt hP;refine rgn HSH λhHeld=>?_
  refine tS [0,1,2,3,4,5,6,7,8,9,10,11,12,13,14] ?_;iterate 15(refine tC ?_;refine ap ?_)
  refine tN ?_;refine rdy 15 λK hK=>?_
  go_simp;refine(HPT.out _).mono ?_<;>rw[HP.out]<;>rintro en w7 ⟨rfl,rfl⟩
  go_wp2_with fail;refine hK.out _ _ (HSH.out _ (by exact bl)) λhHeld=>?_
  clear hK K;refine ap ?_;refine tS [16,17] ?_;iterate 2(refine tC ?_;refine ap ?_)
  refine tN ?_;refine wpAnyH_done (by kernel_rfl) ?_ _;have kp1:Blk W.drew p 159 #[.int .i64 ((k:Int)+1)]:=kp.drew;have kq1:Blk W.drew w.heap.size 30 (e.cells A c).toArray:=kq.drew;have hbw1:But p w W.drew:=hbw.drew;clear HSH kp kq hbw lpW lqW
  generalize W.drew=W1 at *
  have lpW:=kp1.lt;have lqW:=kq1.lt;obtain⟨q0,q1,q2,q3,q4,q5⟩:=kq1.six;have hzv:veq ⟨e.v.k,e.v.i,e.v.s⟩ ⟨0,0,[]⟩=Eu e.v:=by unfold veq Eu;cases e.v.s<;>simp
  by_cases hL:e.op=CU
  ·have eL:(e.op==[108,105,116])=true:=by rw[hL];rfl
   have hR3:(decide (e.s=[])&&D5 e.v.k e.v.i e.v.s,k+1)=R:=by rw[<-HR2.out,if_pos hL]
   have HR3:=Lib.hid hR3;clear hR3 hL HR2 hzv;by_cases hs0:e.s=[]
   ·have es:(e.s==[])=true:=by simpa using hs0
    have HS:=Lib.hid hs0;clear hs0;go_wp2_with fail;refine(Ep e.v.k e.v.i e.v.s _).mono ?_;rintro en w7 ⟨rfl,hb7⟩;go_wp2_with fail;go_ret;exact⟨by rw[<-HR3.out,HS.out];simp,by rw[<-HR3.out];exact kp1.below hb7 lpW,hbw1.after hb7⟩
   ·have es:(e.s==[])=false:=by simpa using hs0
    have HS:=Lib.hid hs0;clear hs0;go_wp2_with fail;go_ret;exact⟨by rw[<-HR3.out];simp[HS.out],by rw[<-HR3.out];exact kp1,hbw1⟩
  have eL:(e.op==[108,105,116])=false:=by rw[beq_eq_false_iff_ne];exact hL
  have hR3:=HR2.out;rw[if_neg hL]at hR3;clear HR2 hL;by_cases hC:e.op=DC
  ·have eC:(e.op==[99,111,108])=true:=by rw[hC];rfl
   rw[if_pos hC]at hR3;have HR3:=Lib.hid hR3;clear hR3 hC;cases hz:Eu e.v
   ·rw[hz]at hzv HR3;clear hz;go_wp2_with fail;go_ret;exact⟨by rw[<-HR3.out];rfl,by rw[<-HR3.out];exact kp1,hbw1⟩
   ·rw[hz]at hzv HR3;clear hz;go_wp2_with fail;refine(PN e.s _ (by omega)).mono ?_;rintro en w7 ⟨rfl,hb7⟩;have kp7:=kp1.below hb7 lpW;have kq7:=kq1.below hb7 lqW;have hbw7:=hbw1.after hb7;clear q0 q1 q2 q3 q4 q5;obtain⟨q0,q1,q2,q3,q4,q5⟩:=kq7.six;cases hn:D9 e.s
    ·rw[hn]at HR3;clear hn;go_wp2_with fail;go_ret;exact⟨by rw[<-HR3.out];rfl,by rw[<-HR3.out];exact kp7,hbw7⟩
    ·rw[hn]at HR3;clear hn;go_wp2_with fail;refine(IW e.s _).mono ?_;rintro en w8 ⟨rfl,rfl⟩;go_wp2_with fail;go_ret;exact⟨by rw[<-HR3.out];simp,by rw[<-HR3.out];exact kp7,hbw7⟩
  have eC:(e.op==[99,111,108])=false:=by rw[beq_eq_false_iff_ne];exact hC
  rw[if_neg hC]at hR3;clear hC;by_cases hzs:Eu e.v=true/\e.s=[]
  ·have es:(e.s==[])=true:=by simpa using hzs.2
   have es2:(e.s != [])=false:=by simp[hzs.2]
   rw[if_neg (by simp[hzs])]at hR3;rw[hzs.1]at hzv;have HR3:=Lib.hid hR3;clear hR3 hzs;have hA1:=HA.out.below n (hbw1.below (by omega));have HA1:=Lib.hid hA1;clear hA1;go_wp2_with fail;go_loopw [75] (λi wr=>∃j k':Nat,j<=e.l.length/\i=.int .i64 j/\k'<=60/\Blk wr p 159 #[.int .i64 (k':Nat)]/\Blk wr w.heap.size 30 (e.cells A c).toArray/\But p W1 wr/\Hid (QR n d k' (e.l.drop j)=R)) (λi _=>e.l.length - (intOf i).toNat)
   case atStart=>exact⟨0,k+1,by omega,rfl,by omega,kp1,kq1,But.refl _ _,HR3.out⟩
   case round=>
    obtain⟨j,k',hj,rfl,hk',kpr,kqr,hbr,HJ⟩:=hrel;have hzr:=hbr.size;have lpr:=kpr.lt;by_cases hlt:j<e.l.length
    ·have hA2:=HA1.out;cases n with
     |zero=>rw[show e.l=[]from hA2]at hlt;simp at hlt
     |succ m=>
      have hA3:ExS 1000 (m+1) wr p A e.l:=hA2.below _ (hbr.below (by omega));obtain⟨b1,o1,x,A',c',rfl,hbB1,hv,hfx,hxc,hxm,⟨c0,c1,c2,c3,c4,c5⟩,hx⟩:=hA3.at_ hlt;have hJ:=HJ.out;have hdr:e.l.drop j=x::e.l.drop (j+1):=by
       obtain⟨hj',rfl⟩:=List.getElem?_eq_some_iff.1 hv;exact List.drop_eq_getElem_cons hj'
      rw[hdr]at hJ;unfold QR at hJ;simp only at hJ;unfold EP at hJ;have HJ2:=Lib.hid hJ;have HFX:=Lib.hid hfx;have i1:(0:Int)<=(j:Int):=by omega
      have i2:(j:Int)<(e.l.length:Int):=by omega
      clear hJ hdr hv HJ hA2 hA3 hfx hxm q0 q1 q2 q3 q4 q5;obtain⟨w2,hw2⟩:∃w2,wr.alloc (.cells (x.cells A' c').toArray 30)=w2:=⟨_,rfl⟩;have kx2:Blk w2 wr.heap.size 30 (x.cells A' c').toArray:=by rw[<-hw2];exact Blk.new _ _ _
      have kp2:Blk w2 p 159 #[.int .i64 (k':Nat)]:=by rw[<-hw2];exact kpr.alloc _
      have kq2:Blk w2 w.heap.size 30 (e.cells (some ⟨b1,o1,none⟩) c).toArray:=by rw[<-hw2];exact kqr.alloc _
      have hb2:But p W1 w2:=by rw[<-hw2];exact hbr.alloc _
      have hx2:ExS 1000 m w2 p A' x.l:=by rw[<-hw2];exact hx.below _ ((Below.refl _ _).alloc (by omega) _)
      have HX2:=Lib.hid hx2;have HW2:=Lib.hid hw2;clear hw2 hx hx2;have l2:=kx2.lt;obtain⟨y0,y1,y2,y3,y4,y5⟩:=kx2.six;go_upto_region 14 with fail
      rw[show wr.alloc (.cells #[.string ⟨x.op.toArray⟩,.int .i64 x.v.k,.int .i64 x.v.i,.string ⟨x.v.s.toArray⟩,.string ⟨x.s.toArray⟩,.slice A' x.l.length c'] 30)=w2 from HW2.out];clear HW2 c0 c1 c2 c3 c4 c5;go_wp2_with fail;refine(HIH.out m rfl x A' c' p (d+1) k' w2 HFX.out HX2.out kp2 (by omega) hk').mono ?_;have hle:=Yw m (d+1) k' x;obtain⟨Q,hQ⟩:∃Q,D7 m (d+1) k' x=Q:=⟨_,rfl⟩;rw[hQ]at HJ2 hle ⊢;obtain⟨Q1,Q2⟩:=Q;rintro en w3 ⟨rfl,kp3,hb3⟩;have kq3:=hb3.blk kq2 (by omega);have hb13:=hb2.trans hb3;cases Q1
      ·have HF:Hid (R=(false,Q2)):=by show _=_;rw[<-HJ2.out];rfl
       clear HJ2 hle;go_wp2_with fail;go_ret;exact⟨by rw[HF.out];rfl,by rw[HF.out];exact kp3,hbw1.trans hb13⟩
      ·have HF:Hid (EP (D7 m (d+1)) Q2 (e.l.drop (j+1))=R):=by show _=_;rw[<-HJ2.out];rfl
       have hq2:=hle rfl;clear HJ2 hle;go_wp2_with fail;go_roundw
       case rel=>exact⟨j+1,Q2,by omega,by go_num,hq2,kp3,kq3,hb13,HF.out⟩
       case measure=>simp[intOf];omega
    ·have HF:Hid (R=(true,k')):=by
      show _=_
      rw[<-HJ.out];cases n with
      |zero=>rfl
      |succ m=>unfold QR;simp only;rw[List.drop_of_length_le (by omega)];rfl
     obtain rfl:j=e.l.length:=by omega
     have b0:¬((e.l.length:Int)<(e.l.length:Int)):=by omega
     clear HJ;go_wp2_with fail;go_ret;exact⟨by rw[HF.out];rfl,by rw[HF.out];exact kpr,hbw1.trans hbr⟩
  ·have hR4:(false,k+1)=R:=by
    rw[<-hR3,if_pos];by_cases h:Eu e.v=true
    ·have:¬e.s=[]:=λh2=>hzs ⟨h,h2⟩
     simp[this]
    ·simp[h]
   have HR3:=Lib.hid hR4;clear hR3 hR4;cases hz:Eu e.v
   ·rw[hz]at hzv;clear hz hzs;go_wp2_with fail;go_ret;exact⟨by rw[<-HR3.out];rfl,by rw[<-HR3.out];exact kp1,hbw1⟩
   ·rw[hz]at hzv;have es2:(e.s != [])=true:=by simp only[hz,true_and]at hzs;simpa using hzs
    have es:(e.s==[])=false:=by simp only[hz,true_and]at hzs;simpa using hzs
    clear hz hzs;go_wp2_with fail;go_ret;exact⟨by rw[<-HR3.out];rfl,by rw[<-HR3.out];exact kp1,hbw1⟩
 ·have HF:Hid (R=(false,k+1)):=by show _=_;rw[<-HR.out];unfold D7;simp[h12,h60,hpt]
  obtain⟨P,hP⟩:∃P,Dx e.op=P:=⟨_,rfl⟩;have HP:=Lib.hid hP;have bp:((e.l.length:Int) != P)=true:=by rw[<-hP];simpa using hpt
  clear hpt hP;refine rgn HSH λhHeld=>?_
  refine tS [0,1,2,3,4,5,6,7,8,9,10,11,12,13,14] ?_;iterate 15(refine tC ?_;refine ap ?_)
  refine tN ?_;refine rdy 15 λK hK=>?_
  go_simp;refine(HPT.out _).mono ?_<;>rw[HP.out]<;>rintro en w7 ⟨rfl,rfl⟩
  go_wp2_with fail;refine hK.out _ _ (HSH.out _ (by exact bl)) λhHeld=>?_
  clear hK K;refine ap ?_;refine tS [16,17] ?_;iterate 2(refine tC ?_;refine ap ?_)
  refine tN ?_;refine wpAnyH_done (by kernel_rfl) ?_ _;go_wp2_with fail;go_ret;exact⟨by rw[HF.out];rfl,by rw[HF.out];exact kp,hbw.drew⟩
theorem Xn(n:Nat):AHJ n:=by
 induction n with
 |zero=>exact RI 0 (λm h=>by omega)
 |succ n ih=>
  refine RI (n+1) (λm h=>?_);obtain rfl:n=m:=by omega
  exact ih
theorem Nh(n:Nat)(e:Ex)(A:Option Addr)(c:Nat)(w:World)(hf:e.fit 1000)(hA:ExS 1000 n w w.heap.size A e.l):
  Calls Tryz.prog 79 #[.agg (e.cells A c).toArray] w (Ret (.bool (may n e)) w):=by
 obtain⟨w0,hw0⟩:∃w0,(w.alloc (.cells (e.cells A c).toArray 30)).alloc (.cells #[.int .i64 0] 159)=w0:=⟨_,rfl⟩;have kq0:Blk w0 w.heap.size 30 (e.cells A c).toArray:=by rw[<-hw0];exact(Blk.new _ _ _).alloc _
 have kp0:Blk w0 (w.heap.size+1) 159 #[.int .i64 ((0:Nat):Int)]:=by rw[<-hw0];exact Blk.new' _ _ _ _ (by simp)
 have hb0:Below w.heap.size w w0:=by rw[<-hw0];exact bl
 have HW:=Lib.hid hw0;have HA0:=Lib.hid ((hA.below n hb0).more (Nat.le_succ _) n);have HF:=Lib.hid hf;clear hw0 hA hf;obtain⟨q0,q1,q2,q3,q4,q5⟩:=kq0.six;go_in
 go_upto_region 2 with fail
 rw[HW.out];go_wp2_with fail;refine(Xn n e A c (w.heap.size+1) 1 0 w0 HF.out HA0.out kp0 (by omega) (by omega)).mono ?_;rintro en w1 ⟨rfl,_,hb1⟩;go_wp2_with fail;go_ret;exact⟨rfl,hb1.inside hb0 (by omega)⟩
end
section
open Go.RowKit
def AL:Ex:=.mk [] V.zero [] []
theorem CX:AL.fit 1000:=⟨⟨by simp[AL,Ex.v,V.zero],by simp[AL,Ex.v,V.zero]⟩,by simp[AL,Ex.op],by simp[AL,Ex.s],by simp[AL,Ex.v,V.zero]⟩
def ExQ(K:Nat):Nat->World->(Nat->Prop)->Option Addr->List Ex->Prop
 |0,_,_,_,l=>l=[]
 |n+1,w,Q,A,l=>0<l.length->∃b off,A=some ⟨b,off,none⟩/\Q b/\∀i e,l[i]? = some e->
   ∃A' c',e.fit K/\e.l.length<=c'/\c'<=maxLen/\Six w b (off+i * 6) e A' c'/\ExQ K n w Q A' e.l
theorem ExQ.nil{K:Nat}{w:World}{Q:Nat->Prop}{A:Option Addr}:∀n,ExQ K n w Q A []
 |0=>rfl
 |_+1=>λh=>absurd h (by simp)
theorem ExQ.keep{K:Nat}{w w':World}{Q Q':Nat->Prop}(hk:∀b,Q b->Q' b/\∀o,w'.cell? ⟨b,o,none⟩=w.cell? ⟨b,o,none⟩):∀(n:Nat) {A:Option Addr} {l:List Ex},ExQ K n w Q A l->ExQ K n w' Q' A l
 |0,_,_,h=>h
 |n+1,_,_,h=>λhl=>by
  obtain⟨b,off,rfl,hb,hr⟩:=h hl;refine⟨b,off,rfl,(hk b hb).1,λi e he=>?_⟩;obtain⟨A',c',hf,h1,h2,h3,h4⟩:=hr i e he;exact⟨A',c',hf,h1,h2,h3.keep (hk b hb).2,h4.keep hk n⟩
theorem ExQ.toS{K:Nat}{w:World}{Q:Nat->Prop}{B:Nat}(hk:∀b,Q b->b<B):∀(n:Nat) {A:Option Addr} {l:List Ex},ExQ K n w Q A l->ExS K n w B A l
 |0,_,_,h=>h
 |n+1,_,_,h=>λhl=>by
  obtain⟨b,off,rfl,hb,hr⟩:=h hl;refine⟨b,off,rfl,hk b hb,λi e he=>?_⟩;obtain⟨A',c',hf,h1,h2,h3,h4⟩:=hr i e he;exact⟨A',c',hf,h1,h2,h3,h4.toS hk n⟩
theorem ExQ.up{K:Nat}{w:World}{Q:Nat->Prop}:∀(n:Nat) {A:Option Addr} {l:List Ex},ExQ K n w Q A l->ExQ K (n+1) w Q A l
 |0,_,_,h=>by cases h;exact ExQ.nil 1
 |n+1,_,_,h=>λhl=>by
  obtain⟨b,off,rfl,hb,hr⟩:=h hl;refine⟨b,off,rfl,hb,λi e he=>?_⟩;obtain⟨A',c',hf,h1,h2,h3,h4⟩:=hr i e he;exact⟨A',c',hf,h1,h2,h3,h4.up n⟩
theorem ExQ.ups{K:Nat}{w:World}{Q:Nat->Prop}{A:Option Addr}{l:List Ex}{n:Nat}(h:ExQ K n w Q A l):∀m,n<=m->ExQ K m w Q A l
 |0,hm=>by
  have:n=0:=by omega
  subst this;exact h
 |m+1,hm=>by
  by_cases e:n=m+1
  ·subst e;exact h
  ·exact(h.ups m (by omega)).up m
theorem ZJ{K:Nat}{w:World}{Q:Nat->Prop}{g n:Nat}{t:TypeId}{e:Ex}{A:Option Addr}{c:Nat}(h:Blk w g t (e.cells A c).toArray)(hq:Q g)(hf:e.fit K)(h1:e.l.length<=c)(h2:c<=maxLen)(h3:ExQ K n w Q A e.l):
  ExQ K (n+1) w Q (some ⟨g,0,none⟩) [e]:=λ_=>by
 refine⟨g,0,rfl,hq,λi x hx=>?_⟩
 match i,hx with
 |0,hx=>
  simp at hx;subst hx;exact⟨A,c,hf,h1,h2,⟨h.cell 0,h.cell 1,h.cell 2,h.cell 3,h.cell 4,h.cell 5⟩,h3⟩
theorem ZI{K:Nat}{w:World}{Q:Nat->Prop}{g n:Nat}{t:TypeId}{e e':Ex}{A A':Option Addr}{c c':Nat}(h:Blk w g t (e.cells A c++e'.cells A' c').toArray)(hq:Q g)(hf:e.fit K)(h1:e.l.length<=c)(h2:c<=maxLen)(h3:ExQ K n w Q A e.l)
 (hf':e'.fit K)(h1':e'.l.length<=c')(h2':c'<=maxLen)(h3':ExQ K n w Q A' e'.l):ExQ K (n+1) w Q (some ⟨g,0,none⟩) [e,e']:=λ_=>by
 refine⟨g,0,rfl,hq,λi x hx=>?_⟩
 match i,hx with
 |0,hx=>
  simp at hx;subst hx;exact⟨A,c,hf,h1,h2,⟨h.cell 0,h.cell 1,h.cell 2,h.cell 3,h.cell 4,h.cell 5⟩,h3⟩
 |1,hx=>
  simp at hx;subst hx;exact⟨A',c',hf',h1',h2',⟨h.cell 6,h.cell 7,h.cell 8,h.cell 9,h.cell 10,h.cell 11⟩,h3'⟩
def ExR(Q:Nat->Prop)(e:Ex)(A:Option Addr)(c:Nat)(w:World):Prop:=e.fit 1000/\e.l.length<=c/\c<=maxLen/\∃n,ExQ 1000 n w Q A e.l
theorem ExR.keep{Q Q':Nat->Prop}{e:Ex}{A:Option Addr}{c:Nat}{w w':World}(h:ExR Q e A c w)(hk:∀b,Q b->Q' b/\∀o,w'.cell? ⟨b,o,none⟩=w.cell? ⟨b,o,none⟩):ExR Q' e A c w':=by
 obtain⟨h1,h2,h3,n,h4⟩:=h;exact⟨h1,h2,h3,n,h4.keep hk n⟩
theorem ExR.two{Q:Nat->Prop}{op:List UInt8}{e e':Ex}{A A':Option Addr}{c c' g:Nat}{t:TypeId}{w:World}(h:ExR Q e A c w)(h':ExR Q e' A' c' w)(k:Blk w g t (e.cells A c++e'.cells A' c').toArray)(hq:Q g)(ho:op.length<=1000):
  ExR Q (.mk op V.zero [] [e,e']) (some ⟨g,0,none⟩) 2 w:=by
 obtain⟨h1,h2,h3,n,h4⟩:=h;obtain⟨h1',h2',h3',n',h4'⟩:=h';refine⟨⟨⟨by simp[Ex.v,V.zero],by simp[Ex.v,V.zero]⟩,ho,by simp[Ex.s],by simp[Ex.v,V.zero]⟩,by simp[Ex.l],by unfold maxLen;omega,max n n'+1, ?_⟩;exact ZI k hq h1 h2 h3 (h4.ups _ (Nat.le_max_left _ _)) h1' h2' h3' (h4'.ups _ (Nat.le_max_right _ _))
theorem ExR.one{Q:Nat->Prop}{op:List UInt8}{e:Ex}{A:Option Addr}{c g:Nat}{t:TypeId}{w:World}(h:ExR Q e A c w)(k:Blk w g t (e.cells A c).toArray)(hq:Q g)(ho:op.length<=1000):
  ExR Q (.mk op V.zero [] [e]) (some ⟨g,0,none⟩) 1 w:=by
 obtain⟨h1,h2,h3,n,h4⟩:=h;exact⟨⟨⟨by simp[Ex.v,V.zero],by simp[Ex.v,V.zero]⟩,ho,by simp[Ex.s],by simp[Ex.v,V.zero]⟩,by simp[Ex.l],by unfold maxLen;omega,n+1,ZJ k hq h1 h2 h3 h4⟩
theorem But.cell{p:Nat}{w w':World}(h:But p w w'){b:Nat}(hb:b<w.heap.size)(hp:b≠p)(o:Nat):w'.cell? ⟨b,o,none⟩=w.cell? ⟨b,o,none⟩:=by
 have hk:=h.block b hb hp;unfold World.cell?;simp only[hk]
theorem But.own{p:Nat}{a w:World}(h:But p a w){g:Nat}(hg:a.heap.size<=g)(i:Nat)(u:Value):But p a (w.setCell ⟨g,i,none⟩ u):=by
 have hb:Below 0 w (w.setCell ⟨g,i,none⟩ u):=by exact bl
 exact⟨hb.os.trans h.os,hb.tape.trans h.tape,hb.output.trans h.output,Nat.le_trans h.size hb.size,λk hk hp=>(Below.heap_setCell w ⟨g,i,none⟩ u k (show k≠g by omega)).trans (h.block k hk hp)⟩
end
section
open Go.RowKit
attribute [local go_sem] ByteArray.extract_mk Ak
attribute [local go_sem ↓] Go.wp_at_zero Go.wp_at_succ
theorem infoC:(Tryz.prog.info? 96).map (λi=>(i.zero,i.size,i.bytes))=some (some (.agg #[.string ⟨#[]⟩,.int .i64 0,.bool false]),3,32):=by kernel_rfl
theorem Col.cells_length(v:Col):v.cells.length=3:=rfl
theorem AHE:∀(l:List Col) (i j:Nat) (v:Col),l[i]? = some v->j<3->(l.flatMap Col.cells)[i * 3+j]? = v.cells[j]? :=by
 intro l
 induction l with
 |nil=>intro i j v h;simp at h
 |cons x r ih=>
  intro i j v h hj;cases i with
  |zero=>
   simp at h;subst h;rw[List.flatMap_cons,List.getElem?_append_left (by rw[Col.cells_length];omega)];simp
  |succ i=>
   rw[List.flatMap_cons,List.getElem?_append_right (by rw[Col.cells_length];omega),Col.cells_length];have e:(i+1) * 3+j - 3=i * 3+j:=by omega
   rw[e];exact ih i j v (by simpa using h) hj
theorem ZT(l:List Col):(l.flatMap Col.cells).length=l.length * 3:=by
 induction l with
 |nil=>rfl
 |cons x r ih=>rw[List.flatMap_cons,List.length_append,ih,Col.cells_length,List.length_cons];omega
theorem VD(l:List Col):∀u∈l.flatMap Col.cells,u.oneCell'=true:=by
 intro u hu;rw[List.mem_flatMap]at hu;obtain⟨v,_,hv⟩:=hu;simp only[Col.cells,List.mem_cons,List.not_mem_nil,or_false]at hv;rcases hv with rfl|rfl|rfl<;>rfl
def Ku(w:World)(lo hi:Nat)(A:Option Addr)(l:List Col):Prop:=0<l.length->∃b off,A=some ⟨b,off,none⟩/\lo<=b/\b<hi/\Le w b off l
theorem Ku.s{w:World}{lo hi:Nat}{A:Option Addr}{l:List Col}(h:Ku w lo hi A l){B:Nat}(hB:hi<=B):J3 w B A l:=λhl=>by
 obtain⟨b,off,rfl,_,h2,h3⟩:=h hl;exact⟨b,off,rfl,by omega,h3⟩
theorem Le.keep{w w':World}{b off:Nat}{l:List Col}(h:Le w b off l)(hk:∀o,w'.cell? ⟨b,o,none⟩=w.cell? ⟨b,o,none⟩):Le w' b off l:=by
 intro i v hv;obtain⟨h0,h1,h2⟩:=h i v hv;exact⟨(hk _).trans h0,(hk _).trans h1,(hk _).trans h2⟩
theorem Ku.keep{w w':World}{lo hi lo' hi':Nat}{A:Option Addr}{l:List Col}(h:Ku w lo hi A l)(hk:∀b,lo<=b->b<hi->(lo'<=b/\b<hi')/\∀o,w'.cell? ⟨b,o,none⟩=w.cell? ⟨b,o,none⟩):Ku w' lo' hi' A l:=λhl=>by
 obtain⟨b,off,rfl,h1,h2,h3⟩:=h hl;exact⟨b,off,rfl,(hk b h1 h2).1.1,(hk b h1 h2).1.2,h3.keep (hk b h1 h2).2⟩
theorem Ku.own{w:World}{base:Nat}{e:TypeId}{sv:Value}{n:Nat}{l:List Col}(h:w.ownsRow base e 3 sv n (l.flatMap Col.cells)):
  ∃A c,sv=.slice A l.length c/\l.length<=c/\c<=maxLen/\Ku w base w.heap.size A l:=by
 have hn:l.length=n:=by have:=h.1;rw[ZT]at this;omega
 rcases h.2 with⟨rfl,h0⟩|⟨g,cap,cur,rfl,hb,hg,hnc,hcm,hcs,htk⟩
 ·refine⟨none,0, ?_,by omega,Nat.zero_le _,λhl=>absurd hl (by omega)⟩;rw[hn,h0]
 ·refine⟨some ⟨g,0,none⟩,cap,by rw[hn],by omega,hcm,λ_=>⟨g,0,rfl,hb, ?_, ?_⟩⟩
  ·exact(Array.getElem?_eq_some_iff.1 hg).1
  ·intro i v hv;have hc:=h.cells (g:=g) rfl;have key:∀j u,j<3->v.cells[j]? = some u->w.cell? ⟨g,0+i * 3+j,none⟩=some u:=by
    intro j u hj hu;have:=hc (i * 3+j) u (by rw[AHE l i j v hv hj];exact hu);rw[add_mid]at this;rw[Nat.add_assoc];exact this
   exact⟨key 0 _ (by omega) rfl,key 1 _ (by omega) rfl,key 2 _ (by omega) rfl⟩
def KQ(c:Col):Col:=⟨c.n.take 20,c.t,c.b⟩
def FI(l:List Col):List Col:=(l.take 9).map KQ
theorem KP(l:List Col)(j:Nat)(v:Col)(h:l[j]? = some v):(l.take (j+1)).map KQ=(l.take j).map KQ++[KQ v]:=by
 rw[List.take_add_one,h];simp
def VE(l:List Col)(w:World)(e:Ending)(w':World):Prop:=
 ∃A c,e=.returned (.slice A l.length c)/\l.length<=c/\c<=maxLen/\Ku w' w.heap.size w'.heap.size A l/\Below w.heap.size w w'
theorem YC(A:Option Addr)(c:Nat)(l:List Col)(w:World)(hl:l.length<=maxLen)(h:J3 w w.heap.size A l)(hn:∀x∈l,x.n.length<=maxLen):
  Calls Tryz.prog 33 #[.slice A l.length c] w (VE (FI l) w):=by
 unfold maxLen at hl;have HN:=Lib.hid hn;clear hn;obtain⟨i0,hi0,zi0,zi1,zi2⟩:=info_parts infoC;go_in
 go_wp2;go_loopw [3,4] (λv i wr=>∃j:Nat,j<=l.length/\j<=9/\i=.int .i64 j/\wr.ownsRow w.heap.size 96 3 v j (((l.take j).map KQ).flatMap Col.cells)/\Below w.heap.size w wr) (λ_ i _=>l.length - (intOf i).toNat)
 case atStart=>exact⟨0,by omega,by omega,rfl,World.ownsRow_nil _ _ _ _,Below.refl _ _⟩
 case round=>
  obtain⟨j,hj1,hj2,rfl,hown,hbw⟩:=hrel;by_cases hlt:j<l.length
  ·by_cases h14:j<9
   ·obtain⟨b,off,v,rfl,hbB,hv,c0,c1,c2⟩:=(h.below hbw).at_ hlt;have HV:=Lib.hid hv;have hnl:=HN.out v (List.mem_of_getElem? hv);unfold maxLen at hnl;clear hv;have hzw:=hbw.size;by_cases hn20:v.n.length<=20
    ·have HF:Hid ((KQ v).cells=[.string ⟨v.n.toArray⟩,.int .i64 v.t,.bool v.b]):=by show _=_;simp only[KQ,Col.cells];rw[List.take_of_length_le hn20]
     go_wp2_with (at_builtin;refine wpList_append_own _ rfl _ _ 24 rfl w.heap.size 96 i0 _ 3 32 Tryz.underlying24 hi0 zi0 zi1 zi2 rfl (by decide) _ _ _ rfl ((hown.alloc _).alloc _) ⟨wr.heap.size+1,0,none⟩ 1 1 (KQ v).cells rfl rfl ?c1 ?c2 ?c3 ?c4 ?c5 ?_)
     case c1=>
      rw[HF.out];exact World.news_of_block (cs:=#[.string ⟨(v.n).toArray⟩,.int .i64 v.t,.bool v.b]) (t:=96) (fr:=(0,0)) (Blk.new' _ _ _ _ (by simp))
     case c2=>exactλu hu=>VD [KQ v] u (by simpa using hu)
     case c3=>unfold maxLen;omega
     case c4=>omega
     case c5=>simp;omega
     intro v' w2 hown2 hg2 _;go_wp2;go_roundw
     case rel=>
      refine⟨j+1,by omega,by omega,by go_num, ?_, ?_⟩
      ·rw[KP l j v HV.out,List.flatMap_append];simpa using hown2
      ·refine Below.grown ?_ hg2 (by simp;omega) (λk hk=>(hown.lt k hk).1);exact bl
     case measure=>simp[intOf];omega
    ·have HF:Hid ((KQ v).cells=[.string ⟨(v.n.take 20).toArray⟩,.int .i64 v.t,.bool v.b]):=rfl;go_wp2_with (at_builtin;refine wpList_append_own _ rfl _ _ 24 rfl w.heap.size 96 i0 _ 3 32 Tryz.underlying24 hi0 zi0 zi1 zi2 rfl (by decide) _ _ _ rfl ((hown.alloc _).alloc _) ⟨wr.heap.size+1,0,none⟩ 1 1 (KQ v).cells rfl rfl ?c1 ?c2 ?c3 ?c4 ?c5 ?_)
     case c1=>
      rw[HF.out];exact World.news_of_block (cs:=#[.string ⟨(v.n.take 20).toArray⟩,.int .i64 v.t,.bool v.b]) (t:=96) (fr:=(0,0)) (Blk.new' _ _ _ _ (by simp))
     case c2=>exactλu hu=>VD [KQ v] u (by simpa using hu)
     case c3=>unfold maxLen;omega
     case c4=>omega
     case c5=>simp;omega
     intro v' w2 hown2 hg2 _;go_wp2;go_roundw
     case rel=>
      refine⟨j+1,by omega,by omega,by go_num, ?_, ?_⟩
      ·rw[KP l j v HV.out,List.flatMap_append];simpa using hown2
      ·refine Below.grown ?_ hg2 (by simp;omega) (λk hk=>(hown.lt k hk).1);exact bl
     case measure=>simp[intOf];omega
   ·go_wp2;go_ret;obtain⟨A',c',rfl,hc1,hc2,hv⟩:=Ku.own hown;have e:FI l=(l.take j).map KQ:=by unfold FI;rw[show j=9 by omega]
    refine⟨A',c', ?_, ?_,hc2, ?_,hbw⟩
    ·rw[e];rfl
    ·rw[e];exact hc1
    ·rw[e];exact hv
  ·go_wp2;go_ret;obtain⟨A',c',rfl,hc1,hc2,hv⟩:=Ku.own hown;have e:FI l=(l.take j).map KQ:=by unfold FI;rw[List.take_of_length_le (i:=9) (by omega),List.take_of_length_le (by omega)]
   refine⟨A',c', ?_, ?_,hc2, ?_,hbw⟩
   ·rw[e];rfl
   ·rw[e];exact hc1
   ·rw[e];exact hv
end
section
open Go.RowKit
theorem Blk.sixF{w:World}{g:Nat}{t:TypeId}{cs:Array Value}(h:Blk w g t cs):w.frozen? ⟨g,0,none⟩=false/\w.frozen? ⟨g,1,none⟩=false/\w.frozen? ⟨g,2,none⟩=false/\w.frozen? ⟨g,3,none⟩=false/\w.frozen? ⟨g,4,none⟩=false/\w.frozen? ⟨g,5,none⟩=false:=
 ⟨h.frozen 0,h.frozen 1,h.frozen 2,h.frozen 3,h.frozen 4,h.frozen 5⟩
theorem Blk.sixSet{w:World}{g:Nat}{t:TypeId}{e0:Ex}{A0:Option Addr}{c0:Nat}(h:Blk w g t (e0.cells A0 c0).toArray)(y0 y1 y2 y3 y4 y5:Value):
  Blk ((((((w.setCell ⟨g,0,none⟩ y0).setCell ⟨g,1,none⟩ y1).setCell ⟨g,2,none⟩ y2).setCell ⟨g,3,none⟩ y3).setCell ⟨g,4,none⟩ y4).setCell ⟨g,5,none⟩ y5) g t #[y0,y1,y2,y3,y4,y5]:=
 (((((h.set_ 0 y0).set_ 1 y1).set_ 2 y2).set_ 3 y3).set_ 4 y4).set_ 5 y5
theorem But.sixSet(w:World)(g:Nat)(y0 y1 y2 y3 y4 y5:Value):
  But g w ((((((w.setCell ⟨g,0,none⟩ y0).setCell ⟨g,1,none⟩ y1).setCell ⟨g,2,none⟩ y2).setCell ⟨g,3,none⟩ y3).setCell ⟨g,4,none⟩ y4).setCell ⟨g,5,none⟩ y5):=
 ((((((But.refl g w).set 0 y0).set 1 y1).set 2 y2).set 3 y3).set 4 y4).set 5 y5
theorem But.sixOwn{p:Nat}{a w:World}(h:But p a w){g:Nat}(hg:a.heap.size<=g)(y0 y1 y2 y3 y4 y5:Value):
  But p a ((((((w.setCell ⟨g,0,none⟩ y0).setCell ⟨g,1,none⟩ y1).setCell ⟨g,2,none⟩ y2).setCell ⟨g,3,none⟩ y3).setCell ⟨g,4,none⟩ y4).setCell ⟨g,5,none⟩ y5):=
 (((((h.own hg 0 y0).own hg 1 y1).own hg 2 y2).own hg 3 y3).own hg 4 y4).own hg 5 y5
end
end Go.Proofs.YtchilcchogcibaaGreatDoor
