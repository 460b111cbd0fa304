/- The parser's comparison as a plain function; The parser knot; expr.Parse as a plain function; Plain law. -/
import Derived.Test.YtchilcchogcibaaGreatDoorFParse7
set_option maxRecDepth 100000
set_option maxHeartbeats 8000000
namespace Go.Proofs.YtchilcchogcibaaGreatDoor
section
open Go.RowKit
attribute [local go_sem] ByteArray.extract_mk Ak AY
attribute [local go_sem ↓] Go.wp_at_zero Go.wp_at_succ CY CE
theorem Ov{p:Nat}{A:Option Addr}{c:Nat}{l:List Tok}{deep:Nat}{w X:World}{op:List UInt8}{e e5:Ex}{A' A5:Option Addr}{c' c5 g a:Nat}{b:Bool}(ho:op.length<=1000)(hg:w.heap.size<=g)(hpg:p<g)(hE:ExR (λx=>w.heap.size<=x/\x<X.heap.size/\x≠g) e A' c' X)(hE5:ExR (λx=>w.heap.size<=x/\x<X.heap.size/\x≠g) e5 A5 c5 X)
 (hP:PSt p A c l a deep X)(hb:But p w X):
  G7 (.mk op V.zero [] [e,e5],b,a) p A c l deep w (.returned (.tuple #[.agg ((Ex.mk op V.zero [] [e,e5]).cells (some ⟨X.heap.size,0,none⟩) 2).toArray,.bool b]))
   (((((((X.setCell ⟨g,0,none⟩ (.string ⟨op.toArray⟩)).setCell ⟨g,1,none⟩ (.int .i64 0)).setCell ⟨g,2,none⟩ (.int .i64 0)).setCell ⟨g,3,none⟩ (.string ⟨#[]⟩)).setCell ⟨g,4,none⟩ (.string ⟨#[]⟩)).setCell ⟨g,5,none⟩ (.slice (some ⟨X.heap.size,0,none⟩) 2 2)).alloc (.cells #[.string ⟨e.op.toArray⟩,.int .i64 e.v.k,.int .i64 e.v.i,.string ⟨e.v.s.toArray⟩,.string ⟨e.s.toArray⟩,.slice A' e.l.length c',.string ⟨e5.op.toArray⟩,.int .i64 e5.v.k,.int .i64 e5.v.i,.string ⟨e5.v.s.toArray⟩,.string ⟨e5.s.toArray⟩,.slice A5 e5.l.length c5] 30)):=by
 have hB:=But.sixSet X g (.string ⟨op.toArray⟩) (.int .i64 0) (.int .i64 0) (.string ⟨#[]⟩) (.string ⟨#[]⟩) (.slice (some ⟨X.heap.size,0,none⟩) 2 2);have hP1:=hP.far hB hpg;have hbs:=hb.sixOwn hg (.string ⟨op.toArray⟩) (.int .i64 0) (.int .i64 0) (.string ⟨#[]⟩) (.string ⟨#[]⟩) (.slice (some ⟨X.heap.size,0,none⟩) 2 2);have hsz:((((((X.setCell ⟨g,0,none⟩ (.string ⟨op.toArray⟩)).setCell ⟨g,1,none⟩ (.int .i64 0)).setCell ⟨g,2,none⟩ (.int .i64 0)).setCell ⟨g,3,none⟩ (.string ⟨#[]⟩)).setCell ⟨g,4,none⟩ (.string ⟨#[]⟩)).setCell ⟨g,5,none⟩ (.slice (some ⟨X.heap.size,0,none⟩) 2 2)).heap.size=X.heap.size:=by simp
 have hE1:=hE.keep (Q':=λx=>w.heap.size<=x/\x<X.heap.size/\x≠g) λx hx=>⟨hx,λo=>hB.cell hx.2.1 hx.2.2 o⟩
 have hE51:=hE5.keep (Q':=λx=>w.heap.size<=x/\x<X.heap.size/\x≠g) λx hx=>⟨hx,λo=>hB.cell hx.2.1 hx.2.2 o⟩
 generalize ((((((X.setCell ⟨g,0,none⟩ (.string ⟨op.toArray⟩)).setCell ⟨g,1,none⟩ (.int .i64 0)).setCell ⟨g,2,none⟩ (.int .i64 0)).setCell ⟨g,3,none⟩ (.string ⟨#[]⟩)).setCell ⟨g,4,none⟩ (.string ⟨#[]⟩)).setCell ⟨g,5,none⟩ (.slice (some ⟨X.heap.size,0,none⟩) 2 2))=Y at *
 have hz:=hb.size;have hbl:Below Y.heap.size Y (Y.alloc (.cells (e.cells A' c'++e5.cells A5 c5).toArray 30)):=(Below.refl _ _).alloc (Nat.le_refl _) _;refine⟨some ⟨X.heap.size,0,none⟩,2,rfl, ?_,hP1.but hbl,hbs.after hbl⟩;refine ExR.two (t:=30) (hE1.keep λx hx=>⟨⟨hx.1,by simp;omega⟩,λo=>hbl.cell (p:=⟨x,o,none⟩) (show x<Y.heap.size by omega)⟩) (hE51.keep λx hx=>⟨⟨hx.1,by simp;omega⟩,λo=>hbl.cell (p:=⟨x,o,none⟩) (show x<Y.heap.size by omega)⟩) (Blk.new' Y X.heap.size _ _ hsz) ⟨by omega,by simp;omega⟩ ho
theorem Vu{p:Nat}{A:Option Addr}{c:Nat}{l:List Tok}{deep:Nat}{w X:World}{op:List UInt8}{e:Ex}{A':Option Addr}{c' g gs a:Nat}{b:Bool}(ho:op.length<=1000)(hg:w.heap.size<=g)(hpg:p<g)(hE:ExR (λx=>w.heap.size<=x/\x<X.heap.size/\x≠g) e A' c' X)
 (ks:Blk X gs 30 (e.cells A' c').toArray)(hgs:w.heap.size<=gs)(hgg:gs≠g)(hP:PSt p A c l a deep X)(hb:But p w X):
  G7 (.mk op V.zero [] [e],b,a) p A c l deep w (.returned (.tuple #[.agg ((Ex.mk op V.zero [] [e]).cells (some ⟨gs,0,none⟩) 1).toArray,.bool b]))
   ((((((X.setCell ⟨g,0,none⟩ (.string ⟨op.toArray⟩)).setCell ⟨g,1,none⟩ (.int .i64 0)).setCell ⟨g,2,none⟩ (.int .i64 0)).setCell ⟨g,3,none⟩ (.string ⟨#[]⟩)).setCell ⟨g,4,none⟩ (.string ⟨#[]⟩)).setCell ⟨g,5,none⟩ (.slice (some ⟨gs,0,none⟩) 1 1)):=
 DR rfl hg hpg (ExR.one hE ks ⟨hgs,ks.lt,hgg⟩ ho) hP hb _ _ _ _ _ _
def FK:List (List UInt8):=[[61],[60],[73,83]]
def EI(l:List Tok)(Fs:Nat->Ex×Bool×Nat)(a:Nat):Ex×Bool×Nat:=
 if (Fs a).2.1 then(match Ar l (Fs a).2.2 FK with
  |none=>((Fs a).1,true,(Fs a).2.2)
  |some x=>if x=[73,83]then(.mk Be V.zero [] [(Fs a).1],hit l ((Fs a).2.2+1) [78,85,76,76],if hit l ((Fs a).2.2+1) [78,85,76,76]then(Fs a).2.2+1+1 else(Fs a).2.2+1)
   else(.mk x V.zero [] [(Fs a).1,(Fs ((Fs a).2.2+1)).1],(Fs ((Fs a).2.2+1)).2.1,(Fs ((Fs a).2.2+1)).2.2))
 else((Fs a).1,false,(Fs a).2.2)
theorem Ju{l:List Tok}{a:Nat}{x:List UInt8}(h:hit l a x=true):a<l.length:=by
 unfold hit at h;split at h
 ·cases h
 ·rename_i t ht
  exact(List.getElem?_eq_some_iff.1 ht).1
theorem ZR(l:List Tok)(Fs:Nat->Ex×Bool×Nat)(hF:∀a,a<=l.length->a<=(Fs a).2.2/\(Fs a).2.2<=l.length)(a:Nat)(ha:a<=l.length):a<=(EI l Fs a).2.2/\(EI l Fs a).2.2<=l.length:=by
 have h1:=hF a ha;unfold EI;split
 ·split
  ·exact h1
  ·rename_i x hx
   have h2:=(GZ hx).1;split
   ·simp only;split
    ·rename_i hh
     have:=Ju hh;omega
    ·omega
   ·have h3:=hF ((Fs a).2.2+1) (by omega);simp only;omega
 ·exact h1
theorem WZ(p:Nat)(A:Option Addr)(c:Nat)(l:List Tok)(deep:Nat)(Fs:Nat->Ex×Bool×Nat)(hll:l.length<=990)(hC:FT 262 p A c l deep Fs):FT 260 p A c l deep (EI l Fs):=by
 refine⟨ZR l Fs hC.1,λa w ha hP=>?_⟩;have lp:=hP.1.lt;have hFa:=hC.1 a ha;have HC:=Lib.hid hC;obtain⟨R,hR⟩:∃R,EI l Fs a=R:=⟨_,rfl⟩;rw[hR];obtain⟨w0,hw0⟩:∃w0,w.alloc (.cells (AL.cells none 0).toArray 30)=w0:=⟨_,rfl⟩;have kR0:Blk w0 w.heap.size 30 (AL.cells none 0).toArray:=by rw[<-hw0];exact Blk.new _ _ _
 have hb0:Below w.heap.size w w0:=by rw[<-hw0];exact bl
 have hs0:w0.heap.size=w.heap.size+1:=by rw[<-hw0];simp
 have HW:=Lib.hid hw0;have HP0:=Lib.hid (hP.but hb0);clear hw0 hP hC;obtain⟨Q,hQ⟩:∃Q,Fs a=Q:=⟨_,rfl⟩;unfold EI at hR;rw[hQ]at hR hFa;obtain⟨e1,ok1,a1⟩:=Q;have HQ:=Lib.hid hQ;simp only at hR hFa;have HR:=Lib.hid hR;clear hQ hR;go_in
 go_upto_region 1 with fail
 rw[show w.alloc (.cells #[.string ⟨#[]⟩,.int .i64 0,.int .i64 0,.string ⟨#[]⟩,.string ⟨#[]⟩,.slice none 0 0] 30)=w0 from HW.out];clear HW;go_wp2_with fail;refine(HC.out.2 a w0 ha HP0.out).mono ?_;rw[HQ.out];rintro en w1 ⟨A1,c1,rfl,hE1,hP1,hb1⟩;dsimp only[Ex.cells];obtain⟨w2,hw2⟩:∃w2,w1.alloc (.cells (e1.cells A1 c1).toArray 30)=w2:=⟨_,rfl⟩;have kB2:Blk w2 w1.heap.size 30 (e1.cells A1 c1).toArray:=by rw[<-hw2];exact Blk.new _ _ _
 have hb2:Below w1.heap.size w1 w2:=by rw[<-hw2];exact bl
 have hs2:w2.heap.size=w1.heap.size+1:=by rw[<-hw2];simp
 have HW2:=Lib.hid hw2;clear hw2;have hz1:=hb1.size;have kR2:=(hb1.blk kR0 (by omega)).below hb2 (by omega);have HP2:=Lib.hid (hP1.but hb2);have HE2:Hid (ExR (λx=>w.heap.size<x/\x<w2.heap.size) e1 A1 c1 w2):=hE1.keep λx hx=>⟨⟨by omega,by omega⟩,λo=>hb2.cell (p:=⟨x,o,none⟩) hx.2⟩
 have hbw2:But p w w2:=((But.of_below hb0).trans hb1).after hb2;clear hP1 hE1 hb1 hb2 kR0 HP0;go_upto_region 2 with fail
 rw[show w1.alloc (.cells #[.string ⟨e1.op.toArray⟩,.int .i64 e1.v.k,.int .i64 e1.v.i,.string ⟨e1.v.s.toArray⟩,.string ⟨e1.s.toArray⟩,.slice A1 e1.l.length c1] 30)=w2 from HW2.out];clear HW2;obtain⟨G,hG⟩:∃G,w1.heap.size=G:=⟨_,rfl⟩;rw[hG]at kB2 hz1 hs2 ⊢;have hGw:w.heap.size<G:=by omega
 clear hG hz1 hs2 hs0 hb0;have lB2:=kB2.lt;have lR2:=kR2.lt;cases ok1
 ·have HF:Hid (R=(e1,false,a1)):=HR.out.symm;clear HR;obtain⟨q0,q1,q2,q3,q4,q5⟩:=kB2.six;obtain⟨z0,z1,z2,z3,z4,z5⟩:=kR2.sixF;obtain⟨r0,r1,r2,r3,r4,r5⟩:=kR2.six;go_wp2_with fail;refine bodyPost_ret (v:=.tuple #[.agg (e1.cells A1 c1).toArray,.bool false]) (by simp[results,Tryz.results260,go_sem, *,Ex.cells]) rfl ?_;exact DR HF.out (Nat.le_refl _) lp (HE2.out.keep λx hx=>⟨⟨by omega,hx.2,by omega⟩,λo=>rfl⟩) HP2.out hbw2 _ _ _ _ _ _
 obtain⟨w3,hw3⟩:∃w3,w2.alloc (.cells #[.string ⟨#[61]⟩,.string ⟨#[60]⟩,.string ⟨#[73,83]⟩] 9)=w3:=⟨_,rfl⟩;have kg3:Blk w3 w2.heap.size 9 (FK.map MF).toArray:=by rw[<-hw3];exact Blk.new _ _ _
 have hb3:Below w2.heap.size w2 w3:=by rw[<-hw3];exact bl
 have hs3:w3.heap.size=w2.heap.size+1:=by rw[<-hw3];simp
 have HW3:=Lib.hid hw3;clear hw3;have kB3:=kB2.below hb3 lB2;have kR3:=kR2.below hb3 lR2;have HP3:=Lib.hid (HP2.out.but hb3);have HE3:Hid (ExR (λx=>w.heap.size<x/\x<w3.heap.size) e1 A1 c1 w3):=HE2.out.keep λx hx=>⟨⟨hx.1,by omega⟩,λo=>hb3.cell (p:=⟨x,o,none⟩) hx.2⟩
 have hbw3:=hbw2.after hb3;have hgp:w2.heap.size≠p:=by omega
 clear HP2 HE2 kB2 kR2 hbw2 hb3 hs3;go_wp2_with fail;rw[HW3.out];clear HW3;refine(JV p A c l a1 deep w2.heap.size FK w3 (by omega) (by decide) hgp HP3.out kg3 3).mono ?_;obtain⟨O,hO⟩:∃O,Ar l a1 FK=O:=⟨_,rfl⟩;have hR:=HR.out;rw[hO]at hR ⊢;simp only[if_true]at hR;rintro en w4 ⟨rfl,hP4,hb4⟩;have hz4:=hb4.size;have kB4:=hb4.blk kB3 (by omega);have kR4:=hb4.blk kR3 (by omega);have lB4:=kB4.lt;have lR4:=kR4.lt;have HE4:Hid (ExR (λx=>w.heap.size<x/\x<w4.heap.size) e1 A1 c1 w4):=HE3.out.keep λx hx=>⟨⟨hx.1,by omega⟩,λo=>hb4.cell hx.2 (by omega) o⟩
 have hbw4:=hbw3.trans hb4;have HP4:=Lib.hid hP4;clear hP4 HE3 HP3 kB3 kR3 kg3 hbw3 hb4 HR HQ lB2 lR2 hz4;cases O with
 |none=>
  have HF:Hid (R=(e1,true,a1)):=hR.symm;clear hR;obtain⟨q0,q1,q2,q3,q4,q5⟩:=kB4.six;obtain⟨z0,z1,z2,z3,z4,z5⟩:=kR4.sixF;obtain⟨r0,r1,r2,r3,r4,r5⟩:=kR4.six;go_wp2_with fail;refine bodyPost_ret (v:=.tuple #[.agg (e1.cells A1 c1).toArray,.bool true]) (by simp[results,Tryz.results260,go_sem, *,Ex.cells]) rfl ?_;exact DR HF.out (Nat.le_refl _) lp (HE4.out.keep λx hx=>⟨⟨by omega,hx.2,by omega⟩,λo=>rfl⟩) HP4.out hbw4 _ _ _ _ _ _
 |some x=>
  obtain⟨halt,hxw⟩:=GZ hO;simp only at hR;have HP5:Hid (PSt p A c l (a1+1) deep w4):=HP4.out;clear HP4 hO;simp only[FK,List.mem_cons,List.not_mem_nil,or_false]at hxw;rcases hxw with rfl|rfl|rfl
  ·
   have eIS:(([61]:List UInt8)==[73,83])=false:=by decide
   rw[if_neg (by decide)]at hR;have hFn:=HC.out.1 (a1+1) (by omega);obtain⟨Q,hQ⟩:∃Q,Fs (a1+1)=Q:=⟨_,rfl⟩;rw[hQ]at hR hFn;obtain⟨e5,ok5,a5⟩:=Q;have HQ:=Lib.hid hQ;simp only at hR;have HF:=Lib.hid hR;clear hR hQ;go_wp2_with fail;refine(HC.out.2 (a1+1) w4 (by omega) HP5.out).mono ?_;rw[HQ.out];rintro en w5 ⟨A5,c5,rfl,hE5,hP6,hb5⟩;dsimp only[Ex.cells];have hz5:=hb5.size;obtain⟨w6,hw6⟩:∃w6,w5.alloc (.cells (e5.cells A5 c5).toArray 30)=w6:=⟨_,rfl⟩;have kC6:Blk w6 w5.heap.size 30 (e5.cells A5 c5).toArray:=by rw[<-hw6];exact Blk.new _ _ _
   have hb6:Below w5.heap.size w5 w6:=by rw[<-hw6];exact bl
   have hs6:w6.heap.size=w5.heap.size+1:=by rw[<-hw6];simp
   have HW6:=Lib.hid hw6;clear hw6;have kB6:=(hb5.blk kB4 (by omega)).below hb6 (by omega);have kR6:=(hb5.blk kR4 (by omega)).below hb6 (by omega);have lB6:=kB6.lt;have lR6:=kR6.lt;have lC6:=kC6.lt;have HE6:Hid (ExR (λx=>w.heap.size<=x/\x<w6.heap.size/\x≠w.heap.size) e1 A1 c1 w6):=HE4.out.keep λx hx=>⟨⟨by omega,by omega,by omega⟩,λo=>(hb6.cell (p:=⟨x,o,none⟩) (show x<_ by omega)).trans (hb5.cell hx.2 (by omega) o)⟩
   have HN6:Hid (ExR (λx=>w.heap.size<=x/\x<w6.heap.size/\x≠w.heap.size) e5 A5 c5 w6):=hE5.keep λx hx=>⟨⟨by omega,by omega,by omega⟩,λo=>hb6.cell (p:=⟨x,o,none⟩) hx.2⟩
   have HP7:=Lib.hid (hP6.but hb6);have hbw6:=(hbw4.trans hb5).after hb6;clear hE5 hP6 HE4 HP5 kB4 kR4 hbw4 hb5 hb6 hs6 hz5 lB4 lR4;obtain⟨z0,z1,z2,z3,z4,z5⟩:=kR6.sixF;obtain⟨r0,r1,r2,r3,r4,r5⟩:=kR6.six;obtain⟨q0,q1,q2,q3,q4,q5⟩:=kB6.six;obtain⟨s0,s1,s2,s3,s4,s5⟩:=kC6.six;go_upto_region 7 with fail
   rw[show w5.alloc (.cells #[.string ⟨e5.op.toArray⟩,.int .i64 e5.v.k,.int .i64 e5.v.i,.string ⟨e5.v.s.toArray⟩,.string ⟨e5.s.toArray⟩,.slice A5 e5.l.length c5] 30)=w6 from HW6.out];clear HW6;go_wp2_with fail;refine bodyPost_ret (v:=.tuple #[.agg ((Ex.mk [61] V.zero [] [e1,e5]).cells (some ⟨w6.heap.size,0,none⟩) 2).toArray,.bool ok5]) (by simp[results,Tryz.results260,go_sem, *,Ex.cells,Ex.op,Ex.v,Ex.s,Ex.l,V.zero]) rfl ?_;rw[<-HF.out];exact Ov (by decide) (Nat.le_refl _) lp HE6.out HN6.out HP7.out hbw6
  ·
   have eIS:(([60]:List UInt8)==[73,83])=false:=by decide
   rw[if_neg (by decide)]at hR;have hFn:=HC.out.1 (a1+1) (by omega);obtain⟨Q,hQ⟩:∃Q,Fs (a1+1)=Q:=⟨_,rfl⟩;rw[hQ]at hR hFn;obtain⟨e5,ok5,a5⟩:=Q;have HQ:=Lib.hid hQ;simp only at hR;have HF:=Lib.hid hR;clear hR hQ;go_wp2_with fail;refine(HC.out.2 (a1+1) w4 (by omega) HP5.out).mono ?_;rw[HQ.out];rintro en w5 ⟨A5,c5,rfl,hE5,hP6,hb5⟩;dsimp only[Ex.cells];have hz5:=hb5.size;obtain⟨w6,hw6⟩:∃w6,w5.alloc (.cells (e5.cells A5 c5).toArray 30)=w6:=⟨_,rfl⟩;have kC6:Blk w6 w5.heap.size 30 (e5.cells A5 c5).toArray:=by rw[<-hw6];exact Blk.new _ _ _
   have hb6:Below w5.heap.size w5 w6:=by rw[<-hw6];exact bl
   have hs6:w6.heap.size=w5.heap.size+1:=by rw[<-hw6];simp
   have HW6:=Lib.hid hw6;clear hw6;have kB6:=(hb5.blk kB4 (by omega)).below hb6 (by omega);have kR6:=(hb5.blk kR4 (by omega)).below hb6 (by omega);have lB6:=kB6.lt;have lR6:=kR6.lt;have lC6:=kC6.lt;have HE6:Hid (ExR (λx=>w.heap.size<=x/\x<w6.heap.size/\x≠w.heap.size) e1 A1 c1 w6):=HE4.out.keep λx hx=>⟨⟨by omega,by omega,by omega⟩,λo=>(hb6.cell (p:=⟨x,o,none⟩) (show x<_ by omega)).trans (hb5.cell hx.2 (by omega) o)⟩
   have HN6:Hid (ExR (λx=>w.heap.size<=x/\x<w6.heap.size/\x≠w.heap.size) e5 A5 c5 w6):=hE5.keep λx hx=>⟨⟨by omega,by omega,by omega⟩,λo=>hb6.cell (p:=⟨x,o,none⟩) hx.2⟩
   have HP7:=Lib.hid (hP6.but hb6);have hbw6:=(hbw4.trans hb5).after hb6;clear hE5 hP6 HE4 HP5 kB4 kR4 hbw4 hb5 hb6 hs6 hz5 lB4 lR4;obtain⟨z0,z1,z2,z3,z4,z5⟩:=kR6.sixF;obtain⟨r0,r1,r2,r3,r4,r5⟩:=kR6.six;obtain⟨q0,q1,q2,q3,q4,q5⟩:=kB6.six;obtain⟨s0,s1,s2,s3,s4,s5⟩:=kC6.six;go_upto_region 7 with fail
   rw[show w5.alloc (.cells #[.string ⟨e5.op.toArray⟩,.int .i64 e5.v.k,.int .i64 e5.v.i,.string ⟨e5.v.s.toArray⟩,.string ⟨e5.s.toArray⟩,.slice A5 e5.l.length c5] 30)=w6 from HW6.out];clear HW6;go_wp2_with fail;refine bodyPost_ret (v:=.tuple #[.agg ((Ex.mk [60] V.zero [] [e1,e5]).cells (some ⟨w6.heap.size,0,none⟩) 2).toArray,.bool ok5]) (by simp[results,Tryz.results260,go_sem, *,Ex.cells,Ex.op,Ex.v,Ex.s,Ex.l,V.zero]) rfl ?_;rw[<-HF.out];exact Ov (by decide) (Nat.le_refl _) lp HE6.out HN6.out HP7.out hbw6
  ·rw[if_pos rfl]at hR;obtain⟨B,hB⟩:∃B,hit l (a1+1) [78,85,76,76]=B:=⟨_,rfl⟩;rw[hB]at hR;have HF:=Lib.hid hR;have HTK:Hid (∀X:World,PSt p A c l (a1+1) deep X->Calls Tryz.prog 258 #[.pointer (some ⟨p,0,none⟩),.string ⟨#[78,85,76,76]⟩] X (QF B p A c l (a1+1) deep X)):=λX hX=>by
    have:=Fg p A c l (a1+1) deep [78,85,76,76] X (by omega) hX;rw[hB]at this;exact this
   clear hB hR;have hpG:p≠G:=by omega
   have hpw:p≠w.heap.size:=by omega
   obtain⟨q0,q1,q2,q3,q4,q5⟩:=kB4.six;obtain⟨z0,z1,z2,z3,z4,z5⟩:=kR4.sixF;obtain⟨r0,r1,r2,r3,r4,r5⟩:=kR4.six;go_upto_region 11 with fail
   go_region_with (go_at_call 258;refine(HTK.out _ (HP5.out.but (by exact bl))).mono ?_;rintro en w6 ⟨rfl,hP6,hb6⟩;have HP6:=Lib.hid hP6;clear hP6;have hz6:=hb6.size;(try simp at hz6);have lG6:G<w6.heap.size:=(by omega);have lR6:w.heap.size<w6.heap.size:=(by omega);have hb46:But p w4 w6:=But.trans (But.of_below (by exact bl)) hb6;have kB6:=hb46.blk kB4 (Ne.symm hpG);have kR6:=hb46.blk kR4 (Ne.symm hpw);obtain⟨u0,u1,u2,u3,u4,u5⟩:=kB6.six;obtain⟨v0,v1,v2,v3,v4,v5⟩:=kR6.sixF;obtain⟨x0,x1,x2,x3,x4,x5⟩:=kR6.six)
   all_goals(go_wp2_with fail)
   all_goals(have HE6:ExR (λx=>w.heap.size<=x/\x<w6.heap.size/\x≠w.heap.size) e1 A1 c1 w6:=HE4.out.keep λx hx=>⟨⟨by omega,by have:=hb46.size;omega,by omega⟩,λo=>hb46.cell hx.2 (by omega) o⟩)
   all_goals(have hbw6:=hbw4.trans hb46)
   all_goals
    first
    |
     refine bodyPost_ret (v:=.tuple #[.agg ((Ex.mk Be V.zero [] [e1]).cells (some ⟨w6.heap.size,0,none⟩) 1).toArray,.bool B]) ?_ rfl ?_
     focus (simp[results,Tryz.results260,go_sem, *,Ex.cells,Ex.op,Ex.v,Ex.s,Ex.l,V.zero,Be];done)
     rw[<-HF.out];exact Q8 (by decide) (Nat.le_refl _) lp HE6 HP6.out hbw6
    |
     refine bodyPost_ret (v:=.tuple #[.agg ((Ex.mk Be V.zero [] [e1]).cells (some ⟨w4.heap.size,0,none⟩) 1).toArray,.bool B]) ?_ rfl ?_
     focus (simp[results,Tryz.results260,go_sem, *,Ex.cells,Ex.op,Ex.v,Ex.s,Ex.l,V.zero,Be];done)
     rw[<-HF.out];have ks:Blk w6 w4.heap.size 30 (e1.cells A1 c1).toArray:=hb6.blk (Blk.new' _ _ _ _ (by simp)) (by omega);exact Vu (by decide) (Nat.le_refl _) lp HE6 ks (by omega) (by omega) HP6.out hbw6
end
section
open Go.RowKit
theorem Zh(l:List Tok)(orI:Nat->Ex×Bool×Nat)(hF:∀a,a<=l.length->a<=(orI a).2.2/\(orI a).2.2<=l.length)(a:Nat)(ha:a<=l.length):a<=(EK l orI a).2.2/\(EK l orI a).2.2<=l.length:=by
 unfold EK;split
 ·rename_i h
  have h1:=Ju h;have h2:=hF (a+1) (by omega);simp only;split
  ·rename_i h3
   simp only[Bool.and_eq_true]at h3;have:=Ju h3.2;omega
  ·omega
 ·have key:∀(sg:Bool) (b:Nat),b<=l.length->b<=(JO l sg b).2.2/\(JO l sg b).2.2<=l.length:=by
   intro sg b hb;unfold JO;split
   ·exact⟨Nat.le_refl _,hb⟩
   ·rename_i t ht
    have h1:=(List.getElem?_eq_some_iff.1 ht).1;split
    ·simp only;omega
    ·exact⟨Nat.le_refl _,hb⟩
  split
  ·rename_i h
   have h1:=Ju h;have:=key (hit l a [45]) (a+1) (by omega);omega
  ·exact key _ a ha
def I9(l:List Tok)(notI cmp:Nat->Ex×Bool×Nat)(a:Nat):Ex×Bool×Nat:=
 if hit l a [78,79,84]then(.mk C9 V.zero [] [(notI (a+1)).1],(notI (a+1)).2.1,(notI (a+1)).2.2)else cmp a
theorem af(l:List Tok)(notI cmp:Nat->Ex×Bool×Nat)(hF:∀a,a<=l.length->a<=(notI a).2.2/\(notI a).2.2<=l.length)(hC:∀a,a<=l.length->a<=(cmp a).2.2/\(cmp a).2.2<=l.length)(a:Nat)(ha:a<=l.length):a<=(I9 l notI cmp a).2.2/\(I9 l notI cmp a).2.2<=l.length:=by
 unfold I9;split
 ·rename_i h
  have h1:=Ju h;have h2:=hF (a+1) (by omega);simp only;omega
 ·exact hC a ha
def lev(l:List Tok)(I:(Nat->Ex×Bool×Nat)×(Nat->Ex×Bool×Nat)):(Nat->Ex×Bool×Nat)×(Nat->Ex×Bool×Nat):=
 (I9 l I.1 (EI l (D6 (EK l I.2) l [[43],[45]])),D6 (D6 (I9 l I.1 (EI l (D6 (EK l I.2) l [[43],[45]]))) l [[65,78,68]]) l [[79,82]])
def Hf(l:List Tok):Nat->(Nat->Ex×Bool×Nat)×(Nat->Ex×Bool×Nat)
 |0=>lev l (λa=>(AL,false,a),λa=>(AL,false,a))
 |n+1=>lev l (Hf l n)
def VG(p:Nat)(A:Option Addr)(c:Nat)(l:List Tok)(deep:Nat)(I:(Nat->Ex×Bool×Nat)×(Nat->Ex×Bool×Nat)):Prop:=
 (∀a,a<=l.length->(a<=(I.1 a).2.2/\(I.1 a).2.2<=l.length)/\InC 257 p A c l deep a (I.1 a)) ∧
 (∀a,a<=l.length->(a<=(I.2 a).2.2/\(I.2 a).2.2<=l.length)/\InC 230 p A c l deep a (I.2 a))
theorem Wl(p:Nat)(A:Option Addr)(c:Nat)(l:List Tok)(deep:Nat)(I:(Nat->Ex×Bool×Nat)×(Nat->Ex×Bool×Nat))(hll:l.length<=990)(hl:∀t∈l,t.s.length<=1000000)(h:VG p A c l deep I):
  FT 263 p A c l deep (EK l I.2):=by
 refine⟨Zh l I.2 (λa ha=>(h.2 a ha).1),λa w ha hP=>?_⟩;unfold EK;by_cases hh:hit l a [40]=true
 ·rw[if_pos hh];have h1:=Ju hh;have h2:=h.2 (a+1) (by omega);exact Ua p A c l deep a (I.2 (a+1)).1 (I.2 (a+1)).2.1 (I.2 (a+1)).2.2 (by omega) (by omega) hh h2.2 w hP
 ·rw[if_neg hh];exact YG p A c l deep a (hit l a [45]) (by omega) (by simpa using hh) rfl hl w hP
theorem Xh(p:Nat)(A:Option Addr)(c:Nat)(l:List Tok)(deep:Nat)(I:(Nat->Ex×Bool×Nat)×(Nat->Ex×Bool×Nat))(cmp:Nat->Ex×Bool×Nat)(hll:l.length<=990)(h:VG p A c l deep I)
 (hC:FT 260 p A c l deep cmp):FT 257 p A c l deep (I9 l I.1 cmp):=by
 refine⟨af l I.1 cmp (λa ha=>(h.1 a ha).1) hC.1,λa w ha hP=>?_⟩;unfold I9;by_cases hh:hit l a [78,79,84]=true
 ·rw[if_pos hh];have h1:=Ju hh;exact Xi p A c l deep a (I.1 (a+1)).1 (I.1 (a+1)).2.1 (I.1 (a+1)).2.2 (by omega) hh (h.1 (a+1) (by omega)).2 w hP
 ·rw[if_neg hh];exact Vx p A c l deep a (cmp a) (by omega) (by simpa using hh) (λw' hP'=>hC.2 a w' ha hP') w hP
theorem RY(p:Nat)(A:Option Addr)(c:Nat)(l:List Tok)(deep:Nat)(I:(Nat->Ex×Bool×Nat)×(Nat->Ex×Bool×Nat))(hll:l.length<=990)(hl:∀t∈l,t.s.length<=1000000)(h:VG p A c l deep I):
  FT 257 p A c l deep (lev l I).1/\FT 230 p A c l deep (lev l I).2:=by
 have h1:=Wl p A c l deep I hll hl h;have h2:=XN p A c l deep _ (by omega) h1;have h3:=WZ p A c l deep _ hll h2;have h4:=Xh p A c l deep I _ hll h h3;exact⟨h4,Ym p A c l deep _ (by omega) (YI p A c l deep _ (by omega) h4)⟩
theorem UK{p:Nat}{A:Option Addr}{c:Nat}{l:List Tok}{deep:Nat}{I:(Nat->Ex×Bool×Nat)×(Nat->Ex×Bool×Nat)}(hd:deep<65536)
 (h:FT 257 p A c l (deep+1) I.1/\FT 230 p A c l (deep+1) I.2):VG p A c l deep I:=
 ⟨λa ha=>⟨h.1.1 a ha,λw hP=>PT 257 p A c l deep a (I.1 a) hd (λw' hP'=>h.1.2 a w' ha hP') (IE (enters_of Tryz.func257 (by kernel_rfl) rfl)) w hP⟩,
  λa ha=>⟨h.2.1 a ha,λw hP=>PT 230 p A c l deep a (I.2 a) hd (λw' hP'=>h.2.2 a w' ha hP') (IE (enters_of Tryz.func230 (by kernel_rfl) rfl)) w hP⟩⟩
theorem LK(p:Nat)(A:Option Addr)(c:Nat)(l:List Tok)(hll:l.length<=990)(hl:∀t∈l,t.s.length<=1000000):∀(n deep:Nat),deep+n=65536->
  FT 257 p A c l deep (Hf l n).1/\FT 230 p A c l deep (Hf l n).2
 |0,deep,hd=>by
  obtain rfl:deep=65536:=by omega
  refine RY p A c l 65536 _ hll hl ⟨λa ha=>⟨⟨Nat.le_refl _,ha⟩,PS _ p A c l a⟩,λa ha=>⟨⟨Nat.le_refl _,ha⟩,PS _ p A c l a⟩⟩
 |n+1,deep,hd=>RY p A c l deep _ hll hl (UK (by omega) (LK p A c l hll hl n (deep+1) (by omega)))
end
section
open Go.RowKit
attribute [local go_sem] ByteArray.extract_mk Ak AY
attribute [local go_sem ↓] Go.wp_at_zero Go.wp_at_succ CY CE
def ED(l:List Tok):Ex×Nat×Int:=
 if ((Hf l 65536).2 0).2.1&&E5 ((Hf l 65536).2 0).1 then(((Hf l 65536).2 0).1,((Hf l 65536).2 0).2.2,0)else(AL,0,2)
def FO(R:Ex×Nat×Int)(w:World)(en:Ending)(w':World):Prop:=
 ∃A' c',en=.returned (.tuple #[.agg (R.1.cells A' c').toArray,.int .i64 (R.2.1:Nat),.int .i64 R.2.2])/\ExR (λb=>w.heap.size<=b/\b<w'.heap.size) R.1 A' c' w'/\Below w.heap.size w w'
theorem FO.drew{R:Ex×Nat×Int}{w w':World}{en:Ending}(h:FO R w en w'):FO R w en w'.drew:=by
 obtain⟨A',c',h1,h2,h3⟩:=h;exact⟨A',c',h1,h2.keep λb hb=>⟨hb,λo=>rfl⟩,h3.drew⟩
theorem ExR.may{Q:Nat->Prop}{e:Ex}{A:Option Addr}{c:Nat}{w:World}(h:ExR Q e A c w){B:Nat}(hQ:∀b,Q b->b<B):∃n,ExS 1000 n w B A e.l:=by
 obtain⟨_,_,_,n,h4⟩:=h;exact⟨n,h4.toS hQ n⟩
theorem Nb(A:Option Addr)(c:Nat)(l:List Tok)(w:World)(hll:l.length<=990)(hl:∀t∈l,t.s.length<=1000000)(hT:TkS w w.heap.size A l)(hE:JP w):
  Calls Tryz.prog 213 #[.slice A l.length c] w (FO (ED l) w):=by
 obtain⟨w0,hw0⟩:∃w0,(w.alloc (.cells (AL.cells none 0).toArray 30)).alloc (.cells #[.slice A l.length c,.int .i64 0,.int .i64 0] 235)=w0:=⟨_,rfl⟩;have kR0:Blk w0 w.heap.size 30 (AL.cells none 0).toArray:=by rw[<-hw0];exact(Blk.new _ _ _).alloc _
 have kp0:Blk w0 (w.heap.size+1) 235 #[.slice A l.length c,.int .i64 ((0:Nat):Int),.int .i64 ((0:Nat):Int)]:=by rw[<-hw0];exact Blk.new' _ _ _ _ (by simp)
 have hb0:Below w.heap.size w w0:=by rw[<-hw0];exact bl
 have hs0:w0.heap.size=w.heap.size+2:=by rw[<-hw0];simp
 have HW:=Lib.hid hw0;have HP0:Hid (PSt (w.heap.size+1) A c l 0 0 w0):=⟨kp0,(hT.below hb0).more (by omega),w,hE,by omega,hb0⟩;have HC:=Lib.hid ((LK (w.heap.size+1) A c l hll hl 65536 0 rfl).2.2 0 w0 (Nat.zero_le _) HP0.out);obtain⟨R,hR⟩:∃R,ED l=R:=⟨_,rfl⟩;rw[hR];unfold ED at hR;obtain⟨Q,hQ⟩:∃Q,(Hf l 65536).2 0=Q:=⟨_,rfl⟩;rw[hQ]at hR;obtain⟨e1,ok1,a1⟩:=Q;simp only at hR;have HR:=Lib.hid hR;have HC2:Hid (Calls Tryz.prog 230 #[.pointer (some ⟨w.heap.size+1,0,none⟩)] w0 (G7 (e1,ok1,a1) (w.heap.size+1) A c l 0 w0)):=by
  have:=HC.out;rw[hQ]at this;exact this
 clear hw0 hT hE kp0 hR hQ HC;go_in
 go_upto_region 2 with fail
 rw[show(w.alloc (.cells #[.string ⟨#[]⟩,.int .i64 0,.int .i64 0,.string ⟨#[]⟩,.string ⟨#[]⟩,.slice none 0 0] 30)).alloc (.cells #[.slice A l.length c,.int .i64 0,.int .i64 0] 235)=w0 from HW.out];clear HW;go_wp2_with fail;refine(HC2.out).mono ?_;rintro en w1 ⟨A1,c1,rfl,hE1,hP1,hb1⟩;dsimp only[Ex.cells];have hz1:=hb1.size;obtain⟨w2,hw2⟩:∃w2,w1.alloc (.cells (e1.cells A1 c1).toArray 30)=w2:=⟨_,rfl⟩;have kB2:Blk w2 w1.heap.size 30 (e1.cells A1 c1).toArray:=by rw[<-hw2];exact Blk.new _ _ _
 have hb2:Below w1.heap.size w1 w2:=by rw[<-hw2];exact bl
 have hs2:w2.heap.size=w1.heap.size+1:=by rw[<-hw2];simp
 have HW2:=Lib.hid hw2;have kR2:=(hb1.blk kR0 (by omega)).below hb2 (by omega);have lR2:=kR2.lt;have lB2:=kB2.lt;have HE2:Hid (ExR (λx=>w.heap.size<x/\x<w1.heap.size) e1 A1 c1 w2):=hE1.keep λx hx=>⟨⟨by omega,by omega⟩,λo=>hb2.cell (p:=⟨x,o,none⟩) hx.2⟩
 have hP2:=hP1.but hb2;have HB1:Hid (∀n,ExS 1000 n w2 w1.heap.size A1 e1.l->Calls Tryz.prog 79 #[.agg (e1.cells A1 c1).toArray] w2 (Ret (.bool (E5 e1)) w2)):=λn h=>by
  rw[<-Xl n e1 (ExS.hgt n h)];exact Nh n e1 A1 c1 w2 HE2.out.1 (h.more (by omega) n)
 have hbw2:Below w.heap.size w w2:=(hb1.inside hb0 (by omega)).trans (hb2.mono (by omega));have HP2:=Lib.hid hP2;clear hw2 hE1 hP1 hP2 hb1 hb2 HP0 HC2 kR0;go_upto_region 3 with fail
 rw[show w1.alloc (.cells #[.string ⟨e1.op.toArray⟩,.int .i64 e1.v.k,.int .i64 e1.v.i,.string ⟨e1.v.s.toArray⟩,.string ⟨e1.s.toArray⟩,.slice A1 e1.l.length c1] 30)=w2 from HW2.out];clear HW2;obtain⟨G,hG⟩:∃G,w1.heap.size=G:=⟨_,rfl⟩;rw[hG]at kB2 lB2 HE2 hs2 HB1 hz1 ⊢;have hGw:w.heap.size<G:=by omega
 clear hG hz1 hs0;obtain⟨z0,z1,z2,z3,z4,z5⟩:=kR2.sixF;obtain⟨r0,r1,r2,r3,r4,r5⟩:=kR2.six;obtain⟨q0,q1,q2,q3,q4,q5⟩:=kB2.six;cases ok1
 ·have HF:Hid (R=(AL,0,2)):=HR.out.symm;clear HR;go_wp2_with fail;refine bodyPost_ret (v:=.tuple #[.agg (AL.cells none 0).toArray,.int .i64 0,.int .i64 2]) (by simp[results,Tryz.results213,go_sem, *,Ex.cells,AL,Ex.op,Ex.v,Ex.s,Ex.l,V.zero]) rfl ?_;rw[HF.out];exact⟨none,0,rfl,⟨CX,Nat.le_refl _,Nat.zero_le _,0,ExQ.nil 0⟩,by exact bl⟩
 ·obtain⟨n,hn⟩:=HE2.out.may (B:=G) (λb hb=>hb.2);have HM:=Lib.hid (HB1.out n hn);clear HB1 hn;obtain⟨M,hM⟩:∃M,E5 e1=M:=⟨_,rfl⟩;have hR:=HR.out;rw[hM]at hR HM;clear HR hM;go_wp2_with fail;refine(HM.out).mono ?_;rintro en w3 ⟨rfl,hb3⟩;have hz3:=hb3.size;have kR3:=kR2.below hb3 lR2;have kB3:=kB2.below hb3 lB2;have lR3:=kR3.lt;have lB3:=kB3.lt;have hbw3:Below w.heap.size w w3:=hbw2.trans (hb3.mono (by omega));clear z0 z1 z2 z3 z4 z5 r0 r1 r2 r3 r4 r5 q0 q1 q2 q3 q4 q5;obtain⟨z0,z1,z2,z3,z4,z5⟩:=kR3.sixF;obtain⟨r0,r1,r2,r3,r4,r5⟩:=kR3.six;obtain⟨q0,q1,q2,q3,q4,q5⟩:=kB3.six;cases M
  ·have HF:Hid (R=(AL,0,2)):=hR.symm;clear hR;go_wp2_with fail;refine bodyPost_ret (v:=.tuple #[.agg (AL.cells none 0).toArray,.int .i64 0,.int .i64 2]) (by simp[results,Tryz.results213,go_sem, *,Ex.cells,AL,Ex.op,Ex.v,Ex.s,Ex.l,V.zero]) rfl ?_;rw[HF.out];exact⟨none,0,rfl,⟨CX,Nat.le_refl _,Nat.zero_le _,0,ExQ.nil 0⟩,by exact bl⟩
  ·have HF:Hid (R=(e1,a1,0)):=hR.symm;clear hR;have hP3:=HP2.out.1.below hb3 HP2.out.1.lt;have p1:w3.cell? ⟨w.heap.size+1,1,none⟩=some (.int .i64 (a1:Nat)):=hP3.cell 1;have lP3:=hP3.lt;go_upto_region 5 with fail
   refine wp_region_held_drew (S:=(λw'=>(w'.cell? ⟨G,0,none⟩=some (.string ⟨e1.op.toArray⟩)/\w'.cell? ⟨G,1,none⟩=some (.int .i64 e1.v.k)/\w'.cell? ⟨G,2,none⟩=some (.int .i64 e1.v.i)/\w'.cell? ⟨G,3,none⟩=some (.string ⟨e1.v.s.toArray⟩)/\w'.cell? ⟨G,4,none⟩=some (.string ⟨e1.s.toArray⟩)/\w'.cell? ⟨G,5,none⟩=some (.slice A1 e1.l.length c1))/\w'.cell? ⟨w.heap.size+1,1,none⟩=some (.int .i64 (a1:Nat)))) (by kernel_rfl) ?_ (λhHeld=>?_)
   ·try dsimp only
    exact⟨Blk.six (t:=30) (by((repeat'(first|with_reducible assumption|with_reducible refine Blk.drew ?_|with_reducible refine Blk.drewN ?_ _|with_reducible refine Blk.set3 ?_ _ _ _|with_reducible refine Blk.far ?_ ?_ _|((with_reducible refine Blk.new' _ _ _ _ ?_)<;>(first|(simp;done)|(simp;omega)|omega)<;>done)|with_reducible refine Blk.alloc ?_ _|with_reducible refine BD.drew ?_|with_reducible refine BD.drewN ?_ _|((with_reducible refine BD.new' _ _ _ _ _ _ ?_)<;>(first|(simp;done)|(simp;omega)|omega)<;>done)|with_reducible refine BD.alloc ?_ _|with_reducible refine BD.far ?_ ?_ _|with_reducible refine BD.below ?_ (by assumption) ?_|with_reducible refine Blk.below ?_ (by assumption) ?_))<;>(first|(simp;done)|(simp;omega)|omega))),Blk.cell (t:=235) (cs:=#[.slice A l.length c,.int .i64 (a1:Nat),.int .i64 ((0:Nat):Int)]) (by((repeat'(first|with_reducible assumption|with_reducible refine Blk.drew ?_|with_reducible refine Blk.drewN ?_ _|with_reducible refine Blk.set3 ?_ _ _ _|with_reducible refine Blk.far ?_ ?_ _|((with_reducible refine Blk.new' _ _ _ _ ?_)<;>(first|(simp;done)|(simp;omega)|omega)<;>done)|with_reducible refine Blk.alloc ?_ _|with_reducible refine BD.drew ?_|with_reducible refine BD.drewN ?_ _|((with_reducible refine BD.new' _ _ _ _ _ _ ?_)<;>(first|(simp;done)|(simp;omega)|omega)<;>done)|with_reducible refine BD.alloc ?_ _|with_reducible refine BD.far ?_ ?_ _|with_reducible refine BD.below ?_ (by assumption) ?_|with_reducible refine Blk.below ?_ (by assumption) ?_))<;>(first|(simp;done)|(simp;omega)|omega))) 1⟩
   refine tS [0,1,2,3,4] ?_;iterate 5(refine tC ?_;refine ap ?_)
   refine tN ?_;refine rdy 5 λK hK=>?_
   go_simp
   skip
   go_wp2_with fail;refine hK.out _ _ (⟨Blk.six (t:=30) (by((repeat'(first|with_reducible assumption|with_reducible refine Blk.drew ?_|with_reducible refine Blk.drewN ?_ _|with_reducible refine Blk.set3 ?_ _ _ _|with_reducible refine Blk.far ?_ ?_ _|((with_reducible refine Blk.new' _ _ _ _ ?_)<;>(first|(simp;done)|(simp;omega)|omega)<;>done)|with_reducible refine Blk.alloc ?_ _|with_reducible refine BD.drew ?_|with_reducible refine BD.drewN ?_ _|((with_reducible refine BD.new' _ _ _ _ _ _ ?_)<;>(first|(simp;done)|(simp;omega)|omega)<;>done)|with_reducible refine BD.alloc ?_ _|with_reducible refine BD.far ?_ ?_ _|with_reducible refine BD.below ?_ (by assumption) ?_|with_reducible refine Blk.below ?_ (by assumption) ?_))<;>(first|(simp;done)|(simp;omega)|omega))),Blk.cell (t:=235) (cs:=#[.slice A l.length c,.int .i64 (a1:Nat),.int .i64 ((0:Nat):Int)]) (by((repeat'(first|with_reducible assumption|with_reducible refine Blk.drew ?_|with_reducible refine Blk.drewN ?_ _|with_reducible refine Blk.set3 ?_ _ _ _|with_reducible refine Blk.far ?_ ?_ _|((with_reducible refine Blk.new' _ _ _ _ ?_)<;>(first|(simp;done)|(simp;omega)|omega)<;>done)|with_reducible refine Blk.alloc ?_ _|with_reducible refine BD.drew ?_|with_reducible refine BD.drewN ?_ _|((with_reducible refine BD.new' _ _ _ _ _ _ ?_)<;>(first|(simp;done)|(simp;omega)|omega)<;>done)|with_reducible refine BD.alloc ?_ _|with_reducible refine BD.far ?_ ?_ _|with_reducible refine BD.below ?_ (by assumption) ?_|with_reducible refine Blk.below ?_ (by assumption) ?_))<;>(first|(simp;done)|(simp;omega)|omega))) 1⟩) λhHeld=>?_
   clear hK K;refine ap ?_;refine tS [6,7] ?_;iterate 2(refine tC ?_;refine ap ?_)
   refine tN ?_;refine wpAnyH_done (by kernel_rfl) ?_ _;go_wp2_with fail;refine bodyPost_ret (v:=.tuple #[.agg (e1.cells A1 c1).toArray,.int .i64 (a1:Nat),.int .i64 0]) (by simp[results,Tryz.results213,go_sem, *,Ex.cells]) rfl ?_;rw[HF.out];have hB6:=But.sixSet w3 w.heap.size (.string ⟨e1.op.toArray⟩) (.int .i64 e1.v.k) (.int .i64 e1.v.i) (.string ⟨e1.v.s.toArray⟩) (.string ⟨e1.s.toArray⟩) (.slice A1 e1.l.length c1);refine FO.drew ?_;exact⟨A1,c1,rfl,HE2.out.keep λx hx=>⟨⟨by omega,by have:=hB6.size;omega⟩,λo=>(hB6.cell (by omega) (by omega) o).trans (hb3.cell (p:=⟨x,o,none⟩) (show x<_ by omega))⟩,by exact bl⟩
end
section
open Go.RowKit
theorem Vy{s:List UInt8}(h:D9 s=true):∃c r,s=c::r/\DV c=true:=by
 unfold D9 GM at h;simp only[Bool.and_eq_true,decide_eq_true_eq,beq_iff_eq]at h;cases s with
 |nil=>simp at h
 |cons c r=>
  refine⟨c,r,rfl, ?_⟩;cases hc:DV c
  ·have:Aj DV BV (c::r)=0:=by unfold Aj;simp[hc]
   rw[this]at h;simp at h
  ·rfl
theorem Yt{s x:List UInt8}(h:D9 s=true){c:UInt8}{r:List UInt8}(hx:x=c::r)(hc:DV c=false):(s==x)=false:=by
 rw[beq_eq_false_iff_ne];obtain⟨d,q,rfl,hd⟩:=Vy h;rintro rfl
 injection hx with h1 _
 subst h1;rw[hc]at hd;cases hd
theorem FX(F:Nat->Ex×Bool×Nat)(l:List Tok)(ws:List (List UInt8))(a:Nat)(e:Ex)(ok:Bool)(a1:Nat)(hF:F a=(e,ok,a1))(ht:Ar l a1 ws=none):D6 F l ws a=(e,ok,a1):=by
 unfold D6;rw[hF];unfold GK;simp only[ht];cases ok<;>rfl
end
end Go.Proofs.YtchilcchogcibaaGreatDoor
