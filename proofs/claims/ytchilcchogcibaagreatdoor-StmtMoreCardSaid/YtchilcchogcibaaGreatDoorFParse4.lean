/- The parser's or, and, sum as plain functions over their parts; The parser's inner and not as plain functions. -/
import Derived.Shelf.Abstract
import Derived.Test.YtchilcchogcibaaGreatDoorFParse2
set_option maxRecDepth 100000
set_option maxHeartbeats 2000000
namespace Go.Proofs.YtchilcchogcibaaGreatDoor
open Go.RowKit
attribute [local go_sem] ByteArray.extract_mk Ak AY
attribute [local go_sem ↓] Go.wp_at_zero Go.wp_at_succ CY CE
theorem IE{f:Nat}(h:Enters Tryz.prog f):∀args w,(callFunc f args).run Tryz.prog w=.ok (.enter f args) w:=h
theorem Xe:∀x∈([[79,82]]:List (List UInt8)),x≠[]/\x.length<=1000/\∀b∈x,b.toNat<128:=by decide
theorem Ym(p:Nat)(A:Option Addr)(c:Nat)(l:List Tok)(deep:Nat)(F:Nat->Ex×Bool×Nat)(hll:l.length<=999)(hC:FT 248 p A c l deep F):FT 230 p A c l deep (D6 F l [[79,82]]):=by
 refine⟨λa ha=>?_,λa w ha hP=>?_⟩
 ·have h1:=hC.1 a ha;have h2:=OO F l [[79,82]] hC.1 (l.length+1) (F a).1 (F a).2.1 (F a).2.2 h1.2;exact⟨Nat.le_trans h1.1 h2.1,h2.2⟩
 ·have lp:=hP.1.lt;obtain⟨w0,hw0⟩:∃w0,(w.alloc (.cells (AL.cells none 0).toArray 30)).alloc (.cells #[.string ⟨#[79,82]⟩] 9)=w0:=⟨_,rfl⟩;have kR0:Blk w0 w.heap.size 30 (AL.cells none 0).toArray:=by rw[<-hw0];exact(Blk.new _ _ _).alloc _
  have kg0:Blk w0 (w.heap.size+1) 9 (([[79,82]]:List (List UInt8)).map MF).toArray:=by rw[<-hw0];exact Blk.new' _ _ _ _ (by simp)
  have hb0:Below w.heap.size w w0:=by rw[<-hw0];exact bl
  have hs0:w0.heap.size=w.heap.size+2:=by rw[<-hw0];simp
  have HW:=Lib.hid hw0;have HP0:=Lib.hid (hP.but hb0);have HC:=Lib.hid hC;clear hw0 hP hC;obtain⟨R,hR⟩:∃R,D6 F l [[79,82]] a=R:=⟨_,rfl⟩;rw[hR];have HR:=Lib.hid hR;clear hR;go_in
  go_wp2_with fail;rw[show(w.alloc (.cells #[.string ⟨#[]⟩,.int .i64 0,.int .i64 0,.string ⟨#[]⟩,.string ⟨#[]⟩,.slice none 0 0] 30)).alloc (.cells #[.string ⟨#[79,82]⟩] 9)=w0 from HW.out];refine(LY 248 p A c l deep F HC.out [[79,82]] (w.heap.size+1) ([[79,82]]:List (List UInt8)).length a w0 hll ha (by decide) Xe (by omega) (IE (enters_of Tryz.func248 (by kernel_rfl) rfl)) HP0.out kg0).mono ?_;rw[HR.out];obtain⟨e1,ok1,a1⟩:=R;rintro en w1 ⟨A1,c1,rfl,hE1,hP1,hb1⟩;dsimp only[Ex.cells];have kR1:=hb1.blk kR0 (by omega);have lR1:=kR1.lt;have hz1:=hb1.size;have HE1:Hid (ExR (λx=>w.heap.size<=x/\x<w1.heap.size/\x≠w.heap.size) e1 A1 c1 w1):=hE1.keep λx hx=>⟨⟨by omega,hx.2,by omega⟩,λo=>rfl⟩
  have HP1:=Lib.hid hP1;have hbw1:=(But.of_below (p:=p) hb0).trans hb1;clear hE1 hP1;obtain⟨z0,z1,z2,z3,z4,z5⟩:=kR1.sixF;obtain⟨r0,r1,r2,r3,r4,r5⟩:=kR1.six;go_wp2_with fail;refine bodyPost_ret (v:=.tuple #[.agg (e1.cells A1 c1).toArray,.bool ok1]) (by simp[results,Tryz.results230,go_sem, *,Ex.cells]) rfl ?_;exact DR rfl (Nat.le_refl _) lp HE1.out HP1.out hbw1 _ _ _ _ _ _
theorem Wn:∀x∈([[65,78,68]]:List (List UInt8)),x≠[]/\x.length<=1000/\∀b∈x,b.toNat<128:=by decide
theorem YI(p:Nat)(A:Option Addr)(c:Nat)(l:List Tok)(deep:Nat)(F:Nat->Ex×Bool×Nat)(hll:l.length<=999)(hC:FT 257 p A c l deep F):FT 248 p A c l deep (D6 F l [[65,78,68]]):=by
 refine⟨λa ha=>?_,λa w ha hP=>?_⟩
 ·have h1:=hC.1 a ha;have h2:=OO F l [[65,78,68]] hC.1 (l.length+1) (F a).1 (F a).2.1 (F a).2.2 h1.2;exact⟨Nat.le_trans h1.1 h2.1,h2.2⟩
 ·have lp:=hP.1.lt;obtain⟨w0,hw0⟩:∃w0,(w.alloc (.cells (AL.cells none 0).toArray 30)).alloc (.cells #[.string ⟨#[65,78,68]⟩] 9)=w0:=⟨_,rfl⟩;have kR0:Blk w0 w.heap.size 30 (AL.cells none 0).toArray:=by rw[<-hw0];exact(Blk.new _ _ _).alloc _
  have kg0:Blk w0 (w.heap.size+1) 9 (([[65,78,68]]:List (List UInt8)).map MF).toArray:=by rw[<-hw0];exact Blk.new' _ _ _ _ (by simp)
  have hb0:Below w.heap.size w w0:=by rw[<-hw0];exact bl
  have hs0:w0.heap.size=w.heap.size+2:=by rw[<-hw0];simp
  have HW:=Lib.hid hw0;have HP0:=Lib.hid (hP.but hb0);have HC:=Lib.hid hC;clear hw0 hP hC;obtain⟨R,hR⟩:∃R,D6 F l [[65,78,68]] a=R:=⟨_,rfl⟩;rw[hR];have HR:=Lib.hid hR;clear hR;go_in
  go_wp2_with fail;rw[show(w.alloc (.cells #[.string ⟨#[]⟩,.int .i64 0,.int .i64 0,.string ⟨#[]⟩,.string ⟨#[]⟩,.slice none 0 0] 30)).alloc (.cells #[.string ⟨#[65,78,68]⟩] 9)=w0 from HW.out];refine(LY 257 p A c l deep F HC.out [[65,78,68]] (w.heap.size+1) ([[65,78,68]]:List (List UInt8)).length a w0 hll ha (by decide) Wn (by omega) (IE (enters_of Tryz.func257 (by kernel_rfl) rfl)) HP0.out kg0).mono ?_;rw[HR.out];obtain⟨e1,ok1,a1⟩:=R;rintro en w1 ⟨A1,c1,rfl,hE1,hP1,hb1⟩;dsimp only[Ex.cells];have kR1:=hb1.blk kR0 (by omega);have lR1:=kR1.lt;have hz1:=hb1.size;have HE1:Hid (ExR (λx=>w.heap.size<=x/\x<w1.heap.size/\x≠w.heap.size) e1 A1 c1 w1):=hE1.keep λx hx=>⟨⟨by omega,hx.2,by omega⟩,λo=>rfl⟩
  have HP1:=Lib.hid hP1;have hbw1:=(But.of_below (p:=p) hb0).trans hb1;clear hE1 hP1;obtain⟨z0,z1,z2,z3,z4,z5⟩:=kR1.sixF;obtain⟨r0,r1,r2,r3,r4,r5⟩:=kR1.six;go_wp2_with fail;refine bodyPost_ret (v:=.tuple #[.agg (e1.cells A1 c1).toArray,.bool ok1]) (by simp[results,Tryz.results248,go_sem, *,Ex.cells]) rfl ?_;exact DR rfl (Nat.le_refl _) lp HE1.out HP1.out hbw1 _ _ _ _ _ _
theorem VY:∀x∈([[43],[45]]:List (List UInt8)),x≠[]/\x.length<=1000/\∀b∈x,b.toNat<128:=by decide
theorem XN(p:Nat)(A:Option Addr)(c:Nat)(l:List Tok)(deep:Nat)(F:Nat->Ex×Bool×Nat)(hll:l.length<=999)(hC:FT 263 p A c l deep F):FT 262 p A c l deep (D6 F l [[43],[45]]):=by
 refine⟨λa ha=>?_,λa w ha hP=>?_⟩
 ·have h1:=hC.1 a ha;have h2:=OO F l [[43],[45]] hC.1 (l.length+1) (F a).1 (F a).2.1 (F a).2.2 h1.2;exact⟨Nat.le_trans h1.1 h2.1,h2.2⟩
 ·have lp:=hP.1.lt;obtain⟨w0,hw0⟩:∃w0,(w.alloc (.cells (AL.cells none 0).toArray 30)).alloc (.cells #[.string ⟨#[43]⟩,.string ⟨#[45]⟩] 9)=w0:=⟨_,rfl⟩;have kR0:Blk w0 w.heap.size 30 (AL.cells none 0).toArray:=by rw[<-hw0];exact(Blk.new _ _ _).alloc _
  have kg0:Blk w0 (w.heap.size+1) 9 (([[43],[45]]:List (List UInt8)).map MF).toArray:=by rw[<-hw0];exact Blk.new' _ _ _ _ (by simp)
  have hb0:Below w.heap.size w w0:=by rw[<-hw0];exact bl
  have hs0:w0.heap.size=w.heap.size+2:=by rw[<-hw0];simp
  have HW:=Lib.hid hw0;have HP0:=Lib.hid (hP.but hb0);have HC:=Lib.hid hC;clear hw0 hP hC;obtain⟨R,hR⟩:∃R,D6 F l [[43],[45]] a=R:=⟨_,rfl⟩;rw[hR];have HR:=Lib.hid hR;clear hR;go_in
  go_wp2_with fail;rw[show(w.alloc (.cells #[.string ⟨#[]⟩,.int .i64 0,.int .i64 0,.string ⟨#[]⟩,.string ⟨#[]⟩,.slice none 0 0] 30)).alloc (.cells #[.string ⟨#[43]⟩,.string ⟨#[45]⟩] 9)=w0 from HW.out];refine(LY 263 p A c l deep F HC.out [[43],[45]] (w.heap.size+1) ([[43],[45]]:List (List UInt8)).length a w0 hll ha (by decide) VY (by omega) (IE (enters_of Tryz.func263 (by kernel_rfl) rfl)) HP0.out kg0).mono ?_;rw[HR.out];obtain⟨e1,ok1,a1⟩:=R;rintro en w1 ⟨A1,c1,rfl,hE1,hP1,hb1⟩;dsimp only[Ex.cells];have kR1:=hb1.blk kR0 (by omega);have lR1:=kR1.lt;have hz1:=hb1.size;have HE1:Hid (ExR (λx=>w.heap.size<=x/\x<w1.heap.size/\x≠w.heap.size) e1 A1 c1 w1):=hE1.keep λx hx=>⟨⟨by omega,hx.2,by omega⟩,λo=>rfl⟩
  have HP1:=Lib.hid hP1;have hbw1:=(But.of_below (p:=p) hb0).trans hb1;clear hE1 hP1;obtain⟨z0,z1,z2,z3,z4,z5⟩:=kR1.sixF;obtain⟨r0,r1,r2,r3,r4,r5⟩:=kR1.six;go_wp2_with fail;refine bodyPost_ret (v:=.tuple #[.agg (e1.cells A1 c1).toArray,.bool ok1]) (by simp[results,Tryz.results262,go_sem, *,Ex.cells]) rfl ?_;exact DR rfl (Nat.le_refl _) lp HE1.out HP1.out hbw1 _ _ _ _ _ _
def AtC(f p:Nat)(A:Option Addr)(c:Nat)(l:List Tok)(deep a:Nat)(R:Ex×Bool×Nat):Prop:=
 ∀w,PSt p A c l a deep w->Calls Tryz.prog f #[.pointer (some ⟨p,0,none⟩)] w (G7 R p A c l deep w)
def InC(f p:Nat)(A:Option Addr)(c:Nat)(l:List Tok)(deep a:Nat)(R:Ex×Bool×Nat):Prop:=
 ∀w,PSt p A c l a deep w->Calls Tryz.prog 261 #[.pointer (some ⟨p,0,none⟩),.func (.func f) #[.pointer (some ⟨p,0,none⟩)] #[]] w (G7 R p A c l deep w)
theorem PT(f p:Nat)(A:Option Addr)(c:Nat)(l:List Tok)(deep a:Nat)(R:Ex×Bool×Nat)(hd:deep<65536)(hC:AtC f p A c l (deep+1) a R)(hent:∀args w,(callFunc f args).run Tryz.prog w=.ok (.enter f args) w)(w:World)(hP:PSt p A c l a deep w):
  Calls Tryz.prog 261 #[.pointer (some ⟨p,0,none⟩),.func (.func f) #[.pointer (some ⟨p,0,none⟩)] #[]] w (G7 R p A c l deep w):=by
 have lp:=hP.1.lt;have HC:=Lib.hid hC;obtain⟨w0,hw0⟩:∃w0,w.alloc (.cells (AL.cells none 0).toArray 30)=w0:=⟨_,rfl⟩;have kR0:Blk w0 w.heap.size 30 (AL.cells none 0).toArray:=by rw[<-hw0];exact Blk.new _ _ _
 have hb0:Below w.heap.size w w0:=by rw[<-hw0];exact bl
 have hs0:w0.heap.size=w.heap.size+1:=by rw[<-hw0];simp
 have HW:=Lib.hid hw0;have hP0:=hP.but hb0;clear hw0 hP hC;have x2:w0.cell? ⟨p,2,none⟩=some (.int .i64 (deep:Nat)):=hP0.1.cell 2;have y2:=hP0.1.frozen 2;have b6:((deep:Int)==65536)=false:=by rw[beq_eq_false_iff_ne];omega
 have HP0:=Lib.hid hP0;clear hP0;obtain⟨e1,ok1,a1⟩:=R;go_in
 go_upto_region 1 with fail
 rw[show w.alloc (.cells #[.string ⟨#[]⟩,.int .i64 0,.int .i64 0,.string ⟨#[]⟩,.string ⟨#[]⟩,.slice none 0 0] 30)=w0 from HW.out];clear HW;go_upto_region 4 with fail
 refine Hl (λwx=>Blk wx w.heap.size 30 (AL.cells none 0).toArray/\Hid (PSt p A c l a (deep+1) wx)/\But p w wx/\w.heap.size<wx.heap.size)
  ⟨kR0.far (by show w.heap.size≠p;omega) _,⟨HP0.out.1.set_ 2 _,HP0.out.2.below (by exact bl)⟩,(But.of_below hb0).set 2 _,by simp;omega⟩ ?_
 clear x2 y2 HP0 kR0;rintro W ⟨kR,HPW,hbW,hsW⟩;go_wp2_with fail;refine(HC.out W HPW.out).mono ?_;rintro en w1 ⟨A1,c1,rfl,hE1,hP1,hb1⟩;dsimp only[Ex.cells];obtain⟨w2,hw2⟩:∃w2,w1.alloc (.cells (e1.cells A1 c1).toArray 30)=w2:=⟨_,rfl⟩;have kB2:Blk w2 w1.heap.size 30 (e1.cells A1 c1).toArray:=by rw[<-hw2];exact Blk.new _ _ _
 have hb2:Below w1.heap.size w1 w2:=by rw[<-hw2];exact bl
 have hs2:w2.heap.size=w1.heap.size+1:=by rw[<-hw2];simp
 have HW2:=Lib.hid hw2;clear hw2;have hz1:=hb1.size;have kR2:=(hb1.blk kR (by omega)).below hb2 (by omega);have hP2:=hP1.but hb2;have x2:w2.cell? ⟨p,2,none⟩=some (.int .i64 ((deep+1:Nat):Int)):=hP2.1.cell 2;have x3:w2.cell? ⟨p,2,none⟩=some (.int .i64 ((deep:Int)+1)):=by rw[x2];simp
 have y2:=hP2.1.frozen 2;have HP2:=Lib.hid hP2;have HE2:Hid (ExR (λx=>w.heap.size<x/\x<w1.heap.size) e1 A1 c1 w2):=hE1.keep λx hx=>⟨⟨by omega,by omega⟩,λo=>hb2.cell (p:=⟨x,o,none⟩) hx.2⟩
 have hbw2:But p w w2:=(hbW.trans hb1).after hb2;have lp2:=hP2.1.lt;clear hP1 hE1 hb2 hP2 x2 HPW;go_upto_region 5 with fail
 rw[show w1.alloc (.cells #[.string ⟨e1.op.toArray⟩,.int .i64 e1.v.k,.int .i64 e1.v.i,.string ⟨e1.v.s.toArray⟩,.string ⟨e1.s.toArray⟩,.slice A1 e1.l.length c1] 30)=w2 from HW2.out];clear HW2;go_upto_region 6 with fail
 have hB3:=(But.refl p w2).set 2 (.int .i64 (deep:Nat));refine Hl (λwx=>Blk wx w.heap.size 30 (AL.cells none 0).toArray/\Blk wx w1.heap.size 30 (e1.cells A1 c1).toArray/\Hid (PSt p A c l a1 deep wx)/\Hid (ExR (λx=>w.heap.size<x/\x<wx.heap.size) e1 A1 c1 wx)/\But p w wx)
  ⟨kR2.far (by show w.heap.size≠p;omega) _,kB2.far (by show w1.heap.size≠p;omega) _,⟨by simpa using HP2.out.1.set_ 2 (.int .i64 (deep:Nat)),HP2.out.2.below (by exact bl)⟩,HE2.out.keep λx hx=>⟨⟨hx.1,by simp;omega⟩,λo=>by simpa using hB3.cell (b:=x) (by omega) (by omega) o⟩,hbw2.set 2 _⟩ ?_
 clear HP2 HE2 kR2 kB2 x3 y2 hbw2 hB3;rintro X ⟨kR,kB,HPX,HEX,hbX⟩;have lR:=kR.lt;have lB:=kB.lt;obtain⟨q0,q1,q2,q3,q4,q5⟩:=kB.six;obtain⟨z0,z1,z2,z3,z4,z5⟩:=kR.sixF;obtain⟨r0,r1,r2,r3,r4,r5⟩:=kR.six;go_wp2_with fail;refine bodyPost_ret (v:=.tuple #[.agg (e1.cells A1 c1).toArray,.bool ok1]) (by simp[results,Tryz.results261,go_sem, *,Ex.cells]) rfl ?_;exact DR rfl (Nat.le_refl _) lp (HEX.out.keep λx hx=>⟨⟨by omega,hx.2,by omega⟩,λo=>rfl⟩) HPX.out hbX _ _ _ _ _ _
theorem PS(f p:Nat)(A:Option Addr)(c:Nat)(l:List Tok)(a:Nat):InC f p A c l 65536 a (AL,false,a):=by
 intro w hP;have lp:=hP.1.lt;obtain⟨w0,hw0⟩:∃w0,w.alloc (.cells (AL.cells none 0).toArray 30)=w0:=⟨_,rfl⟩;have kR0:Blk w0 w.heap.size 30 (AL.cells none 0).toArray:=by rw[<-hw0];exact Blk.new _ _ _
 have hb0:Below w.heap.size w w0:=by rw[<-hw0];exact bl
 have lR0:=kR0.lt;have HW:=Lib.hid hw0;have hP0:=hP.but hb0;clear hw0 hP;have x2:w0.cell? ⟨p,2,none⟩=some (.int .i64 65536):=hP0.1.cell 2;have HP0:=Lib.hid hP0;clear hP0;obtain⟨z0,z1,z2,z3,z4,z5⟩:=kR0.sixF;obtain⟨r0,r1,r2,r3,r4,r5⟩:=kR0.six;go_in
 go_upto_region 1 with fail
 rw[show w.alloc (.cells #[.string ⟨#[]⟩,.int .i64 0,.int .i64 0,.string ⟨#[]⟩,.string ⟨#[]⟩,.slice none 0 0] 30)=w0 from HW.out];clear HW;go_wp2_with fail;refine bodyPost_ret (v:=.tuple #[.agg (AL.cells none 0).toArray,.bool false]) (by simp[results,Tryz.results261,go_sem, *,Ex.cells,AL,Ex.op,Ex.v,Ex.s,Ex.l,V.zero]) rfl ?_;exact DR rfl (Nat.le_refl _) lp ⟨⟨⟨by simp[AL,Ex.v,V.zero],by simp[AL,Ex.v,V.zero]⟩,by simp[AL,Ex.op],by simp[AL,Ex.s],by simp[AL,Ex.v,V.zero]⟩,Nat.le_refl _,Nat.zero_le _,0,ExQ.nil 0⟩ HP0.out (But.of_below hb0) _ _ _ _ _ _
theorem Q8{p:Nat}{A:Option Addr}{c:Nat}{l:List Tok}{deep:Nat}{w X:World}{op:List UInt8}{e:Ex}{A':Option Addr}{c' g a:Nat}{b:Bool}(ho:op.length<=1000)(hg:w.heap.size<=g)(hpg:p<g)(hE:ExR (λx=>w.heap.size<=x/\x<X.heap.size/\x≠g) e A' c' X)
 (hP:PSt p A c l a deep X)(hb:But p w X):
  G7 (.mk op V.zero [] [e],b,a) p A c l deep w (.returned (.tuple #[.agg ((Ex.mk op V.zero [] [e]).cells (some ⟨X.heap.size,0,none⟩) 1).toArray,.bool b]))
   (((((((X.setCell ⟨g,0,none⟩ (.string ⟨op.toArray⟩)).setCell ⟨g,1,none⟩ (.int .i64 0)).setCell ⟨g,2,none⟩ (.int .i64 0)).setCell ⟨g,3,none⟩ (.string ⟨#[]⟩)).setCell ⟨g,4,none⟩ (.string ⟨#[]⟩)).setCell ⟨g,5,none⟩ (.slice (some ⟨X.heap.size,0,none⟩) 1 1)).alloc (.cells #[.string ⟨e.op.toArray⟩,.int .i64 e.v.k,.int .i64 e.v.i,.string ⟨e.v.s.toArray⟩,.string ⟨e.s.toArray⟩,.slice A' e.l.length c'] 30)):=by
 have hB:=But.sixSet X g (.string ⟨op.toArray⟩) (.int .i64 0) (.int .i64 0) (.string ⟨#[]⟩) (.string ⟨#[]⟩) (.slice (some ⟨X.heap.size,0,none⟩) 1 1);have hP1:=hP.far hB hpg;have hbs:=hb.sixOwn hg (.string ⟨op.toArray⟩) (.int .i64 0) (.int .i64 0) (.string ⟨#[]⟩) (.string ⟨#[]⟩) (.slice (some ⟨X.heap.size,0,none⟩) 1 1);have hsz:((((((X.setCell ⟨g,0,none⟩ (.string ⟨op.toArray⟩)).setCell ⟨g,1,none⟩ (.int .i64 0)).setCell ⟨g,2,none⟩ (.int .i64 0)).setCell ⟨g,3,none⟩ (.string ⟨#[]⟩)).setCell ⟨g,4,none⟩ (.string ⟨#[]⟩)).setCell ⟨g,5,none⟩ (.slice (some ⟨X.heap.size,0,none⟩) 1 1)).heap.size=X.heap.size:=by simp
 have hE1:=hE.keep (Q':=λx=>w.heap.size<=x/\x<X.heap.size/\x≠g) λx hx=>⟨hx,λo=>hB.cell hx.2.1 hx.2.2 o⟩
 generalize ((((((X.setCell ⟨g,0,none⟩ (.string ⟨op.toArray⟩)).setCell ⟨g,1,none⟩ (.int .i64 0)).setCell ⟨g,2,none⟩ (.int .i64 0)).setCell ⟨g,3,none⟩ (.string ⟨#[]⟩)).setCell ⟨g,4,none⟩ (.string ⟨#[]⟩)).setCell ⟨g,5,none⟩ (.slice (some ⟨X.heap.size,0,none⟩) 1 1))=Y at *
 have hz:=hb.size;have hbl:Below Y.heap.size Y (Y.alloc (.cells (e.cells A' c').toArray 30)):=(Below.refl _ _).alloc (Nat.le_refl _) _;refine⟨some ⟨X.heap.size,0,none⟩,1,rfl, ?_,hP1.but hbl,hbs.after hbl⟩;refine ExR.one (t:=30) (hE1.keep λx hx=>⟨⟨hx.1,by simp;omega⟩,λo=>hbl.cell (p:=⟨x,o,none⟩) (show x<Y.heap.size by omega)⟩) (Blk.new' Y X.heap.size _ _ hsz) ⟨by omega,by simp;omega⟩ ho
theorem Vx(p:Nat)(A:Option Addr)(c:Nat)(l:List Tok)(deep a:Nat)(R:Ex×Bool×Nat)(ha:a<=1000)(hh:hit l a [78,79,84]=false)(hC:AtC 260 p A c l deep a R):AtC 257 p A c l deep a R:=by
 intro w hP;have lp:=hP.1.lt;have HC:=Lib.hid hC;have HH:=Lib.hid hh;obtain⟨w0,hw0⟩:∃w0,w.alloc (.cells (AL.cells none 0).toArray 30)=w0:=⟨_,rfl⟩;have kR0:Blk w0 w.heap.size 30 (AL.cells none 0).toArray:=by rw[<-hw0];exact Blk.new _ _ _
 have hb0:Below w.heap.size w w0:=by rw[<-hw0];exact bl
 have hs0:w0.heap.size=w.heap.size+1:=by rw[<-hw0];simp
 have HW:=Lib.hid hw0;have HP0:=Lib.hid (hP.but hb0);clear hw0 hP hC hh;obtain⟨e1,ok1,a1⟩:=R;go_in
 go_upto_region 1 with fail
 rw[show w.alloc (.cells #[.string ⟨#[]⟩,.int .i64 0,.int .i64 0,.string ⟨#[]⟩,.string ⟨#[]⟩,.slice none 0 0] 30)=w0 from HW.out];clear HW;go_wp2_with fail;refine(Fg p A c l a deep [78,79,84] w0 ha HP0.out).mono ?_;rw[HH.out];rintro en w1 ⟨rfl,hP1,hb1⟩;have hz1:=hb1.size;have HP1:Hid (PSt p A c l a deep w1):=hP1;clear hP1;go_wp2_with fail;refine(HC.out w1 HP1.out).mono ?_;rintro en w2 ⟨A2,c2,rfl,hE2,hP2,hb2⟩;dsimp only[Ex.cells];have hz2:=hb2.size;have kR2:=hb2.blk (hb1.blk kR0 (by omega)) (by omega);have lR2:=kR2.lt;have HE2:Hid (ExR (λx=>w.heap.size<=x/\x<w2.heap.size/\x≠w.heap.size) e1 A2 c2 w2):=hE2.keep λx hx=>⟨⟨by omega,hx.2,by omega⟩,λo=>rfl⟩
 have HP2:=Lib.hid hP2;have hbw2:=((But.of_below (p:=p) hb0).trans hb1).trans hb2;clear hE2 hP2;obtain⟨z0,z1,z2,z3,z4,z5⟩:=kR2.sixF;obtain⟨r0,r1,r2,r3,r4,r5⟩:=kR2.six;go_wp2_with fail;refine bodyPost_ret (v:=.tuple #[.agg (e1.cells A2 c2).toArray,.bool ok1]) (by simp[results,Tryz.results257,go_sem, *,Ex.cells]) rfl ?_;exact DR rfl (Nat.le_refl _) lp HE2.out HP2.out hbw2 _ _ _ _ _ _
theorem Xi(p:Nat)(A:Option Addr)(c:Nat)(l:List Tok)(deep a:Nat)(e1:Ex)(ok1:Bool)(a1:Nat)(ha:a<=1000)(hh:hit l a [78,79,84]=true)(hC:InC 257 p A c l deep (a+1) (e1,ok1,a1)):
  AtC 257 p A c l deep a (.mk C9 V.zero [] [e1],ok1,a1):=by
 intro w hP;have lp:=hP.1.lt;have HC:=Lib.hid hC;have HH:=Lib.hid hh;obtain⟨w0,hw0⟩:∃w0,w.alloc (.cells (AL.cells none 0).toArray 30)=w0:=⟨_,rfl⟩;have kR0:Blk w0 w.heap.size 30 (AL.cells none 0).toArray:=by rw[<-hw0];exact Blk.new _ _ _
 have hb0:Below w.heap.size w w0:=by rw[<-hw0];exact bl
 have hs0:w0.heap.size=w.heap.size+1:=by rw[<-hw0];simp
 have HW:=Lib.hid hw0;have HP0:=Lib.hid (hP.but hb0);clear hw0 hP hC hh;go_in
 go_upto_region 1 with fail
 rw[show w.alloc (.cells #[.string ⟨#[]⟩,.int .i64 0,.int .i64 0,.string ⟨#[]⟩,.string ⟨#[]⟩,.slice none 0 0] 30)=w0 from HW.out];clear HW;go_wp2_with fail;refine(Fg p A c l a deep [78,79,84] w0 ha HP0.out).mono ?_;rw[HH.out];rintro en w1 ⟨rfl,hP1,hb1⟩;have hz1:=hb1.size;have HP1:Hid (PSt p A c l (a+1) deep w1):=hP1;clear hP1;go_wp2_with fail;refine(HC.out w1 HP1.out).mono ?_;rintro en w2 ⟨A2,c2,rfl,hE2,hP2,hb2⟩;dsimp only[Ex.cells];have hz2:=hb2.size;obtain⟨w3,hw3⟩:∃w3,w2.alloc (.cells (e1.cells A2 c2).toArray 30)=w3:=⟨_,rfl⟩;have kB3:Blk w3 w2.heap.size 30 (e1.cells A2 c2).toArray:=by rw[<-hw3];exact Blk.new _ _ _
 have hb3:Below w2.heap.size w2 w3:=by rw[<-hw3];exact bl
 have hs3:w3.heap.size=w2.heap.size+1:=by rw[<-hw3];simp
 have HW3:=Lib.hid hw3;clear hw3;have kR3:=(hb2.blk (hb1.blk kR0 (by omega)) (by omega)).below hb3 (by omega);have lR3:=kR3.lt;have lB3:=kB3.lt;have HE3:Hid (ExR (λx=>w.heap.size<=x/\x<w3.heap.size/\x≠w.heap.size) e1 A2 c2 w3):=hE2.keep λx hx=>⟨⟨by omega,by omega,by omega⟩,λo=>hb3.cell (p:=⟨x,o,none⟩) hx.2⟩
 have HP3:=Lib.hid (hP2.but hb3);have hbw3:=(((But.of_below (p:=p) hb0).trans hb1).trans hb2).after hb3;clear hE2 hP2;obtain⟨z0,z1,z2,z3,z4,z5⟩:=kR3.sixF;obtain⟨r0,r1,r2,r3,r4,r5⟩:=kR3.six;obtain⟨q0,q1,q2,q3,q4,q5⟩:=kB3.six;go_upto_region 4 with fail
 rw[show w2.alloc (.cells #[.string ⟨e1.op.toArray⟩,.int .i64 e1.v.k,.int .i64 e1.v.i,.string ⟨e1.v.s.toArray⟩,.string ⟨e1.s.toArray⟩,.slice A2 e1.l.length c2] 30)=w3 from HW3.out];clear HW3 hs3 hs0 hz1 hz2;go_wp2_with fail;refine bodyPost_ret (v:=.tuple #[.agg ((Ex.mk C9 V.zero [] [e1]).cells (some ⟨w3.heap.size,0,none⟩) 1).toArray,.bool ok1]) (by simp[results,Tryz.results257,go_sem, *,Ex.cells,Ex.op,Ex.v,Ex.s,Ex.l,V.zero,C9]) rfl ?_;exact Q8 (by decide) (Nat.le_refl _) lp HE3.out HP3.out hbw3
end Go.Proofs.YtchilcchogcibaaGreatDoor
