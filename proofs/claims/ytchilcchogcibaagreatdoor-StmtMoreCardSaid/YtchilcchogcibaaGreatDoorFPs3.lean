/- The statement parser's granted, grant and revoke, as plain functions. -/
import Derived.Test.YtchilcchogcibaaGreatDoorFPs2
set_option maxRecDepth 100000
set_option maxHeartbeats 4000000
namespace Go.Proofs.YtchilcchogcibaaGreatDoor
open Go.RowKit
attribute [local go_sem] ByteArray.extract_mk Ak AY
attribute [local go_sem ↓] Go.wp_at_zero Go.wp_at_succ
theorem Dp(cs:Array Value)(a o:Nat)(v:Value)(ho:o≠1):(Aa cs a).setIfInBounds o v=Aa (cs.setIfInBounds o v) a:=by
 unfold Aa;apply Array.ext_getElem?;intro i;simp only[Array.getElem?_setIfInBounds,Array.size_setIfInBounds];by_cases h1:1=i<;>by_cases h2:o=i<;>simp[h1,h2]
 ·exact absurd (h2.trans h1.symm) ho
def Ej(l:List Tok)(a:Nat)(ahead:List UInt8):Option (List UInt8×List UInt8):=
 if hit l a [82,69,65,68]then(if hit l (a+1) [79,78]then(AO l (a+2)).map λt=>(ahead++[114,101,97,100],t)else none)
 else if hit l a [87,82,73,84,69]then(if hit l (a+1) [79,78]then(AO l (a+2)).map λt=>(ahead++[119,114,105,116,101],t)else none)else none
def RetGd(o:Option (List UInt8×List UInt8))(g:Nat)(A:Option Addr)(c:Nat)(l:List Tok)(a:Nat)(cs:Array Value)(w:World)(en:Ending)(w':World):Prop:=
 match o with
 |none=>en=.returned (.bool false)/\But g w w'
 |some r=>en=.returned (.bool true)/\PsS g A c l (a+3) (Aa ((cs.setIfInBounds 2 (.string ⟨r.1.toArray⟩)).setIfInBounds 3 (.string ⟨r.2.toArray⟩)) (a+3)) w'/\But g w w'
theorem Sm(l:List Tok)(a:Nat)(x:List UInt8):CV l a [x]=(hit l a x).toNat:=by
 unfold CV CV;cases hit l a x<;>rfl
theorem CG(g:Nat)(A:Option Addr)(c:Nat)(l:List Tok)(a:Nat)(cs:Array Value)(x:List UInt8)(b c':Nat)(w:World)(ha:a+1<=1000000)(h:PsS g A c l a cs w)(hx:w.cell? ⟨b,0,none⟩=some (.string ⟨x.toArray⟩))(hb:b≠g):
  Calls Tryz.prog 160 #[.pointer (some ⟨g,0,none⟩),.slice (some ⟨b,0,none⟩) 1 c'] w (EO (hit l a x) g A c l (a+(hit l a x).toNat) (Aa cs (a+(hit l a x).toNat)) w):=by
 have:=Jp g A c l a cs [x] (some ⟨b,0,none⟩) c' w ha h (λ_=>⟨b,0,rfl,⟨Ag hx,hb⟩,λi y hy=>by
  cases i with
  |zero=>simp at hy;subst hy;exact hx
  |succ i=>simp at hy⟩)
 rw[Sm]at this;rw[show decide ((hit l a x).toNat=[x].length)=hit l a x from by cases hit l a x<;>rfl]at this;exact this
theorem L6(g:Nat)(A:Option Addr)(c:Nat)(l:List Tok)(a:Nat)(cs:Array Value)(ahead o2 o3:List UInt8)(w:World)(ha:a<=1000)(hah:ahead.length<=1000)(h:PsS g A c l a cs w)(h2:cs[2]? = some (.string ⟨o2.toArray⟩))(h3:cs[3]? = some (.string ⟨o3.toArray⟩))(hs:∀t∈l,t.s.length<=1000):
  Calls Tryz.prog 177 #[.pointer (some ⟨g,0,none⟩),.string ⟨ahead.toArray⟩] w (RetGd (Ej l a ahead) g A c l a cs w):=by
 obtain⟨R,hR⟩:∃R,Ej l a ahead=R:=⟨_,rfl⟩;have HR:Hid ((if hit l a [82,69,65,68]then(if hit l (a+1) [79,78]then(AO l (a+2)).map λt=>(ahead++[114,101,97,100],t)else none)else if hit l a [87,82,73,84,69]then(if hit l (a+1) [79,78]then(AO l (a+2)).map λt=>(ahead++[119,114,105,116,101],t)else none)else none)=R):=hR;rw[hR];have HT:=Lib.hid (Ac g A c l a cs [82,69,65,68] w (by omega) h);obtain⟨HA,hHA⟩:∃b,hit l a [82,69,65,68]=b:=⟨_,rfl⟩;rw[hHA]at HT HR;have HS:=Lib.hid hs;have H2:Hid (∀(b:Nat),(Aa cs b)[2]? = some (.string ⟨o2.toArray⟩)):=λb=>by unfold Aa;rw[Array.getElem?_setIfInBounds_ne (by decide)];exact h2
 have H3:Hid (∀(b:Nat) (v:Value),(Aa (cs.setIfInBounds 2 v) b)[3]? = some (.string ⟨o3.toArray⟩)):=λb v=>by unfold Aa;rw[Array.getElem?_setIfInBounds_ne (by decide),Array.getElem?_setIfInBounds_ne (by decide)];exact h3
 clear hR hHA h h2 h3 hs;go_in
 go_wp2_with fail;refine HT.out.mono ?_;rintro en w1 ⟨rfl,hP1,hb1⟩;cases HA with
 |true=>
  have HR:Hid ((if hit l (a+1) [79,78]then(AO l (a+2)).map λt=>(ahead++[114,101,97,100],t)else none)=R):=HR.out;have HP1:Hid (PsS g A c l (a+1) (Aa cs (a+1)) w1):=hP1;have HB1:=Lib.hid hb1;have x2:w1.cell? ⟨g,2,none⟩=some (.string ⟨o2.toArray⟩):=(HP1.out.blk.cell 2).trans (H2.out _);have f2:=HP1.out.blk.frozen 2;clear hP1 hb1;obtain⟨w2,hw2⟩:∃w2,w1.setCell ⟨g,2,none⟩ (.string ⟨(ahead++[114,101,97,100]).toArray⟩)=w2:=⟨_,rfl⟩;have HW2:=Lib.hid hw2;have hP2:PsS g A c l (a+1) (Aa (cs.setIfInBounds 2 (.string ⟨(ahead++[114,101,97,100]).toArray⟩)) (a+1)) w2:=by
   rw[<-hw2,<-Dp _ _ _ _ (by decide)];exact HP1.out.set 2 (Nat.le_refl _) _
  have hb2:But g w w2:=by rw[<-hw2];exact HB1.out.set 2 _
  obtain⟨w3,hw3⟩:∃w3,w2.alloc (.cells #[.string ⟨#[79,78]⟩] 9)=w3:=⟨_,rfl⟩;have k3:Blk w3 w2.heap.size 9 #[.string ⟨#[79,78]⟩]:=by rw[<-hw3];exact Blk.new _ _ _
  have hb23:Below w2.heap.size w2 w3:=by rw[<-hw3];exact bl
  have hP3:=hP2.below hb23;have hg2:g<w2.heap.size:=hP2.blk.lt;have HWD:=Lib.hid (CG g A c l (a+1) _ [79,78] w2.heap.size 1 w3 (by omega) hP3 (k3.cell 0) (by omega));rw[AQ]at HWD;have HB3:=Lib.hid (hb2.trans (But.of_below (p:=g) hb23));have HW3:=Lib.hid hw3;obtain⟨HO,hHO⟩:∃b,hit l (a+1) [79,78]=b:=⟨_,rfl⟩;rw[hHO]at HWD HR;clear hw2 hP2 hw3 k3 hP3 hHO hb23 hb2;go_upto_region 6 with fail
  rw[HW2.out];clear x2 f2 HW2;go_wp2_with fail;rw[show World.alloc w2 _=w3 from HW3.out];refine HWD.out.mono ?_;rintro en w4 ⟨rfl,hP4,hb4⟩;have HB4:=Lib.hid (HB3.out.trans hb4);cases HO with
  |false=>
   have hR:R=none:=HR.out.symm;subst hR;clear hP4 hb4;go_wp2_with fail;go_ret;exact⟨rfl,HB4.out⟩
  |true=>
   have hR:(AO l (a+2)).map _=R:=HR.out;have hP4':PsS g A c l (a+2) _ w4:=hP4;have HNM:=Lib.hid (Bv g A c l (a+2) _ 3 o3 w4 (by omega) hP4' (by decide) (H3.out _ _) HS.out);obtain⟨ON,hON⟩:∃x,AO l (a+2)=x:=⟨_,rfl⟩;rw[hON]at HNM hR;clear hP4 hP4' hb4 hON HR HWD;go_wp2_with fail;refine HNM.out.mono ?_;cases ON with
   |none=>
    have hR:R=none:=hR.symm;subst hR;rintro en w5 ⟨rfl,hP5,hb5⟩;have HB5:=Lib.hid (HB4.out.trans hb5);clear hP5 hb5;go_wp2_with fail;go_ret;exact⟨rfl,HB5.out⟩
   |some s=>
    have hR:R=some _:=hR.symm;subst hR;rintro en w5 ⟨rfl,hP5,hb5⟩;have HB5:=Lib.hid (HB4.out.trans hb5);rw[Dp _ _ _ _ (by decide),AQ]at hP5;have HP5:=Lib.hid hP5;clear hP5 hb5;go_wp2_with fail;go_ret;exact⟨rfl,HP5.out,HB5.out⟩
 |false=>
  have HR:Hid ((if hit l a [87,82,73,84,69]then(if hit l (a+1) [79,78]then(AO l (a+2)).map λt=>(ahead++[119,114,105,116,101],t)else none)else none)=R):=HR.out;have hP1':PsS g A c l a (Aa cs a) w1:=hP1;have HT2:=Lib.hid (Ac g A c l a (Aa cs a) [87,82,73,84,69] w1 (by omega) hP1');rw[AQ]at HT2;obtain⟨HC,hHC⟩:∃b,hit l a [87,82,73,84,69]=b:=⟨_,rfl⟩;rw[hHC]at HT2 HR;have HB0:=Lib.hid hb1;clear hP1 hP1' hb1 hHC;go_wp2_with fail;refine HT2.out.mono ?_;rintro en w1' ⟨rfl,hP1,hb1⟩;cases HC with
  |false=>
   have hR:R=none:=HR.out.symm;subst hR;have HB1:=Lib.hid (HB0.out.trans hb1);clear hP1 hb1;go_wp2_with fail;go_ret;exact⟨rfl,HB1.out⟩
  |true=>
   have HR:Hid ((if hit l (a+1) [79,78]then(AO l (a+2)).map λt=>(ahead++[119,114,105,116,101],t)else none)=R):=HR.out;have HP1:Hid (PsS g A c l (a+1) (Aa cs (a+1)) w1'):=hP1;have HB1:=Lib.hid (HB0.out.trans hb1);have x2:w1'.cell? ⟨g,2,none⟩=some (.string ⟨o2.toArray⟩):=(HP1.out.blk.cell 2).trans (H2.out _);have f2:=HP1.out.blk.frozen 2;clear hP1 hb1;obtain⟨w2,hw2⟩:∃w2,w1'.setCell ⟨g,2,none⟩ (.string ⟨(ahead++[119,114,105,116,101]).toArray⟩)=w2:=⟨_,rfl⟩;have HW2:=Lib.hid hw2;have hP2:PsS g A c l (a+1) (Aa (cs.setIfInBounds 2 (.string ⟨(ahead++[119,114,105,116,101]).toArray⟩)) (a+1)) w2:=by
    rw[<-hw2,<-Dp _ _ _ _ (by decide)];exact HP1.out.set 2 (Nat.le_refl _) _
   have hb2:But g w w2:=by rw[<-hw2];exact HB1.out.set 2 _
   obtain⟨w3,hw3⟩:∃w3,w2.alloc (.cells #[.string ⟨#[79,78]⟩] 9)=w3:=⟨_,rfl⟩;have k3:Blk w3 w2.heap.size 9 #[.string ⟨#[79,78]⟩]:=by rw[<-hw3];exact Blk.new _ _ _
   have hb23:Below w2.heap.size w2 w3:=by rw[<-hw3];exact bl
   have hP3:=hP2.below hb23;have hg2:g<w2.heap.size:=hP2.blk.lt;have HWD:=Lib.hid (CG g A c l (a+1) _ [79,78] w2.heap.size 1 w3 (by omega) hP3 (k3.cell 0) (by omega));rw[AQ]at HWD;have HB3:=Lib.hid (hb2.trans (But.of_below (p:=g) hb23));have HW3:=Lib.hid hw3;obtain⟨HO,hHO⟩:∃b,hit l (a+1) [79,78]=b:=⟨_,rfl⟩;rw[hHO]at HWD HR;clear hw2 hP2 hw3 k3 hP3 hHO hb23 hb2;go_upto_region 6 with fail
   rw[HW2.out];clear x2 f2 HW2;go_wp2_with fail;rw[show World.alloc w2 _=w3 from HW3.out];refine HWD.out.mono ?_;rintro en w4 ⟨rfl,hP4,hb4⟩;have HB4:=Lib.hid (HB3.out.trans hb4);cases HO with
   |false=>
    have hR:R=none:=HR.out.symm;subst hR;clear hP4 hb4;go_wp2_with fail;go_ret;exact⟨rfl,HB4.out⟩
   |true=>
    have hR:(AO l (a+2)).map _=R:=HR.out;have hP4':PsS g A c l (a+2) _ w4:=hP4;have HNM:=Lib.hid (Bv g A c l (a+2) _ 3 o3 w4 (by omega) hP4' (by decide) (H3.out _ _) HS.out);obtain⟨ON,hON⟩:∃x,AO l (a+2)=x:=⟨_,rfl⟩;rw[hON]at HNM hR;clear hP4 hP4' hb4 hON HR HWD;go_wp2_with fail;refine HNM.out.mono ?_;cases ON with
    |none=>
     have hR:R=none:=hR.symm;subst hR;rintro en w5 ⟨rfl,hP5,hb5⟩;have HB5:=Lib.hid (HB4.out.trans hb5);clear hP5 hb5;go_wp2_with fail;go_ret;exact⟨rfl,HB5.out⟩
    |some s=>
     have hR:R=some _:=hR.symm;subst hR;rintro en w5 ⟨rfl,hP5,hb5⟩;have HB5:=Lib.hid (HB4.out.trans hb5);rw[Dp _ _ _ _ (by decide),AQ]at hP5;have HP5:=Lib.hid hP5;clear hP5 hb5;go_wp2_with fail;go_ret;exact⟨rfl,HP5.out,HB5.out⟩
def Ia(l:List Tok)(a:Nat)(ahead word:List UInt8):Option (List UInt8×List UInt8×List UInt8):=
 (Ej l a ahead).bind λr=>if hit l (a+3) word then(AO l (a+4)).map λs=>(r.1,r.2,s)else none
def YO(o:Option (List UInt8×List UInt8×List UInt8))(g:Nat)(A:Option Addr)(c:Nat)(l:List Tok)(a:Nat)(cs:Array Value)(w:World)(en:Ending)(w':World):Prop:=
 match o with
 |none=>en=.returned (.bool false)/\But g w w'
 |some r=>en=.returned (.bool true)/\PsS g A c l (a+5) (Aa (((cs.setIfInBounds 2 (.string ⟨r.1.toArray⟩)).setIfInBounds 3 (.string ⟨r.2.1.toArray⟩)).setIfInBounds 24 (.string ⟨r.2.2.toArray⟩)) (a+5)) w'/\But g w w'
theorem Tz(g:Nat)(A:Option Addr)(c:Nat)(l:List Tok)(a:Nat)(cs:Array Value)(o2 o3 o4:List UInt8)(w:World)(ha:a<=1000)(h:PsS g A c l a cs w)(h2:cs[2]? = some (.string ⟨o2.toArray⟩))(h3:cs[3]? = some (.string ⟨o3.toArray⟩))(h4:cs[24]? = some (.string ⟨o4.toArray⟩))(hs:∀t∈l,t.s.length<=1000):
  Calls Tryz.prog 103 #[.pointer (some ⟨g,0,none⟩)] w (YO (Ia l a [] [84,79]) g A c l a cs w):=by
 obtain⟨R,hR⟩:∃R,Ia l a [] [84,79]=R:=⟨_,rfl⟩;have hR1:((Ej l a []).bind λr=>if hit l (a+3) [84,79]then(AO l (a+4)).map λs=>(r.1,r.2,s)else none)=R:=hR;rw[hR];have HG:=Lib.hid (L6 g A c l a cs [] o2 o3 w ha (by decide) h h2 h3 hs);have HS:=Lib.hid hs;have H4:Hid (∀(b:Nat) (u v:Value),(Aa ((cs.setIfInBounds 2 u).setIfInBounds 3 v) b)[24]? = some (.string ⟨o4.toArray⟩)):=λb u v=>by unfold Aa;rw[Array.getElem?_setIfInBounds_ne (by decide),Array.getElem?_setIfInBounds_ne (by decide),Array.getElem?_setIfInBounds_ne (by decide)];exact h4
 obtain⟨G,hG⟩:∃x,Ej l a []=x:=⟨_,rfl⟩;rw[hG]at HG hR1;have HR:=Lib.hid hR1;clear hR hG hR1 h h2 h3 h4 hs;go_in
 go_wp2_with fail;refine HG.out.mono ?_;cases G with
 |none=>
  have hR:R=none:=HR.out.symm;subst hR;rintro en w1 ⟨rfl,hb1⟩;have HB1:=Lib.hid hb1;clear hb1;go_wp2_with fail;go_ret;exact⟨rfl,HB1.out⟩
 |some r=>
  obtain⟨op,tb⟩:=r;have HR:Hid ((if hit l (a+3) [84,79]then(AO l (a+4)).map λs=>(op,tb,s)else none)=R):=HR.out;rintro en w1 ⟨rfl,hP1,hb1⟩;have hg1:g<w1.heap.size:=hP1.blk.lt;obtain⟨w3,hw3⟩:∃w3,w1.alloc (.cells #[.string ⟨([84,79]:List UInt8).toArray⟩] 9)=w3:=⟨_,rfl⟩;have k3:Blk w3 w1.heap.size 9 #[.string ⟨([84,79]:List UInt8).toArray⟩]:=by rw[<-hw3];exact Blk.new _ _ _
  have hb13:Below w1.heap.size w1 w3:=by rw[<-hw3];exact bl
  have hP3:=hP1.below hb13;have HWD:=Lib.hid (CG g A c l (a+3) _ [84,79] w1.heap.size 1 w3 (by omega) hP3 (k3.cell 0) (by omega));rw[AQ]at HWD;have HB3:=Lib.hid (hb1.trans (But.of_below (p:=g) hb13));have HW3:=Lib.hid hw3;obtain⟨HO,hHO⟩:∃b,hit l (a+3) [84,79]=b:=⟨_,rfl⟩;rw[hHO]at HWD HR;clear hw3 k3 hP3 hHO hb13 hP1 hb1;go_wp2_with fail;rw[show World.alloc w1 _=w3 from HW3.out];refine HWD.out.mono ?_;rintro en w4 ⟨rfl,hP4,hb4⟩;have HB4:=Lib.hid (HB3.out.trans hb4);cases HO with
  |false=>
   have hR:R=none:=HR.out.symm;subst hR;clear hP4 hb4;go_wp2_with fail;go_ret;exact⟨rfl,HB4.out⟩
  |true=>
   have hR:(AO l (a+4)).map _=R:=HR.out;have hP4':PsS g A c l (a+4) _ w4:=hP4;have HNM:=Lib.hid (Bv g A c l (a+4) _ 24 o4 w4 (by omega) hP4' (by decide) (H4.out _ _ _) HS.out);obtain⟨ON,hON⟩:∃x,AO l (a+4)=x:=⟨_,rfl⟩;rw[hON]at HNM hR;clear hP4 hP4' hb4 hON HR HWD;go_wp2_with fail;refine HNM.out.mono ?_;cases ON with
   |none=>
    have hR:R=none:=hR.symm;subst hR;rintro en w5 ⟨rfl,hP5,hb5⟩;have HB5:=Lib.hid (HB4.out.trans hb5);clear hP5 hb5;go_wp2_with fail;go_ret;exact⟨rfl,HB5.out⟩
   |some s=>
    have hR:R=some _:=hR.symm;subst hR;rintro en w5 ⟨rfl,hP5,hb5⟩;have HB5:=Lib.hid (HB4.out.trans hb5);rw[Dp _ _ _ _ (by decide),AQ]at hP5;have HP5:=Lib.hid hP5;clear hP5 hb5;go_wp2_with fail;go_ret;exact⟨rfl,HP5.out,HB5.out⟩
theorem Qm(g:Nat)(A:Option Addr)(c:Nat)(l:List Tok)(a:Nat)(cs:Array Value)(o2 o3 o4:List UInt8)(w:World)(ha:a<=1000)(h:PsS g A c l a cs w)(h2:cs[2]? = some (.string ⟨o2.toArray⟩))(h3:cs[3]? = some (.string ⟨o3.toArray⟩))(h4:cs[24]? = some (.string ⟨o4.toArray⟩))(hs:∀t∈l,t.s.length<=1000):
  Calls Tryz.prog 104 #[.pointer (some ⟨g,0,none⟩)] w (YO (Ia l a [117,110] [70,82,79,77]) g A c l a cs w):=by
 obtain⟨R,hR⟩:∃R,Ia l a [117,110] [70,82,79,77]=R:=⟨_,rfl⟩;have hR1:((Ej l a [117,110]).bind λr=>if hit l (a+3) [70,82,79,77]then(AO l (a+4)).map λs=>(r.1,r.2,s)else none)=R:=hR;rw[hR];have HG:=Lib.hid (L6 g A c l a cs [117,110] o2 o3 w ha (by decide) h h2 h3 hs);have HS:=Lib.hid hs;have H4:Hid (∀(b:Nat) (u v:Value),(Aa ((cs.setIfInBounds 2 u).setIfInBounds 3 v) b)[24]? = some (.string ⟨o4.toArray⟩)):=λb u v=>by unfold Aa;rw[Array.getElem?_setIfInBounds_ne (by decide),Array.getElem?_setIfInBounds_ne (by decide),Array.getElem?_setIfInBounds_ne (by decide)];exact h4
 obtain⟨G,hG⟩:∃x,Ej l a [117,110]=x:=⟨_,rfl⟩;rw[hG]at HG hR1;have HR:=Lib.hid hR1;clear hR hG hR1 h h2 h3 h4 hs;go_in
 go_wp2_with fail;refine HG.out.mono ?_;cases G with
 |none=>
  have hR:R=none:=HR.out.symm;subst hR;rintro en w1 ⟨rfl,hb1⟩;have HB1:=Lib.hid hb1;clear hb1;go_wp2_with fail;go_ret;exact⟨rfl,HB1.out⟩
 |some r=>
  obtain⟨op,tb⟩:=r;have HR:Hid ((if hit l (a+3) [70,82,79,77]then(AO l (a+4)).map λs=>(op,tb,s)else none)=R):=HR.out;rintro en w1 ⟨rfl,hP1,hb1⟩;have hg1:g<w1.heap.size:=hP1.blk.lt;obtain⟨w3,hw3⟩:∃w3,w1.alloc (.cells #[.string ⟨([70,82,79,77]:List UInt8).toArray⟩] 9)=w3:=⟨_,rfl⟩;have k3:Blk w3 w1.heap.size 9 #[.string ⟨([70,82,79,77]:List UInt8).toArray⟩]:=by rw[<-hw3];exact Blk.new _ _ _
  have hb13:Below w1.heap.size w1 w3:=by rw[<-hw3];exact bl
  have hP3:=hP1.below hb13;have HWD:=Lib.hid (CG g A c l (a+3) _ [70,82,79,77] w1.heap.size 1 w3 (by omega) hP3 (k3.cell 0) (by omega));rw[AQ]at HWD;have HB3:=Lib.hid (hb1.trans (But.of_below (p:=g) hb13));have HW3:=Lib.hid hw3;obtain⟨HO,hHO⟩:∃b,hit l (a+3) [70,82,79,77]=b:=⟨_,rfl⟩;rw[hHO]at HWD HR;clear hw3 k3 hP3 hHO hb13 hP1 hb1;go_wp2_with fail;rw[show World.alloc w1 _=w3 from HW3.out];refine HWD.out.mono ?_;rintro en w4 ⟨rfl,hP4,hb4⟩;have HB4:=Lib.hid (HB3.out.trans hb4);cases HO with
  |false=>
   have hR:R=none:=HR.out.symm;subst hR;clear hP4 hb4;go_wp2_with fail;go_ret;exact⟨rfl,HB4.out⟩
  |true=>
   have hR:(AO l (a+4)).map _=R:=HR.out;have hP4':PsS g A c l (a+4) _ w4:=hP4;have HNM:=Lib.hid (Bv g A c l (a+4) _ 24 o4 w4 (by omega) hP4' (by decide) (H4.out _ _ _) HS.out);obtain⟨ON,hON⟩:∃x,AO l (a+4)=x:=⟨_,rfl⟩;rw[hON]at HNM hR;clear hP4 hP4' hb4 hON HR HWD;go_wp2_with fail;refine HNM.out.mono ?_;cases ON with
   |none=>
    have hR:R=none:=hR.symm;subst hR;rintro en w5 ⟨rfl,hP5,hb5⟩;have HB5:=Lib.hid (HB4.out.trans hb5);clear hP5 hb5;go_wp2_with fail;go_ret;exact⟨rfl,HB5.out⟩
   |some s=>
    have hR:R=some _:=hR.symm;subst hR;rintro en w5 ⟨rfl,hP5,hb5⟩;have HB5:=Lib.hid (HB4.out.trans hb5);rw[Dp _ _ _ _ (by decide),AQ]at hP5;have HP5:=Lib.hid hP5;clear hP5 hb5;go_wp2_with fail;go_ret;exact⟨rfl,HP5.out,HB5.out⟩
end Go.Proofs.YtchilcchogcibaaGreatDoor
