/- The statement parser's steps; The statement parser's words. -/
import Derived.Test.YtchilcchogcibaaGreatDoorFStD
set_option maxRecDepth 100000
set_option maxHeartbeats 4000000
namespace Go.Proofs.YtchilcchogcibaaGreatDoor
open Go.RowKit
attribute [local go_sem] ByteArray.extract_mk Ak AY
attribute [local go_sem ↓] Go.wp_at_zero Go.wp_at_succ
structure PsS (g:Nat) (A:Option Addr) (c:Nat) (l:List Tok) (a:Nat) (cs:Array Value) (w:World):Prop where
 blk:Blk w g 99 cs
 c0:cs[0]? = some (.slice A l.length c)
 c1:cs[1]? = some (.int .i64 a)
 tk:TkS w g A l
theorem PsS.below{g:Nat}{A:Option Addr}{c:Nat}{l:List Tok}{a:Nat}{cs:Array Value}{w w':World}(h:PsS g A c l a cs w)(hb:Below w.heap.size w w'):PsS g A c l a cs w':=
 ⟨h.blk.below hb h.blk.lt,h.c0,h.c1,h.tk.below (hb.mono (Nat.le_of_lt h.blk.lt))⟩
theorem PsS.set{g:Nat}{A:Option Addr}{c:Nat}{l:List Tok}{a:Nat}{cs:Array Value}{w:World}(h:PsS g A c l a cs w)(o:Nat)(ho:2<=o)(v:Value):PsS g A c l a (cs.setIfInBounds o v) (w.setCell ⟨g,o,none⟩ v):=
 ⟨h.blk.set_ o v,by rw[Array.getElem?_setIfInBounds_ne (by omega)];exact h.c0,by rw[Array.getElem?_setIfInBounds_ne (by omega)];exact h.c1,h.tk.below (bwS bwR (Nat.le_refl _))⟩
def Aa(cs:Array Value)(b:Nat):Array Value:=cs.setIfInBounds 1 (.int .i64 b)
theorem PsS.move{g:Nat}{A:Option Addr}{c:Nat}{l:List Tok}{a:Nat}{cs:Array Value}{w:World}(h:PsS g A c l a cs w)(b:Nat):PsS g A c l b (Aa cs b) (w.setCell ⟨g,1,none⟩ (.int .i64 b)):=by
 have hs:1<cs.size:=by
  have:=h.c1;rw[Array.getElem?_eq_some_iff]at this;exact this.1
 exact⟨h.blk.set_ 1 _,by unfold Aa;rw[Array.getElem?_setIfInBounds_ne (by omega)];exact h.c0,by unfold Aa;rw[Array.getElem?_setIfInBounds_self_of_lt hs],h.tk.below (bwS bwR (Nat.le_refl _))⟩
def EO(b:Bool)(g:Nat)(A:Option Addr)(c:Nat)(l:List Tok)(a:Nat)(cs:Array Value)(w:World)(en:Ending)(w':World):Prop:=en=.returned (.bool b)/\PsS g A c l a cs w'/\But g w w'
theorem MK(g:Nat)(A:Option Addr)(c:Nat)(l:List Tok)(a:Nat)(cs:Array Value)(word:List UInt8)(w:World)(h:PsS g A c l a cs w):
  Calls Tryz.prog 168 #[.pointer (some ⟨g,0,none⟩),.string ⟨word.toArray⟩] w (Ret (.bool (hit l a word)) w):=by
 have lp:=h.blk.lt;by_cases hlt:a<l.length
 ·obtain⟨b1,o1,t,rfl,hbB,hv,c0,c1⟩:=h.tk.at_ hlt;have hit1:hit l a word=isB t.k t.s word:=by unfold hit;rw[hv]
  rw[hit1];have i1:(0:Int)<=(a:Int):=by omega
  have i2:(a:Int)<(l.length:Int):=by omega
  have HSH:Hid (∀w':World,Below w.heap.size w w'->(w'.cell? ⟨g,0,none⟩=some (.slice (some ⟨b1,o1,none⟩) l.length c)/\w'.cell? ⟨g,1,none⟩=some (.int .i64 (a:Nat))/\w'.cell? ⟨b1,o1+a * 2,none⟩=some (.int .i64 t.k)/\w'.cell? ⟨b1,o1+a * 2+1,none⟩=some (.string ⟨t.s.toArray⟩))):=
   λw' hb=>⟨((h.blk.below hb lp).cell 0).trans h.c0,((h.blk.below hb lp).cell 1).trans h.c1,(hb.cell (p:=⟨b1,o1+a * 2,none⟩) (show b1<_ by omega)).trans c0,(hb.cell (p:=⟨b1,o1+a * 2+1,none⟩) (show b1<_ by omega)).trans c1⟩
  clear c0 c1 hv hit1 h;obtain⟨B,hB⟩:∃B,isB t.k t.s word=B:=⟨_,rfl⟩;rw[hB];have HB:=Lib.hid hB;clear hB;go_in
  go_upto_region 1 with fail
  refine rgn HSH λhHeld=>?_
  refine tS [0,1,2,3,4,5,6,7,8,9,10,11,12,13,14,15,16,17,18,19,20,21] ?_;iterate 22(refine tC ?_;refine ap ?_)
  refine tN ?_;refine rdy 22 λK hK=>?_
  go_simp;refine(Uw t.k t.s word _).mono ?_<;>rw[HB.out]<;>rintro en w5 ⟨rfl,hb5⟩<;>have hz5:=hb5.size<;>have hb15:Below w.heap.size w w5:=(Below.drew (Below.refl _ w)).trans hb5
  go_wp2_with fail;refine hK.out _ _ (HSH.out _ (by exact bl)) λhHeld=>?_
  clear hK K;refine ap ?_;refine tS [23,24] ?_;iterate 2(refine tC ?_;refine ap ?_)
  refine tN ?_;refine wpAnyH_done (by kernel_rfl) ?_ _;go_wp2_with fail;go_ret;exact⟨rfl,hb15⟩
 ·have hit1:hit l a word=false:=by unfold hit;rw[List.getElem?_eq_none (by omega)]
  rw[hit1];have b0:¬(a:Int)<(l.length:Int):=by omega
  have HSH:Hid (∀w':World,Below w.heap.size w w'->(w'.cell? ⟨g,0,none⟩=some (.slice A l.length c)/\w'.cell? ⟨g,1,none⟩=some (.int .i64 (a:Nat)))):=
   λw' hb=>⟨((h.blk.below hb lp).cell 0).trans h.c0,((h.blk.below hb lp).cell 1).trans h.c1⟩
  clear hit1 h;go_in
  go_upto_region 1 with fail
  refine rgn HSH λhHeld=>?_
  refine tS [0,1,2,3,4,5,6,7,8,9,10] ?_;iterate 11(refine tC ?_;refine ap ?_)
  refine tN ?_;refine tS [11,12,13,14,15,16,17,18,19,20,21,22] ?_;iterate 12(refine tX ?_;refine ap ?_)
  refine tN ?_;refine tS [23,24] ?_;iterate 2(refine tC ?_;refine ap ?_)
  refine tN ?_;refine wpAnyH_done (by kernel_rfl) ?_ _;go_wp2_with fail;go_ret;exact⟨rfl,Below.drew (Below.refl _ w)⟩
theorem Vj(g:Nat)(A:Option Addr)(c:Nat)(l:List Tok)(a:Nat)(cs:Array Value)(word:List UInt8)(w:World)(ha:a<=1000000)(h:PsS g A c l a cs w):
  Calls Tryz.prog 162 #[.pointer (some ⟨g,0,none⟩),.string ⟨word.toArray⟩] w (EO (hit l a word) g A c l (if hit l a word then a+1 else a) (if hit l a word then Aa cs (a+1)else cs) w):=by
 have HI:=Lib.hid (MK g A c l a cs word w h);have HP:=Lib.hid h;obtain⟨B,hB⟩:∃B,hit l a word=B:=⟨_,rfl⟩;obtain⟨a',ha'⟩:∃x,(if hit l a word then a+1 else a)=x:=⟨_,rfl⟩;obtain⟨cs',hcs'⟩:∃x,(if hit l a word then Aa cs (a+1)else cs)=x:=⟨_,rfl⟩;rw[ha',hcs'];rw[hB]at HI ha' hcs' ⊢;have HA:=Lib.hid ha';have HCS:=Lib.hid hcs';clear h hB ha' hcs';go_in
 go_wp2_with fail;refine HI.out.mono ?_;rintro en w1 ⟨rfl,hb1⟩;have hP1:=HP.out.below hb1;have d1:w1.cell? ⟨g,1,none⟩=some (.int .i64 (a:Nat)):=(hP1.blk.cell 1).trans hP1.c1;have f1:=hP1.blk.frozen 1;have HP1:=Lib.hid hP1;clear hP1;cases B
 ·go_wp2_with fail;go_ret;rw[<-HA.out,<-HCS.out];exact⟨rfl,HP1.out,But.of_below hb1⟩
 ·go_wp2_with fail;go_ret;rw[<-HA.out,<-HCS.out];exact⟨rfl,HP1.out.move (a+1),(But.of_below hb1).set 1 _⟩
def AO(l:List Tok)(a:Nat):Option (List UInt8):=match l[a]? with|none=>none|some t=>if t.k=1/\Ai t.s=true then some t.s else none
def IJ(o:Option (List UInt8))(at_:Nat)(g:Nat)(A:Option Addr)(c:Nat)(l:List Tok)(a:Nat)(cs:Array Value)(w:World)(en:Ending)(w':World):Prop:=
 match o with
 |none=>en=.returned (.bool false)/\PsS g A c l a cs w'/\But g w w'
 |some s=>en=.returned (.bool true)/\PsS g A c l (a+1) (Aa (cs.setIfInBounds at_ (.string ⟨s.toArray⟩)) (a+1)) w'/\But g w w'
theorem Bv(g:Nat)(A:Option Addr)(c:Nat)(l:List Tok)(a:Nat)(cs:Array Value)(at_:Nat)(old:List UInt8)(w:World)(ha:a<=1000000)(h:PsS g A c l a cs w)(hat:2<=at_)(hold:cs[at_]? = some (.string ⟨old.toArray⟩))(hs:∀t∈l,t.s.length<=1000):
  Calls Tryz.prog 161 #[.pointer (some ⟨g,0,none⟩),.pointer (some ⟨g,at_,none⟩)] w (IJ (AO l a) at_ g A c l a cs w):=by
 have lp:=h.blk.lt;have HP:=Lib.hid h;by_cases hlt:a<l.length
 ·obtain⟨b1,o1,t,rfl,hbB,hv,c0,c1⟩:=h.tk.at_ hlt;have ht:=hs t (List.mem_of_getElem? hv);obtain⟨R,hR⟩:∃R,AO l a=R:=⟨_,rfl⟩;have hR1:(if t.k=1/\Ai t.s=true then some t.s else none)=R:=by rw[<-hR];unfold AO;rw[hv]
  rw[hR];have HR:=Lib.hid hR1;have i1:(0:Int)<=(a:Int):=by omega
  have i2:(a:Int)<(l.length:Int):=by omega
  have b0:¬(l.length:Int)<=(a:Int):=by omega
  have lb:b1<w.heap.size:=by omega
  have HSH:Hid (∀w':World,Below w.heap.size w w'->(w'.cell? ⟨g,0,none⟩=some (.slice (some ⟨b1,o1,none⟩) l.length c)/\w'.cell? ⟨g,1,none⟩=some (.int .i64 (a:Nat))/\w'.cell? ⟨b1,o1+a * 2,none⟩=some (.int .i64 t.k)/\w'.cell? ⟨b1,o1+a * 2+1,none⟩=some (.string ⟨t.s.toArray⟩))):=
   λw' hb=>⟨((h.blk.below hb lp).cell 0).trans h.c0,((h.blk.below hb lp).cell 1).trans h.c1,(hb.cell (p:=⟨b1,o1+a * 2,none⟩) lb).trans c0,(hb.cell (p:=⟨b1,o1+a * 2+1,none⟩) lb).trans c1⟩
  have HNM:Hid (∀Z:World,Calls Tryz.prog 74 #[.string ⟨t.s.toArray⟩] Z (Ret (.bool (Ai t.s)) Z)):=λZ=>Di rfl ht Z
  obtain⟨N,hN⟩:∃N,Ai t.s=N:=⟨_,rfl⟩;rw[hN]at HNM HR;clear hv hR1 hR hN h;by_cases hk:t.k=1
  ·have k1:(t.k != 1)=false:=by simpa using hk
   have k2:(t.k==1)=true:=by simpa using hk
   have HK:=Lib.hid hk;clear hk;have HR2:Hid ((if N=true then some t.s else none)=R):=by show _=_;rw[<-HR.out];simp[HK.out]
   clear HR c0 c1;go_in
   go_upto_region 1 with fail
   refine rgn HSH λhHeld=>?_
   refine tS [0,1,2,3,4,5,6,7,8,9,10,11,12,13,14,15,16,17,18,19,20,21,22,23,24,25,26,27,28,29,30,31,32,33,34,35] ?_;iterate 36(refine tC ?_;refine ap ?_)
   refine tN ?_;refine rdy 36 λK hK=>?_
   go_simp;refine(HNM.out _).mono ?_<;>rintro en w5 ⟨rfl,hb5⟩<;>have hz5:=hb5.size<;>have hb15:Below w.heap.size w w5:=(Below.drew (Below.refl _ w)).trans hb5
   go_wp2_with fail;refine hK.out _ _ (HSH.out _ (by exact bl)) λhHeld=>?_
   clear hK K;refine ap ?_;refine tS [37,38] ?_;iterate 2(refine tC ?_;refine ap ?_)
   refine tN ?_;refine wpAnyH_done (by kernel_rfl) ?_ _;cases N with
   |false=>
    have hR2:R=none:=HR2.out.symm;subst hR2;go_wp2_with fail;go_ret;exact⟨rfl,HP.out.below hb15,But.of_below hb15⟩
   |true=>
    have hR2:R=some t.s:=HR2.out.symm;subst hR2;have hP5:=HP.out.below hb15;have HP5:=Lib.hid hP5;have x1:w5.cell? ⟨g,at_,none⟩=some (.string ⟨old.toArray⟩):=(hP5.blk.cell at_).trans hold;have f1:=hP5.blk.frozen at_;have HS5:Hid (∀w':World,Below w5.heap.size w5 w'->(w'.cell? ⟨g,0,none⟩=some (.slice (some ⟨b1,o1,none⟩) l.length c)/\w'.cell? ⟨g,1,none⟩=some (.int .i64 (a:Nat))/\w'.cell? ⟨b1,o1+a * 2,none⟩=some (.int .i64 t.k)/\w'.cell? ⟨b1,o1+a * 2+1,none⟩=some (.string ⟨t.s.toArray⟩))):=λw' hb=>HSH.out w' (hb15.trans (hb.mono hb15.size))
    clear hP5;have HSR:Hid (∀(v:Value) (Y:World),(Y.cell? ⟨g,0,none⟩=some (.slice (some ⟨b1,o1,none⟩) l.length c)/\Y.cell? ⟨g,1,none⟩=some (.int .i64 (a:Nat))/\Y.cell? ⟨b1,o1+a * 2,none⟩=some (.int .i64 t.k)/\Y.cell? ⟨b1,o1+a * 2+1,none⟩=some (.string ⟨t.s.toArray⟩))->
      ((Y.setCell ⟨g,at_,none⟩ v).cell? ⟨g,0,none⟩=some (.slice (some ⟨b1,o1,none⟩) l.length c)/\(Y.setCell ⟨g,at_,none⟩ v).cell? ⟨g,1,none⟩=some (.int .i64 (a:Nat))/\(Y.setCell ⟨g,at_,none⟩ v).cell? ⟨b1,o1+a * 2,none⟩=some (.int .i64 t.k)/\(Y.setCell ⟨g,at_,none⟩ v).cell? ⟨b1,o1+a * 2+1,none⟩=some (.string ⟨t.s.toArray⟩))):=λv Y ⟨h0,h1,h2,h3⟩=>by
     refine⟨(World.cell?_setCell_other _ _ _ _ (λe=>?_)).trans h0,(World.cell?_setCell_other _ _ _ _ (λe=>?_)).trans h1,(World.cell?_setCell_other _ _ _ _ (λe=>?_)).trans h2,(World.cell?_setCell_other _ _ _ _ (λe=>?_)).trans h3⟩
     ·have:=congrArg Addr.off e;simp at this;omega
     ·have:=congrArg Addr.off e;simp at this;omega
     ·have:=congrArg Addr.block e;simp at this;omega
     ·have:=congrArg Addr.block e;simp at this;omega
    go_upto_region 3 with fail
    refine wp_region_held_drew (S:=(λw'=>w'.cell? ⟨g,0,none⟩=some (.slice (some ⟨b1,o1,none⟩) l.length c)/\w'.cell? ⟨g,1,none⟩=some (.int .i64 (a:Nat))/\w'.cell? ⟨b1,o1+a * 2,none⟩=some (.int .i64 t.k)/\w'.cell? ⟨b1,o1+a * 2+1,none⟩=some (.string ⟨t.s.toArray⟩))) (by kernel_rfl) ?_ (λhHeld=>?_)
    ·try dsimp only
     first|exact HS5.out _ (by exact bl)|exact HSR.out _ _ (HS5.out _ (by exact bl))
    refine tS [0,1,2,3,4,5,6,7,8,9,10,11,12] ?_;iterate 13(refine tC ?_;refine ap ?_)
    refine tN ?_;refine rdy 13 λK hK=>?_
    go_simp
    skip
    go_wp2_with fail;refine hK.out _ _ ?_ (λhHeld=>?_)
    ·try dsimp only
     first|exact HS5.out _ (by exact bl)|exact HSR.out _ _ (HS5.out _ (by exact bl))
    clear hK K;refine ap ?_;refine wpAnyH_done (by kernel_rfl) ?_ _;obtain⟨w6,hw6⟩:∃w6,World.drew (w5.setCell ⟨g,at_,none⟩ (.string ⟨t.s.toArray⟩))=w6:=⟨_,rfl⟩;rw[hw6];have hP6:PsS g (some ⟨b1,o1,none⟩) c l a (cs.setIfInBounds at_ (.string ⟨t.s.toArray⟩)) w6:=by
     have h0:=HP5.out.set at_ hat (.string ⟨t.s.toArray⟩);rw[<-hw6];exact h0.below (Below.drew (Below.refl _ _))
    have hb6:But g w w6:=by
     rw[<-hw6];exact((But.of_below hb15).set at_ _).drew
    have d1:w6.cell? ⟨g,1,none⟩=some (.int .i64 (a:Nat)):=(hP6.blk.cell 1).trans hP6.c1;have f1:=hP6.blk.frozen 1;have HP6:=Lib.hid hP6;clear hw6 hP6 x1;go_wp2_with fail;go_ret;exact⟨rfl,HP6.out.move (a+1),hb6.set 1 _⟩
  ·have k1:(t.k != 1)=true:=by simpa using hk
   have k2:(t.k==1)=false:=by simpa using hk
   have hR2:R=none:=by rw[<-HR.out];simp[hk]
   have k3:¬t.k=1:=hk;clear hk;subst hR2;clear HR c0 c1;go_in
   go_upto_region 1 with fail
   refine rgn HSH λhHeld=>?_
   refine tS [0,1,2,3,4,5,6,7,8,9,10,11,12,13,14,15,16,17,18,19,20,21,22,23,24] ?_;iterate 25(refine tC ?_;refine ap ?_)
   refine tN ?_;refine tS [25,26,27,28,29,30,31,32,33,34,35,36,37] ?_;iterate 13(refine tX ?_;refine ap ?_)
   refine tN ?_;refine tS [38] (tC ?_);refine ap (tN ?_);refine wpAnyH_done (by kernel_rfl) ?_ _;go_wp2_with fail;go_ret;exact⟨rfl,HP.out.below (Below.drew (Below.refl _ w)),(But.refl _ _).drew⟩
 ·have hR2:AO l a=none:=by unfold AO;rw[List.getElem?_eq_none (by omega)]
  rw[hR2];have b0:(l.length:Int)<=(a:Int):=by omega
  have HSH:Hid (∀w':World,Below w.heap.size w w'->(w'.cell? ⟨g,0,none⟩=some (.slice A l.length c)/\w'.cell? ⟨g,1,none⟩=some (.int .i64 (a:Nat)))):=
   λw' hb=>⟨((h.blk.below hb lp).cell 0).trans h.c0,((h.blk.below hb lp).cell 1).trans h.c1⟩
  clear hR2 h;go_in
  go_upto_region 1 with fail
  refine rgn HSH λhHeld=>?_
  refine tS [0,1,2,3,4,5,6,7,8,9,10] ?_;iterate 11(refine tC ?_;refine ap ?_)
  refine tN ?_;refine tS [11,12,13,14,15,16,17,18,19,20,21,22] ?_;iterate 12(refine tX ?_;refine ap ?_)
  refine tN ?_;refine tS [23,24] ?_;iterate 2(refine tC ?_;refine ap ?_)
  refine tN ?_;refine tS [25,26,27,28,29,30,31,32,33,34,35,36,37] ?_;iterate 13(refine tX ?_;refine ap ?_)
  refine tN ?_;refine tS [38] (tC ?_);refine ap (tN ?_);refine wpAnyH_done (by kernel_rfl) ?_ _;go_wp2_with fail;go_ret;exact⟨rfl,HP.out.below (Below.drew (Below.refl _ w)),(But.refl _ _).drew⟩
theorem AQ(cs:Array Value)(a b:Nat):Aa (Aa cs a) b=Aa cs b:=by unfold Aa;simp
theorem PsS.self{g:Nat}{A:Option Addr}{c:Nat}{l:List Tok}{a:Nat}{cs:Array Value}{w:World}(h:PsS g A c l a cs w):Aa cs a=cs:=by
 unfold Aa;apply Array.ext_getElem?;intro i;by_cases hi:i=1
 ·subst hi;rw[h.c1,Array.getElem?_setIfInBounds_self_of_lt];have:=h.c1;rw[Array.getElem?_eq_some_iff]at this;exact this.1
 ·rw[Array.getElem?_setIfInBounds_ne (by omega)]
def CV(l:List Tok):Nat->List (List UInt8)->Nat
 |_,[]=>0
 |a,x::r=>if hit l a x then CV l (a+1) r+1 else 0
theorem Ot(l:List Tok):∀(ws:List (List UInt8)) (a:Nat),CV l a ws<=ws.length
 |[],_=>Nat.le_refl _
 |x::r,a=>by
  unfold CV;split
  ·have:=Ot l r (a+1);simp;omega
  ·simp
theorem Ac(g:Nat)(A:Option Addr)(c:Nat)(l:List Tok)(a:Nat)(cs:Array Value)(word:List UInt8)(w:World)(ha:a<=1000000)(h:PsS g A c l a cs w):
  Calls Tryz.prog 162 #[.pointer (some ⟨g,0,none⟩),.string ⟨word.toArray⟩] w (EO (hit l a word) g A c l (a+(hit l a word).toNat) (Aa cs (a+(hit l a word).toNat)) w):=by
 have:=Vj g A c l a cs word w ha h;cases hb:hit l a word
 ·rw[hb]at this;rw[show a+false.toNat=a from rfl,h.self];exact this
 ·rw[hb]at this;exact this
theorem Yi(g pv:Nat)(A:Option Addr)(c:Nat)(l:List Tok)(a:Nat)(cs:Array Value)(word:List UInt8)(w:World)(ha:a<=1000000)(h:PsS g A c l a cs w)(hv:w.cell? ⟨pv,0,none⟩=some (.pointer (some ⟨g,0,none⟩))):
  Calls Tryz.prog 208 #[.string ⟨word.toArray⟩,.pointer (some ⟨pv,0,none⟩)] w (EO (!hit l a word) g A c l (a+(hit l a word).toNat) (Aa cs (a+(hit l a word).toNat)) w):=by
 have HT:=Lib.hid (Ac g A c l a cs word w ha h);obtain⟨a',ha'⟩:∃x,a+(hit l a word).toNat=x:=⟨_,rfl⟩;obtain⟨B,hB⟩:∃B,hit l a word=B:=⟨_,rfl⟩;rw[ha',hB]at HT;rw[ha',hB];clear h ha' hB;go_in
 go_wp2_with fail;refine HT.out.mono ?_;rintro en w1 ⟨rfl,hP,hb⟩;go_wp2_with fail;go_ret;exact⟨rfl,hP,hb⟩
def RetIx(R:Int)(g:Nat)(A:Option Addr)(c:Nat)(l:List Tok)(a:Nat)(cs:Array Value)(w:World)(en:Ending)(w':World):Prop:=en=.returned (.int .i64 R)/\PsS g A c l a cs w'/\But g w w'
theorem Xb(g pv:Nat)(A:Option Addr)(c:Nat)(l:List Tok)(a:Nat)(cs:Array Value)(ws:List (List UInt8))(A':Option Addr)(c':Nat)(w:World)(ha:a+ws.length<=1000000)(h:PsS g A c l a cs w)(hv:w.cell? ⟨pv,0,none⟩=some (.pointer (some ⟨g,0,none⟩)))(hpv:pv≠g)(hS:SQ ws A' (λb=>b<w.heap.size/\b≠g) w):
  Calls Tryz.prog 73 #[.slice A' ws.length c',.func (.func 208) #[] #[.pointer (some ⟨pv,0,none⟩)]] w (RetIx (if CV l a ws<ws.length then(CV l a ws:Nat)else -1) g A c l (a+CV l a ws) (Aa cs (a+CV l a ws)) w):=by
 have hpl:pv<w.heap.size:=Ag hv;have HV:Hid (∀Z:World,But g w Z->Z.cell? ⟨pv,0,none⟩=some (.pointer (some ⟨g,0,none⟩))):=λZ hz=>(hz.cell hpl hpv 0).trans hv
 have HQ:Hid (∀Z:World,But g w Z->SQ ws A' (λb=>b<w.heap.size/\b≠g) Z):=λZ hz=>hS.keep λb hb=>⟨hb,λo=>hz.cell hb.1 hb.2 o⟩
 obtain⟨R,hR⟩:∃R:Int,(if CV l a ws<ws.length then((CV l a ws:Nat):Int)else -1)=R:=⟨_,rfl⟩;obtain⟨K,hK⟩:∃K,CV l a ws=K:=⟨_,rfl⟩;rw[hR,hK];rw[hK]at hR;obtain⟨N,hN⟩:∃N,ws.length=N:=⟨_,rfl⟩;rw[hN]at ha hR ⊢;have HL:=Lib.hid hN;have HR:=Lib.hid hR;have HK:Hid (CV l (a+0) (ws.drop 0)+0=K):=hK;have hP0:PsS g A c l (a+0) (Aa cs (a+0)) w:=by rw[Nat.add_zero,h.self];exact h
 have HP0:=Lib.hid hP0;clear h hv hS hR hK hN hP0;go_in
 go_wp2_with fail;go_loopw [8] (λi wr=>∃j:Nat,j<=N/\i=.int .i64 j/\Hid (CV l (a+j) (ws.drop j)+j=K)/\Hid (PsS g A c l (a+j) (Aa cs (a+j)) wr)/\But g w wr) (λi _=>N - (intOf i).toNat)
 case atStart=>exact⟨0,by omega,rfl,HK,HP0,But.refl _ _⟩
 case round=>
  obtain⟨j,hj,rfl,HJ,HP,hbw⟩:=hrel;obtain⟨W,rfl⟩:∃W,W=wr:=⟨_,rfl⟩;by_cases hlt:j<N
  ·obtain⟨b,off,x,hA,hbB,hx,c0⟩:=(HQ.out W hbw).at_ (j:=j) (by rw[HL.out];exact hlt);subst hA;have hdr:ws.drop j=x::ws.drop (j+1):=by
    obtain⟨hj',rfl⟩:=List.getElem?_eq_some_iff.1 hx;exact List.drop_eq_getElem_cons hj'
   have hJ:=HJ.out;rw[hdr]at hJ;unfold CV at hJ;have HT:=Lib.hid (Yi g pv A c l (a+j) (Aa cs (a+j)) x W (by omega) HP.out (HV.out W hbw));rw[AQ]at HT;obtain⟨B,hB⟩:∃B,hit l (a+j) x=B:=⟨_,rfl⟩;rw[hB]at HT hJ;have i1:(0:Int)<=(j:Int):=by omega
   have i2:(j:Int)<(N:Int):=by omega
   clear hdr hx hB HJ;cases B with
   |true=>
    have HF:Hid (CV l (a+(j+1)) (ws.drop (j+1))+(j+1)=K):=by
     show _=_
     rw[if_pos rfl]at hJ;rw[<-hJ,<-Nat.add_assoc a j 1];omega
    clear hJ;go_wp2_with fail;refine HT.out.mono ?_;rintro en w1 ⟨rfl,hP1,hb1⟩;have HP1:=Lib.hid hP1;clear hP1;go_wp2_with fail;go_roundw
    case rel=>exact⟨j+1,by omega,by go_num,HF,HP1,hbw.trans hb1⟩
    case measure=>simp[intOf];omega
   |false=>
    have hKj:j=K:=by rw[if_neg (by decide)]at hJ;omega
    have HF:Hid ((j:Int)=R):=by show _=_;rw[<-HR.out,<-hKj,if_pos hlt]
    have HKJ:=Lib.hid hKj;clear hJ hKj;go_wp2_with fail;refine HT.out.mono ?_;rintro en w1 ⟨rfl,hP1,hb1⟩;have HP1:=Lib.hid hP1;clear hP1;go_wp2_with fail;go_ret;exact⟨by rw[HF.out];rfl,by rw[<-HKJ.out];exact HP1.out,hbw.trans hb1⟩
  ·obtain rfl:j=N:=by omega
   have hJ:=HJ.out;rw[List.drop_of_length_le (by rw[HL.out];omega)]at hJ;have hKj:j=K:=by unfold CV at hJ;omega
   have HF:Hid (R = -1):=by show _=_;rw[<-HR.out,<-hKj,if_neg (by omega)]
   have HKJ:=Lib.hid hKj;have i2:¬(j:Int)<(j:Int):=by omega
   clear hJ hKj HJ hlt;go_wp2_with fail;go_ret;exact⟨by rw[HF.out];rfl,by rw[<-HKJ.out];exact HP.out,hbw⟩
theorem Xc(g pv:Nat)(A:Option Addr)(c:Nat)(l:List Tok)(a:Nat)(cs:Array Value)(ws:List (List UInt8))(A':Option Addr)(c':Nat)(w:World)(ha:a+ws.length<=1000000)(h:PsS g A c l a cs w)(hv:w.cell? ⟨pv,0,none⟩=some (.pointer (some ⟨g,0,none⟩)))(hpv:pv≠g)(hS:SQ ws A' (λb=>b<w.heap.size/\b≠g) w):
  Calls Tryz.prog 52 #[.slice A' ws.length c',.func (.func 208) #[] #[.pointer (some ⟨pv,0,none⟩)]] w (EO (!decide (CV l a ws=ws.length)) g A c l (a+CV l a ws) (Aa cs (a+CV l a ws)) w):=by
 have HI:=Lib.hid (Xb g pv A c l a cs ws A' c' w ha h hv hpv hS);obtain⟨K,hK⟩:∃K,CV l a ws=K:=⟨_,rfl⟩;have hle:=Ot l ws a;obtain⟨N,hN⟩:∃N,ws.length=N:=⟨_,rfl⟩;rw[hK]at HI hle ⊢;rw[hN]at HI hle ⊢;obtain⟨R,hR⟩:∃R:Int,(if K<N then((K:Nat):Int)else -1)=R:=⟨_,rfl⟩;rw[hR]at HI;have hD:(!decide (K=N))=decide (0<=R):=by
  rw[<-hR];by_cases hk:K<N
  ·rw[if_pos hk];simp;omega
  ·rw[if_neg hk];simp;omega
 rw[hD];clear h hS hv hK hN hle hR hD;by_cases hr:0<=R
 all_goals
  have HE:Hid (decide (0<=R)=decide (R ≥ 0)):=rfl;obtain⟨D,hD⟩:∃D,decide (0<=R)=D:=⟨_,rfl⟩;rw[hD];have HD:=Lib.hid hD;clear hD;go_in
  go_wp2_with fail;refine HI.out.mono ?_;rintro en w1 ⟨rfl,hP,hb⟩;go_wp2_with fail;go_ret;exact⟨by rw[<-HD.out];simp[hr],hP,hb⟩
theorem Jp(g:Nat)(A:Option Addr)(c:Nat)(l:List Tok)(a:Nat)(cs:Array Value)(ws:List (List UInt8))(A':Option Addr)(c':Nat)(w:World)(ha:a+ws.length<=1000000)(h:PsS g A c l a cs w)(hS:SQ ws A' (λb=>b<w.heap.size/\b≠g) w):
  Calls Tryz.prog 160 #[.pointer (some ⟨g,0,none⟩),.slice A' ws.length c'] w (EO (decide (CV l a ws=ws.length)) g A c l (a+CV l a ws) (Aa cs (a+CV l a ws)) w):=by
 have hg:g<w.heap.size:=h.blk.lt;obtain⟨w0,hw0⟩:∃w0,w.alloc (.cells #[.pointer (some ⟨g,0,none⟩)] 97)=w0:=⟨_,rfl⟩;have kv:Blk w0 w.heap.size 97 #[.pointer (some ⟨g,0,none⟩)]:=by rw[<-hw0];exact Blk.new _ _ _
 have hb0:Below w.heap.size w w0:=by rw[<-hw0];exact bl
 have HW:=Lib.hid hw0;have HI:=Lib.hid (Xc g w.heap.size A c l a cs ws A' c' w0 ha (h.below hb0) (kv.cell 0) (by omega) (hS.keep λb hb=>⟨⟨Nat.lt_of_lt_of_le hb.1 hb0.size,hb.2⟩,λo=>hb0.cell (p:=⟨b,o,none⟩) hb.1⟩));have HB0:=Lib.hid (But.of_below (p:=g) hb0);obtain⟨K,hK⟩:∃K,CV l a ws=K:=⟨_,rfl⟩;obtain⟨N,hN⟩:∃N,ws.length=N:=⟨_,rfl⟩;rw[hK]at HI ⊢;rw[hN]at HI ⊢;obtain⟨D,hD⟩:∃D,decide (K=N)=D:=⟨_,rfl⟩;rw[hD]at HI ⊢;obtain⟨D',hD'⟩:∃D',(!D)=D':=⟨_,rfl⟩;rw[hD']at HI;have HDD:Hid (D = !D'):=by show _=_;rw[<-hD'];simp
 clear h hS kv hb0 hw0 hK hN hD hD';go_in
 go_upto_region 1 with fail
 rw[show w.alloc _=w0 from HW.out];clear HW;go_wp2_with fail;refine HI.out.mono ?_;rintro en w1 ⟨rfl,hP,hb⟩;go_wp2_with fail;go_ret;exact⟨by rw[HDD.out];rfl,hP,HB0.out.trans hb⟩
end Go.Proofs.YtchilcchogcibaaGreatDoor
