/- The statement parser's name into whatever place, its named, check, unique and refers, as plain functions. -/
import Derived.Test.YtchilcchogcibaaGreatDoorFPs9
set_option maxRecDepth 100000
set_option maxHeartbeats 4000000
namespace Go.Proofs.YtchilcchogcibaaGreatDoor
open Go.RowKit
attribute [local go_sem] ByteArray.extract_mk Ak AY
attribute [local go_sem ↓] Go.wp_at_zero Go.wp_at_succ
def RetNr(r:Option (List UInt8))(g a b o:Nat)(w:World)(en:Ending)(w':World):Prop:=
 match r with
 |none=>en=.returned (.bool false)/\Below w.heap.size w w'
 |some s=>en=.returned (.bool true)/\∃w1,Below w.heap.size w w1/\w'=(World.drew (w1.setCell ⟨b,o,none⟩ (.string ⟨s.toArray⟩))).setCell ⟨g,1,none⟩ (.int .i64 (a+1:Nat))
theorem Gf(g:Nat)(A:Option Addr)(c:Nat)(l:List Tok)(a:Nat)(cs:Array Value)(b o:Nat)(old:List UInt8)(w:World)(ha:a<=1000000)(h:PsS g A c l a cs w)(hgb:g<=b)(hat:b≠g\/2<=o)(hold:w.cell? ⟨b,o,none⟩=some (.string ⟨old.toArray⟩))(hfr:w.frozen? ⟨b,o,none⟩=false)(hs:∀t∈l,t.s.length<=1000):
  Calls Tryz.prog 161 #[.pointer (some ⟨g,0,none⟩),.pointer (some ⟨b,o,none⟩)] w (RetNr (AO l a) g a b o w):=by
 have lp:=h.blk.lt;have HP:=Lib.hid h;have lbo:=Ag hold;by_cases hlt:a<l.length
 ·obtain⟨b1,o1,t,rfl,hbB,hv,c0,c1⟩:=h.tk.at_ hlt;have ht:=hs t (List.mem_of_getElem? hv);obtain⟨R,hR⟩:∃R,AO l a=R:=⟨_,rfl⟩;have hR1:(if t.k=1/\Ai t.s=true then some t.s else none)=R:=by rw[<-hR];unfold AO;rw[hv]
  rw[hR];have HR:=Lib.hid hR1;have i1:(0:Int)<=(a:Int):=by omega
  have i2:(a:Int)<(l.length:Int):=by omega
  have b0:¬(l.length:Int)<=(a:Int):=by omega
  have lb:b1<w.heap.size:=by omega
  have HSH:Hid (∀w':World,Below w.heap.size w w'->(w'.cell? ⟨g,0,none⟩=some (.slice (some ⟨b1,o1,none⟩) l.length c)/\w'.cell? ⟨g,1,none⟩=some (.int .i64 (a:Nat))/\w'.cell? ⟨b1,o1+a * 2,none⟩=some (.int .i64 t.k)/\w'.cell? ⟨b1,o1+a * 2+1,none⟩=some (.string ⟨t.s.toArray⟩))):=
   λw' hb=>⟨((h.blk.below hb lp).cell 0).trans h.c0,((h.blk.below hb lp).cell 1).trans h.c1,(hb.cell (p:=⟨b1,o1+a * 2,none⟩) lb).trans c0,(hb.cell (p:=⟨b1,o1+a * 2+1,none⟩) lb).trans c1⟩
  have HNM:Hid (∀Z:World,Calls Tryz.prog 74 #[.string ⟨t.s.toArray⟩] Z (Ret (.bool (Ai t.s)) Z)):=λZ=>Di rfl ht Z
  obtain⟨N,hN⟩:∃N,Ai t.s=N:=⟨_,rfl⟩;rw[hN]at HNM HR;clear hv hR1 hR hN h;by_cases hk:t.k=1
  ·have k1:(t.k != 1)=false:=by simpa using hk
   have k2:(t.k==1)=true:=by simpa using hk
   have HK:=Lib.hid hk;clear hk;have HR2:Hid ((if N=true then some t.s else none)=R):=by show _=_;rw[<-HR.out];simp[HK.out]
   clear HR c0 c1;go_in
   go_upto_region 1 with fail
   refine rgn HSH λhHeld=>?_
   refine tS [0,1,2,3,4,5,6,7,8,9,10,11,12,13,14,15,16,17,18,19,20,21,22,23,24,25,26,27,28,29,30,31,32,33,34,35] ?_;iterate 36(refine tC ?_;refine ap ?_)
   refine tN ?_;refine rdy 36 λK hK=>?_
   go_simp;refine(HNM.out _).mono ?_<;>rintro en w5 ⟨rfl,hb5⟩<;>have hz5:=hb5.size<;>have hb15:Below w.heap.size w w5:=(Below.drew (Below.refl _ w)).trans hb5
   go_wp2_with fail;refine hK.out _ _ (HSH.out _ (by exact bl)) λhHeld=>?_
   clear hK K;refine ap ?_;refine tS [37,38] ?_;iterate 2(refine tC ?_;refine ap ?_)
   refine tN ?_;refine wpAnyH_done (by kernel_rfl) ?_ _;cases N with
   |false=>
    have hR2:R=none:=HR2.out.symm;subst hR2;go_wp2_with fail;go_ret;exact⟨rfl,hb15⟩
   |true=>
    have hR2:R=some t.s:=HR2.out.symm;subst hR2;have hP5:=HP.out.below hb15;have HP5:=Lib.hid hP5;have x1:w5.cell? ⟨b,o,none⟩=some (.string ⟨old.toArray⟩):=(hb15.cell (p:=⟨b,o,none⟩) lbo).trans hold;have f1:w5.frozen? ⟨b,o,none⟩=false:=((EJ hb15).2 b o lbo).trans hfr;have HS5:Hid (∀w':World,Below w5.heap.size w5 w'->(w'.cell? ⟨g,0,none⟩=some (.slice (some ⟨b1,o1,none⟩) l.length c)/\w'.cell? ⟨g,1,none⟩=some (.int .i64 (a:Nat))/\w'.cell? ⟨b1,o1+a * 2,none⟩=some (.int .i64 t.k)/\w'.cell? ⟨b1,o1+a * 2+1,none⟩=some (.string ⟨t.s.toArray⟩))):=λw' hb=>HSH.out w' (hb15.trans (hb.mono hb15.size))
    clear hP5;have HSR:Hid (∀(v:Value) (Y:World),(Y.cell? ⟨g,0,none⟩=some (.slice (some ⟨b1,o1,none⟩) l.length c)/\Y.cell? ⟨g,1,none⟩=some (.int .i64 (a:Nat))/\Y.cell? ⟨b1,o1+a * 2,none⟩=some (.int .i64 t.k)/\Y.cell? ⟨b1,o1+a * 2+1,none⟩=some (.string ⟨t.s.toArray⟩))->
      ((Y.setCell ⟨b,o,none⟩ v).cell? ⟨g,0,none⟩=some (.slice (some ⟨b1,o1,none⟩) l.length c)/\(Y.setCell ⟨b,o,none⟩ v).cell? ⟨g,1,none⟩=some (.int .i64 (a:Nat))/\(Y.setCell ⟨b,o,none⟩ v).cell? ⟨b1,o1+a * 2,none⟩=some (.int .i64 t.k)/\(Y.setCell ⟨b,o,none⟩ v).cell? ⟨b1,o1+a * 2+1,none⟩=some (.string ⟨t.s.toArray⟩))):=λv Y ⟨h0,h1,h2,h3⟩=>by
     refine⟨(World.cell?_setCell_other _ _ _ _ (λe=>?_)).trans h0,(World.cell?_setCell_other _ _ _ _ (λe=>?_)).trans h1,(World.cell?_setCell_other _ _ _ _ (λe=>?_)).trans h2,(World.cell?_setCell_other _ _ _ _ (λe=>?_)).trans h3⟩
     ·have e1:=congrArg Addr.off e;have e2:=congrArg Addr.block e;simp at e1 e2;omega
     ·have e1:=congrArg Addr.off e;have e2:=congrArg Addr.block e;simp at e1 e2;omega
     ·have:=congrArg Addr.block e;simp at this;omega
     ·have:=congrArg Addr.block e;simp at this;omega
    go_upto_region 3 with fail
    refine wp_region_held_drew (S:=(λw'=>w'.cell? ⟨g,0,none⟩=some (.slice (some ⟨b1,o1,none⟩) l.length c)/\w'.cell? ⟨g,1,none⟩=some (.int .i64 (a:Nat))/\w'.cell? ⟨b1,o1+a * 2,none⟩=some (.int .i64 t.k)/\w'.cell? ⟨b1,o1+a * 2+1,none⟩=some (.string ⟨t.s.toArray⟩))) (by kernel_rfl) ?_ (λhHeld=>?_)
    ·try dsimp only
     first|exact HS5.out _ (by exact bl)|exact HSR.out _ _ (HS5.out _ (by exact bl))
    refine tS [0,1,2,3,4,5,6,7,8,9,10,11,12] ?_;iterate 13(refine tC ?_;refine ap ?_)
    refine tN ?_;refine rdy 13 λK hK=>?_
    go_simp
    skip
    go_wp2_with fail;refine hK.out _ _ ?_ (λhHeld=>?_)
    ·try dsimp only
     first|exact HS5.out _ (by exact bl)|exact HSR.out _ _ (HS5.out _ (by exact bl))
    clear hK K;refine ap ?_;refine wpAnyH_done (by kernel_rfl) ?_ _;obtain⟨w6,hw6⟩:∃w6,World.drew (w5.setCell ⟨b,o,none⟩ (.string ⟨t.s.toArray⟩))=w6:=⟨_,rfl⟩;rw[hw6];have d1:w6.cell? ⟨g,1,none⟩=some (.int .i64 (a:Nat)):=by
     rw[<-hw6];show World.cell? (w5.setCell ⟨b,o,none⟩ (.string ⟨t.s.toArray⟩)) ⟨g,1,none⟩=_
     rw[World.cell?_setCell_other _ _ _ _ (λe=>by have e1:=congrArg Addr.off e;have e2:=congrArg Addr.block e;simp at e1 e2;omega)];exact(HP5.out.blk.cell 1).trans HP5.out.c1
    have f1:w6.frozen? ⟨g,1,none⟩=false:=by
     rw[<-hw6];show World.frozen? (w5.setCell ⟨b,o,none⟩ (.string ⟨t.s.toArray⟩)) ⟨g,1,none⟩=_
     rw[World.frozen?_setCell];exact HP5.out.blk.frozen 1
    have HW6:=Lib.hid hw6;clear hw6 x1;go_wp2_with fail;go_ret;exact⟨rfl,w5,hb15,by rw[HW6.out];go_num⟩
  ·have k1:(t.k != 1)=true:=by simpa using hk
   have k2:(t.k==1)=false:=by simpa using hk
   have hR2:R=none:=by rw[<-HR.out];simp[hk]
   have k3:¬t.k=1:=hk;clear hk;subst hR2;clear HR c0 c1;go_in
   go_upto_region 1 with fail
   refine rgn HSH λhHeld=>?_
   refine tS [0,1,2,3,4,5,6,7,8,9,10,11,12,13,14,15,16,17,18,19,20,21,22,23,24] ?_;iterate 25(refine tC ?_;refine ap ?_)
   refine tN ?_;refine tS [25,26,27,28,29,30,31,32,33,34,35,36,37] ?_;iterate 13(refine tX ?_;refine ap ?_)
   refine tN ?_;refine tS [38] (tC ?_);refine ap (tN ?_);refine wpAnyH_done (by kernel_rfl) ?_ _;go_wp2_with fail;go_ret;exact⟨rfl,Below.drew (Below.refl _ w)⟩
 ·have hR2:AO l a=none:=by unfold AO;rw[List.getElem?_eq_none (by omega)]
  rw[hR2];have b0:(l.length:Int)<=(a:Int):=by omega
  have HSH:Hid (∀w':World,Below w.heap.size w w'->(w'.cell? ⟨g,0,none⟩=some (.slice A l.length c)/\w'.cell? ⟨g,1,none⟩=some (.int .i64 (a:Nat)))):=
   λw' hb=>⟨((h.blk.below hb lp).cell 0).trans h.c0,((h.blk.below hb lp).cell 1).trans h.c1⟩
  clear hR2 h;go_in
  go_upto_region 1 with fail
  refine rgn HSH λhHeld=>?_
  refine tS [0,1,2,3,4,5,6,7,8,9,10] ?_;iterate 11(refine tC ?_;refine ap ?_)
  refine tN ?_;refine tS [11,12,13,14,15,16,17,18,19,20,21,22] ?_;iterate 12(refine tX ?_;refine ap ?_)
  refine tN ?_;refine tS [23,24] ?_;iterate 2(refine tC ?_;refine ap ?_)
  refine tN ?_;refine tS [25,26,27,28,29,30,31,32,33,34,35,36,37] ?_;iterate 13(refine tX ?_;refine ap ?_)
  refine tN ?_;refine tS [38] (tC ?_);refine ap (tN ?_);refine wpAnyH_done (by kernel_rfl) ?_ _;go_wp2_with fail;go_ret;exact⟨rfl,Below.drew (Below.refl _ w)⟩
def KX(cs0:Array Value)(o base:Nat)(e:Ex)(cs:Array Value)(w:World):Prop:=
 ∃A' c' b,cs=Aa (Gm cs0 o (e.cells A' c')) b/\ExR (λk=>base<=k/\k<w.heap.size) e A' c' w
theorem KX.stay{cs0:Array Value}{o base g:Nat}(hg:g<base):Gs g (KX cs0 o base):=λe cs W W' b ⟨A',c',b0,h1,h2⟩ hb=>
 ⟨A',c',b,by rw[h1,AQ],h2.keep λk hk=>⟨⟨hk.1,Nat.lt_of_lt_of_le hk.2 hb.size⟩,λo=>hb.cell hk.2 (by omega) o⟩⟩
def Aw(l:List Tok)(a:Nat):Option (Ex×Nat):=if hit l a [67,72,69,67,75]then Ae l (a+1) (Dc l (a+2))else some (ex0,a)
theorem PX{l:List Tok}{a:Nat}{r:Ex×Nat}(hl:l.length<=990)(hs:∀t∈l,t.s.length<=1000)(ha:a<=l.length)(h:Dc l a=some r):r.2<=l.length:=by
 unfold Dc at h;split at h
 ·injection h with h
  subst h;have:=PG (l.drop a) (by rw[List.length_drop];omega) (λt ht=>Nat.le_trans (hs t (List.mem_of_mem_drop ht)) (by decide));rw[List.length_drop]at this;simp only;omega
 ·cases h
theorem Wh(g pv:Nat)(A:Option Addr)(c:Nat)(l:List Tok)(a:Nat)(cs0:Array Value)(w:World)(hp:PsE g c l w)(ha:a<=l.length)(hP:PsS g A c l a (Aa cs0 a) w)(hsz:16<=cs0.size)(hv:w.cell? ⟨pv,0,none⟩=some (.pointer (some ⟨g,0,none⟩)))(hpg:pv≠g):
  Calls Tryz.prog 212 #[.pointer (some ⟨pv,0,none⟩)] w (FP (Dc l a) g A c l (KX cs0 10 w.heap.size) w):=by
 have hpl:=Ag hv;have hgl:=hP.blk.lt;have HX:Hid (∀Z:World,Below w.heap.size w Z->Calls Tryz.prog 175 #[.pointer (some ⟨g,0,none⟩),.pointer (some ⟨g,10,none⟩)] Z (Si (Dc l a) 10 g A c l (Aa cs0 a) Z)):=λZ hz=>
  Ur g A c l a _ 10 Z (hp.below hz (Nat.le_of_lt hgl)) ha (hP.below hz) (by decide) (by rw[PU];exact hsz)
 have HSV:Hid (∀Z:World,Below w.heap.size w Z->Z.cell? ⟨pv,0,none⟩=some (.pointer (some ⟨g,0,none⟩))):=λZ hz=>(hz.cell (p:=⟨pv,0,none⟩) hpl).trans hv
 obtain⟨o,ho⟩:∃o,Dc l a=o:=⟨_,rfl⟩;rw[ho]at HX ⊢;clear ho hp hP hv ha hsz;go_in
 go_upto_region 1 with fail
 cases o with
 |none=>
  refine wp_region_held_drew (S:=(λZ=>Z.cell? ⟨pv,0,none⟩=some (.pointer (some ⟨g,0,none⟩)))) (by kernel_rfl) ?_ (λhHeld=>?_)
  ·try dsimp only
   first|exact HSV.out _ (by exact bl)|exact HS5.out _ (by exact bl)
  refine tS [0,1,2,3,4] ?_;iterate 5(refine tC ?_;refine ap ?_)
  refine tN ?_;refine rdy 5 λK hK=>?_
  go_simp
  (refine(HX.out _ (by exact bl)).mono ?_)<;>rintro en w5 ⟨rfl,hb5⟩<;>have hc5:But g w w5:=But.trans (But.of_below (by exact bl)) hb5<;>have HS5:Hid (∀Z:World,Below w5.heap.size w5 Z->Z.cell? ⟨pv,0,none⟩=some (.pointer (some ⟨g,0,none⟩))):=(λZ hz=>((hc5.trans (But.of_below hz)).cell hpl hpg 0).trans (HSV.out w (Below.refl _ _)))
  go_wp2_with fail;refine hK.out _ _ ?_ (λhHeld=>?_)
  ·try dsimp only
   first|exact HSV.out _ (by exact bl)|exact HS5.out _ (by exact bl)
  clear hK K;refine ap ?_;refine tS [6] (tC ?_);refine ap (tN ?_);refine wpAnyH_done (by kernel_rfl) ?_ _;go_wp2_with fail;go_ret;exact⟨rfl,hc5⟩
 |some r=>
  obtain⟨e,b⟩:=r;refine wp_region_held_drew (S:=(λZ=>Z.cell? ⟨pv,0,none⟩=some (.pointer (some ⟨g,0,none⟩)))) (by kernel_rfl) ?_ (λhHeld=>?_)
  ·try dsimp only
   first|exact HSV.out _ (by exact bl)|exact HS5.out _ (by exact bl)
  refine tS [0,1,2,3,4] ?_;iterate 5(refine tC ?_;refine ap ?_)
  refine tN ?_;refine rdy 5 λK hK=>?_
  go_simp
  (refine(HX.out _ (by exact bl)).mono ?_)<;>rintro en w5 ⟨A5,c5,rfl,hP5,hE5,hb5⟩<;>have hc5:But g w w5:=But.trans (But.of_below (by exact bl)) hb5<;>have HS5:Hid (∀Z:World,Below w5.heap.size w5 Z->Z.cell? ⟨pv,0,none⟩=some (.pointer (some ⟨g,0,none⟩))):=(λZ hz=>((hc5.trans (But.of_below hz)).cell hpl hpg 0).trans (HSV.out w (Below.refl _ _)))<;>have HP5:=Lib.hid hP5<;>have HE5:=Lib.hid hE5<;>clear hP5 hE5
  go_wp2_with fail;refine hK.out _ _ ?_ (λhHeld=>?_)
  ·try dsimp only
   first|exact HSV.out _ (by exact bl)|exact HS5.out _ (by exact bl)
  clear hK K;refine ap ?_;refine tS [6] (tC ?_);refine ap (tN ?_);refine wpAnyH_done (by kernel_rfl) ?_ _;go_wp2_with fail;go_ret;refine⟨rfl,_,HP5.out,⟨A5,c5,b,by rw[Ht _ _ _ _ (by decide),AQ],HE5.out.keep λk hk=>⟨⟨by have:=hk.1;simp at this;omega,hk.2⟩,λ_=>rfl⟩⟩,hc5⟩
theorem Qu{α:Type}(pv:Nat)(o:Option (α×Nat))(K:α->Array Value->World->Prop)(g:Nat)(A:Option Addr)(c:Nat)(l:List Tok)(a:Nat)(cs:Array Value)(w:World)(hl:l.length<=990)(ha:a<=l.length)(h:PsS g A c l a cs w)(hK:Gs g K)(ho:a+1<=l.length->∀r,o=some r->r.2<=l.length)
 (hI:∀W,But g w W->a+1<=l.length->PsS g A c l (a+1) (Aa cs (a+1)) W->Calls Tryz.prog 212 #[.pointer (some ⟨pv,0,none⟩)] W (FP o g A c l K W)):
  Calls Tryz.prog 164 #[.pointer (some ⟨g,0,none⟩),.func (.func 212) #[] #[.pointer (some ⟨pv,0,none⟩)]] w (FP (Ae l a o) g A c l K w):=by
 have HT:=Lib.hid (Ac g A c l a cs [40] w (by omega) h);obtain⟨R,hR⟩:∃R,Ae l a o=R:=⟨_,rfl⟩;rw[hR];unfold Ae at hR;have HA:Hid (hit l a [40]=true->a+1<=l.length):=λh=>DZ h
 obtain⟨B,hB⟩:∃B,hit l a [40]=B:=⟨_,rfl⟩;rw[hB]at HT hR HA;have HR:=Lib.hid hR;have HI:=Lib.hid hI;have HK:=Lib.hid hK;have HO:=Lib.hid ho;clear hR hB h hI hK ho ha;go_in
 go_wp2_with fail;refine HT.out.mono ?_;rintro en w1 ⟨rfl,hP1,hb1⟩;have HB1:=Lib.hid hb1;cases B with
 |false=>
  have hR:R=none:=HR.out.symm;subst hR;clear hP1 hb1;go_wp2_with fail;go_ret;exact⟨rfl,HB1.out⟩
 |true=>
  have HR:Hid ((o.bind λr=>if hit l r.2 [41]then some (r.1,r.2+1)else none)=R):=HR.out;have hP1':PsS g A c l (a+1) (Aa cs (a+1)) w1:=hP1;have HX:=Lib.hid (HI.out w1 hb1 (HA.out rfl) hP1');have HAL:=Lib.hid (HA.out rfl);clear hP1 hP1' hb1 HI HT;go_wp2_with fail;refine HX.out.mono ?_;cases o with
  |none=>
   have hR:R=none:=HR.out.symm;subst hR;rintro en w2 ⟨rfl,hb2⟩;have HB2:=Lib.hid (HB1.out.trans hb2);clear hb2;go_wp2_with fail;go_ret;exact⟨rfl,HB2.out⟩
  |some r=>
   obtain⟨x,b⟩:=r;have hR:(if hit l b [41]then some (x,b+1)else none)=R:=HR.out;rintro en w2 ⟨rfl,cs2,hP2,hK2,hb2⟩;have hbl:b<=l.length:=HO.out HAL.out (x,b) rfl;have HT2:=Lib.hid (Ac g A c l b cs2 [41] w2 (by omega) hP2);have HB2:=Lib.hid (HB1.out.trans hb2);have HK2:=Lib.hid hK2;obtain⟨D,hD⟩:∃D,hit l b [41]=D:=⟨_,rfl⟩;rw[hD]at HT2 hR;have HR2:=Lib.hid hR;clear hP2 hK2 hb2 hD hR HR HX hbl;go_wp2_with fail;refine HT2.out.mono ?_;rintro en w3 ⟨rfl,hP3,hb3⟩;have HP3:=Lib.hid hP3;have HB3:=Lib.hid hb3;clear hP3 hb3;cases D with
   |false=>
    have hR:R=none:=HR2.out.symm;subst hR;go_wp2_with fail;go_ret;exact⟨rfl,HB2.out.trans HB3.out⟩
   |true=>
    have hR:R=some (x,b+1):=HR2.out.symm;subst hR;go_wp2_with fail;go_ret;exact⟨rfl,_,HP3.out,HK.out _ _ _ _ _ HK2.out HB3.out,HB2.out.trans HB3.out⟩
theorem Gn(g:Nat)(A:Option Addr)(c:Nat)(l:List Tok)(a:Nat)(cs:Array Value)(w:World)(hp:PsE g c l w)(ha:a<=l.length)(h:PsS g A c l a cs w)(hsz:16<=cs.size)(hz:Gm cs 10 (ex0.cells none 0)=cs):
  Calls Tryz.prog 169 #[.pointer (some ⟨g,0,none⟩)] w (Si (Aw l a) 10 g A c l cs w):=by
 have hn:=hp.n;have hgw:=h.blk.lt;obtain⟨wa,hwa⟩:∃x,w.alloc (.cells #[.pointer (some ⟨g,0,none⟩)] 97)=x:=⟨_,rfl⟩;have kpa:Blk wa w.heap.size 97 #[.pointer (some ⟨g,0,none⟩)]:=by rw[<-hwa];exact Blk.new _ _ _
 have hba:Below w.heap.size w wa:=by rw[<-hwa];exact bl
 have hPa:=h.below hba;have xp:wa.cell? ⟨w.heap.size,0,none⟩=some (.pointer (some ⟨g,0,none⟩)):=kpa.cell 0;have hpg:w.heap.size≠g:=by omega
 have HT:=Lib.hid (Ac g A c l a cs [67,72,69,67,75] wa (by omega) hPa);obtain⟨R,hR⟩:∃R,Aw l a=R:=⟨_,rfl⟩;rw[hR];unfold Aw at hR;have HA:Hid (hit l a [67,72,69,67,75]=true->a+1<=l.length):=λh=>DZ h
 obtain⟨B,hB⟩:∃B,hit l a [67,72,69,67,75]=B:=⟨_,rfl⟩;rw[hB]at HT hR HA;have HR:=Lib.hid hR;have HWA:=Lib.hid hwa;have HBA:=Lib.hid hba;have HKA:=Lib.hid kpa;have HZ:=Lib.hid hz;have HPE:=Lib.hid (hp.below hba (Nat.le_of_lt hgw));have HSZ:=Lib.hid hsz;have HS:=Lib.hid hp.s;clear hR hB hwa hba kpa hz hp hsz h hPa;go_in
 go_upto_region 1 with fail
 rw[show w.alloc _=wa from HWA.out];clear HWA;go_wp2_with fail;refine HT.out.mono ?_;rintro en w1 ⟨rfl,hP1,hb1⟩;have hlt:w.heap.size<wa.heap.size:=HKA.out.lt;have HB1:=Lib.hid hb1;have xp1:w1.cell? ⟨w.heap.size,0,none⟩=some (.pointer (some ⟨g,0,none⟩)):=(hb1.cell hlt hpg 0).trans (HKA.out.cell 0);cases B with
 |false=>
  have hR:R=some (ex0,a):=HR.out.symm;subst hR;have HP1:Hid (PsS g A c l a (Aa cs a) w1):=hP1;clear hP1 hb1 xp HT;go_wp2_with fail;go_ret;exact⟨none,0,rfl,by rw[HZ.out];exact HP1.out,Rz _ _,(But.of_below HBA.out).trans HB1.out⟩
 |true=>
  have HR:Hid (Ae l (a+1) (Dc l (a+2))=R):=HR.out;have hP1':PsS g A c l (a+1) (Aa cs (a+1)) w1:=hP1;have hg1:g<w1.heap.size:=hP1.blk.lt;have HI:=Lib.hid (Qu w.heap.size (Dc l (a+2)) (KX cs 10 w1.heap.size) g A c l (a+1) _ w1 hn (HA.out rfl) hP1' (KX.stay hg1) (λh2 r hr=>PX hn HS.out h2 hr) (λW hW h2 hPW=>(Wh g w.heap.size A c l (a+2) cs W (HPE.out.but (HB1.out.trans hW)) h2 (by rw[AQ]at hPW;exact hPW) HSZ.out ((hW.cell (Ag xp1) hpg 0).trans xp1) hpg).mono λen w' hr=>hr.imp (But.refl _ _) λe cs' W' ⟨A',c',b,h1,h2⟩=>⟨A',c',b,h1,h2.keep λk hk=>⟨⟨Nat.le_trans hW.size hk.1,hk.2⟩,λ_=>rfl⟩⟩));rw[HR.out]at HI;clear hP1 hP1' hb1 xp HT HR;go_wp2_with fail;refine HI.out.mono ?_;intro en w2 hr;cases R with
  |none=>
   obtain⟨rfl,hb2⟩:=hr;have HB2:=Lib.hid hb2;clear hb2 HI;go_wp2_with fail;go_ret;exact⟨rfl,((But.of_below HBA.out).trans HB1.out).trans HB2.out⟩
  |some r=>
   obtain⟨rfl,cs2,hP2,hK2,hb2⟩:=hr;have HP2:=Lib.hid hP2;have HK2:=Lib.hid hK2;have HB2:=Lib.hid hb2;clear hb2 HI hP2 hK2;go_wp2_with fail;go_ret;obtain⟨A',c',b,h1,h2⟩:=HK2.out;have hP2:=HP2.out;have he:cs2=Aa (Gm cs 10 (r.1.cells A' c')) r.2:=by
    have:=hP2.self;rw[<-this,h1,AQ]
   rw[he]at hP2;exact⟨A',c',rfl,hP2,h2.keep λk hk=>⟨⟨Nat.le_trans (Nat.le_trans HBA.out.size HB1.out.size) hk.1,hk.2⟩,λ_=>rfl⟩,((But.of_below HBA.out).trans HB1.out).trans HB2.out⟩
end Go.Proofs.YtchilcchogcibaaGreatDoor
