/- What stands behind CREATE: the walk. -/
import Derived.Test.YtchilcchogcibaaGreatDoorFPs17
set_option maxRecDepth 100000
set_option maxHeartbeats 8000000
namespace Go.Proofs.YtchilcchogcibaaGreatDoor
open Go.RowKit
attribute [local go_sem] ByteArray.extract_mk Ak AY
attribute [local go_sem ↓] Go.wp_at_zero Go.wp_at_succ
theorem cqOfF{l:List Col}{A:Option Addr}{lo hi:Nat}{Q:Nat->Prop}{w:World}(h:Ku w lo hi A l)(hQ:∀b,lo<=b->b<hi->Q b):CQ l A Q w:=λhl=>by
 obtain⟨b,off,h1,h2,h3,h4⟩:=h hl;exact⟨b,off,h1,hQ b h2 h3,h4⟩
theorem TQ{tb key:List UInt8}{cols:List Col}{us:List (List UInt8)}{rs:List Rf}{e:Ex}{B:Option Addr}{d:Nat}{Q:Nat->Prop}{w:World}(h1:tb.length<=1000)(h2:key.length<=1000)(h3:∀x∈cols,OG x)(h4:cols.length<=1000)(h5:∀x∈us,J9 x)(h6:us.length<=1000)(h7:∀x∈rs,XW x)(h8:rs.length<=1000)(he:ExR Q e B d w):(stT tb cols key us rs e).Ok where
 op:=by show([99,114,101,97,116,101]:List UInt8).length<=1000;decide
 tb:=h1
 ot:=Nat.zero_le _
 key:=h2
 role:=Nat.zero_le _
 nN:=Nat.zero_le _
 nC:=h4
 nU:=h6
 nR:=h8
 nW:=Nat.zero_le _
 nS:=Nat.zero_le _
 names:=λx hx=>by cases hx
 cols:=h3
 uniq:=h5
 refs:=h7
 chk:=he.1
 whr:=CX
 row:=λx hx=>by cases hx
 sets:=λx hx=>by cases hx
 num:=⟨Nu he _,LP _,(λv hv=>by cases hv),(λx hx=>by cases hx)⟩
theorem Po{tb key:List UInt8}{cols:List Col}{us:List (List UInt8)}{rs:List Rf}{e:Ex}{C U R E:Sl}{b1 b2 b3:Nat}{Q:Nat->Prop}{w:World}(h1:w.ownsRow b1 96 3 (.slice C.a cols.length C.c) cols.length (cols.flatMap Col.cells))(h2:w.ownsRow b2 9 1 (.slice U.a us.length U.c) us.length (us.map IR))(h3:w.ownsRow b3 74 2 (.slice R.a rs.length R.c) rs.length (rs.flatMap Rf.cells))
 (q1:∀b,b1<=b->b<w.heap.size->Q b)(q2:∀b,b2<=b->b<w.heap.size->Q b)(q3:∀b,b3<=b->b<w.heap.size->Q b)(he:ExR Q e E.a E.c w):StQ 1000 (stT tb cols key us rs e) (pT C U R E) Q w:=by
 obtain⟨A1,c1,e1,-,-,f1⟩:=Ku.own h1;obtain⟨A2,c2,e2,-,-,f2⟩:=SQ.own h2;obtain⟨A3,c3,e3,f3⟩:=XQ.own h3
 injection e1 with e1 _ _
 injection e2 with e2 _ _
 injection e3 with e3 _ _
 refine⟨SQ.nil, ?_, ?_, ?_,he.2.2.2,λh=>absurd h (by simp[stT]),⟨0,ZQ.nil⟩,0,rfl⟩
 ·show CQ cols C.a Q w
  rw[e1];exact cqOfF f1 q1
 ·show SQ us U.a Q w
  rw[e2];exact f2.keep λb hb=>⟨q2 b hb.1 hb.2,λ_=>rfl⟩
 ·show XQ rs R.a Q w
  rw[e3];exact f3.keep λb hb=>⟨q3 b hb.1 hb.2,λ_=>rfl⟩
theorem Un{l:List Tok}{a:Nat}{r:Rf×Nat}(h:Je l a=some r):a<r.2/\r.2<=l.length:=by
 unfold Je at h;cases hi:Ae l a (Az l (a+1))with
 |none=>rw[hi]at h;cases h
 |some q=>
  rw[hi]at h;simp only[Option.bind_some]at h;cases hn:AO l q.2 with
  |none=>rw[hn]at h;cases h
  |some t=>
   rw[hn]at h
   injection h with h
   subst h;have h1:=Dz hn;have h2:a<q.2:=by
    unfold Ae at hi;split at hi
    ·cases hz:Az l (a+1)with
     |none=>rw[hz]at hi;cases hi
     |some z=>
      rw[hz]at hi;simp only[Option.bind_some]at hi;split at hi
      ·injection hi with hi
       subst hi;have:=Ey hz;simp only;omega
      ·cases hi
    ·cases hi
   simp only;omega
theorem UY(g:Nat)(A:Option Addr)(c:Nat)(l:List Tok)(w:World)(hTy:TyG g w)(hp:PsE g c l w)(h:PsS g A c l 1 (psC A l.length c 1 ((stZ [] []).cells Cj)) w):
  Calls Tryz.prog 97 #[.pointer (some ⟨g,0,none⟩)] w (Fz (KW l) g A c l w):=by
 have hn:=hp.n;have hgw:g<w.heap.size:=h.blk.lt;obtain⟨R,hR⟩:∃R,KW l=R:=⟨_,rfl⟩;rw[hR];unfold KW at hR;obtain⟨pv,hpvv⟩:∃v,w.heap.size=v:=⟨_,rfl⟩;obtain⟨wa,hwa⟩:∃x,w.alloc (.cells #[.pointer (some ⟨g,0,none⟩)] 97)=x:=⟨_,rfl⟩;have kpa:Blk wa pv 97 #[.pointer (some ⟨g,0,none⟩)]:=by rw[<-hwa,<-hpvv];exact Blk.new _ _ _
 have hba:Below w.heap.size w wa:=by rw[<-hwa];exact bl
 have hPa:=h.below hba;have hpg:pv≠g:=by omega
 have x2:wa.cell? ⟨g,2,none⟩=some (.string ⟨#[]⟩):=hPa.blk.cell 2;have f2:=hPa.blk.frozen 2;have xp:wa.cell? ⟨pv,0,none⟩=some (.pointer (some ⟨g,0,none⟩)):=kpa.cell 0;obtain⟨wb,hwb⟩:∃x,wa.setCell ⟨g,2,none⟩ (.string ⟨([99,114,101,97,116,101]:List UInt8).toArray⟩)=x:=⟨_,rfl⟩;have hPb:PsS g A c l 1 (psC A l.length c 1 ((stT [] [] [] [] [] ex0).cells (pT slZ slZ slZ slZ))) wb:=by
  have:=hPa.set 2 (Nat.le_refl _) (.string ⟨([99,114,101,97,116,101]:List UInt8).toArray⟩);rw[hwb,Ha]at this;exact this
 have hbwb:But g w wb:=by rw[<-hwb];exact(But.of_below (p:=g) hba).set 2 _
 have hxb:pv<wb.heap.size:=by rw[<-hwb];simpa using kpa.lt
 have hgb:g<wb.heap.size:=hPb.blk.lt;have HPV:Hid (∀Z:World,But g wb Z->Z.cell? ⟨pv,0,none⟩=some (.pointer (some ⟨g,0,none⟩))):=λZ hz=>(hz.cell hxb hpg 0).trans (by rw[<-hwb,World.cell?_setCell_other _ _ _ _ (λe=>hpg (congrArg Addr.block e).symm)];exact xp)
 have HS0:Hid (∀Z:World,Below wb.heap.size wb Z->Z.cell? ⟨pv,0,none⟩=some (.pointer (some ⟨g,0,none⟩))):=λZ hz=>HPV.out Z (But.of_below hz)
 have hpe:=hp.but hbwb;have hty:=hTy.but hbwb;obtain⟨B1,hB1⟩:∃B,hit l 1 [84,65,66,76,69]=B:=⟨_,rfl⟩;obtain⟨ON,hON⟩:∃x,AO l 2=x:=⟨_,rfl⟩;obtain⟨B3,hB3⟩:∃B,hit l 3 [40]=B:=⟨_,rfl⟩;have HC1:Hid (∀(Z:World) (b:Nat),PsS g A c l 1 (psC A l.length c 1 ((stT [] [] [] [] [] ex0).cells (pT slZ slZ slZ slZ))) Z->Z.cell? ⟨b,0,none⟩=some (.string ⟨([84,65,66,76,69]:List UInt8).toArray⟩)->b≠g->Calls Tryz.prog 160 #[.pointer (some ⟨g,0,none⟩),.slice (some ⟨b,0,none⟩) 1 1] Z (EO B1 g A c l (1+B1.toNat) (Aa (psC A l.length c 1 ((stT [] [] [] [] [] ex0).cells (pT slZ slZ slZ slZ))) (1+B1.toNat)) Z)):=λZ b h1 h2 h3=>by
  have:=CG g A c l 1 _ [84,65,66,76,69] b 1 Z (by decide) h1 h2 h3;rw[hB1]at this;exact this
 have HC2:Hid (∀Z:World,PsS g A c l (1+true.toNat) (psC A l.length c (1+true.toNat) ((stT [] [] [] [] [] ex0).cells (pT slZ slZ slZ slZ))) Z->Calls Tryz.prog 161 #[.pointer (some ⟨g,0,none⟩),.pointer (some ⟨g,3,none⟩)] Z (IJ ON 3 g A c l 2 (psC A l.length c 2 ((stT [] [] [] [] [] ex0).cells (pT slZ slZ slZ slZ))) Z)):=λZ h1=>by
  rw[<-hON];exact Bv g A c l 2 _ 3 [] Z (by decide) h1 (by decide) rfl hpe.s
 have HC3:Hid (∀{t:List UInt8} (Z:World) (b:Nat),PsS g A c l (2+1) (psC A l.length c (2+1) (({stT [] [] [] [] [] ex0 with tb:=t}:St).cells (pT slZ slZ slZ slZ))) Z->Z.cell? ⟨b,0,none⟩=some (.string ⟨([40]:List UInt8).toArray⟩)->b≠g->Calls Tryz.prog 160 #[.pointer (some ⟨g,0,none⟩),.slice (some ⟨b,0,none⟩) 1 1] Z (EO B3 g A c l (3+B3.toNat) (Aa (psC A l.length c 3 ((stT t [] [] [] [] ex0).cells (pT slZ slZ slZ slZ))) (3+B3.toNat)) Z)):=λ{t} Z b h1 h2 h3=>by
  have:=CG g A c l 3 (psC A l.length c 3 ((stT t [] [] [] [] ex0).cells (pT slZ slZ slZ slZ))) [40] b 1 Z (by decide) h1 h2 h3;rw[hB3]at this;exact this
 have hR:(if B1 then ON.bind λt=>if B3 then(Gq l (l.length+1) 4).bind λq=>(Ae l q.2 (Az l (q.2+1))).bind λk=>(ER l (l.length+1) k.2 [] []).map λr=>(stT t q.1 k.1 r.1.1 r.1.2.1 r.1.2.2,r.2)else none else none)=R:=by
  rw[<-hR,hB1,hON,hB3]
 have hL1:∀t,ON=some t->t.length<=1000:=λt ht=>by
  obtain⟨y,hy,rfl⟩:=Bj (hON.trans ht);exact hpe.s y hy
 have H4:Hid (B3=true->4<=l.length):=λh=>DZ (hB3.trans h)
 have HR:=Lib.hid hR;have HL1:=Lib.hid hL1;have HBW:=Lib.hid hbwb;have HWA:=Lib.hid hwa;have HWB:=Lib.hid hwb;have HPB:=Lib.hid hPb;have HPE:=Lib.hid hpe;have HTY:=Lib.hid hty;clear hR hL1 hON hB1 hB3 hwa hwb hPa hPb hbwb hpe hba kpa h hp hTy hty;go_in
 go_upto_region 1 with fail
 rw[show w.alloc _=wa from HWA.out]
 try rw[hpvv]
 go_upto_region 2 with fail
 rw[show World.setCell wa _ _=wb from HWB.out];clear HWA HWB x2 f2 xp;refine wp_region_held_drew (S:=(λZ=>Z.cell? ⟨pv,0,none⟩=some (.pointer (some ⟨g,0,none⟩)))) (by kernel_rfl) ?_ (λhHeld=>?_)
 ·try dsimp only
  first|exact HS0.out _ (by exact bl)|exact HPV.out _ (hc2.trans (But.of_below (by exact bl)))|exact HPV.out _ (hc10.trans (But.of_below (by exact bl)))|exact HPV.out _ (hc16.trans (But.of_below (by exact bl)))
 refine tS [0] (tC ?_);refine ap (tN ?_);refine rdy 1 λK hK=>?_
 go_simp
 skip
 go_wp2_with fail;refine hK.out _ _ ?_ (λhHeld=>?_)
 ·try dsimp only
  first|exact HS0.out _ (by exact bl)|exact HPV.out _ (hc2.trans (But.of_below (by exact bl)))|exact HPV.out _ (hc10.trans (But.of_below (by exact bl)))|exact HPV.out _ (hc16.trans (But.of_below (by exact bl)))
 clear hK K;refine ap ?_;cases B1 with
 |false=>
  have hR:R=none:=HR.out.symm;subst hR;refine rdy 2 λK hK=>?_
  go_simp;refine(HC1.out _ _ (HPB.out.below (by exact bl)) ((Blk.new' _ _ _ _ rfl).cell 0) (by omega)).mono ?_<;>rintro en w2 ⟨rfl,hP2,hb2⟩<;>have hc2:But g wb w2:=But.trans (But.of_below (by exact bl)) hb2<;>(try rw[Ad]at hP2)<;>have HP2:=Lib.hid hP2<;>have hg2:g<w2.heap.size:=hP2.blk.lt<;>clear hP2 hb2
  go_wp2_with fail;refine hK.out _ _ ?_ (λhHeld=>?_)
  ·try dsimp only
   first|exact HS0.out _ (by exact bl)|exact HPV.out _ (hc2.trans (But.of_below (by exact bl)))|exact HPV.out _ (hc10.trans (But.of_below (by exact bl)))|exact HPV.out _ (hc16.trans (But.of_below (by exact bl)))
  clear hK K;refine ap ?_;refine tS [3,4] ?_;iterate 2(refine tC ?_;refine ap ?_)
  refine tN ?_;refine tS [5,6,7,8,9,10,11] ?_;iterate 7(refine tX ?_;refine ap ?_)
  refine tN ?_;refine tS [12,13] ?_;iterate 2(refine tC ?_;refine ap ?_)
  refine tN ?_;refine tS [14,15,16,17] ?_;iterate 4(refine tX ?_;refine ap ?_)
  refine tN ?_;refine tS [18] (tC ?_);refine ap (tN ?_);refine wpAnyH_done (by kernel_rfl) ?_ _;go_wp2_with fail;go_ret;exact⟨rfl,HBW.out.trans hc2⟩
 |true=>
  skip
  refine rdy 2 λK hK=>?_
  go_simp;refine(HC1.out _ _ (HPB.out.below (by exact bl)) ((Blk.new' _ _ _ _ rfl).cell 0) (by omega)).mono ?_<;>rintro en w2 ⟨rfl,hP2,hb2⟩<;>have hc2:But g wb w2:=But.trans (But.of_below (by exact bl)) hb2<;>(try rw[Ad]at hP2)<;>have HP2:=Lib.hid hP2<;>have hg2:g<w2.heap.size:=hP2.blk.lt<;>clear hP2 hb2
  go_wp2_with fail;refine hK.out _ _ ?_ (λhHeld=>?_)
  ·try dsimp only
   first|exact HS0.out _ (by exact bl)|exact HPV.out _ (hc2.trans (But.of_below (by exact bl)))|exact HPV.out _ (hc10.trans (But.of_below (by exact bl)))|exact HPV.out _ (hc16.trans (But.of_below (by exact bl)))
  clear hK K;refine ap ?_;refine tS [3,4,5,6,7,8,9] ?_;iterate 7(refine tC ?_;refine ap ?_)
  refine tN ?_;cases ON with
  |none=>
   have hR:R=none:=HR.out.symm;subst hR;refine rdy 10 λK hK=>?_
   go_simp;refine(HC2.out _ (PsS.below HP2.out (by exact bl))).mono ?_<;>rintro en w10 ⟨rfl,hP10,hb10⟩<;>have hc10:But g wb w10:=But.trans (But.trans hc2 (But.of_below (by exact bl))) hb10<;>(try rw[Iw,Ad]at hP10)<;>have HP10:=Lib.hid hP10<;>have hg10:g<w10.heap.size:=hP10.blk.lt<;>clear hP10 hb10
   go_wp2_with fail;refine hK.out _ _ ?_ (λhHeld=>?_)
   ·try dsimp only
    first|exact HS0.out _ (by exact bl)|exact HPV.out _ (hc2.trans (But.of_below (by exact bl)))|exact HPV.out _ (hc10.trans (But.of_below (by exact bl)))|exact HPV.out _ (hc16.trans (But.of_below (by exact bl)))
   clear hK K;refine ap ?_;refine tS [11,12,13] ?_;iterate 3(refine tC ?_;refine ap ?_)
   refine tN ?_;refine tS [14,15,16,17] ?_;iterate 4(refine tX ?_;refine ap ?_)
   refine tN ?_;refine tS [18] (tC ?_);refine ap (tN ?_);refine wpAnyH_done (by kernel_rfl) ?_ _;go_wp2_with fail;go_ret;exact⟨rfl,HBW.out.trans hc10⟩
  |some t=>
   skip
   refine rdy 10 λK hK=>?_
   go_simp;refine(HC2.out _ (PsS.below HP2.out (by exact bl))).mono ?_<;>rintro en w10 ⟨rfl,hP10,hb10⟩<;>have hc10:But g wb w10:=But.trans (But.trans hc2 (But.of_below (by exact bl))) hb10<;>(try rw[Iw,Ad]at hP10)<;>have HP10:=Lib.hid hP10<;>have hg10:g<w10.heap.size:=hP10.blk.lt<;>clear hP10 hb10
   go_wp2_with fail;refine hK.out _ _ ?_ (λhHeld=>?_)
   ·try dsimp only
    first|exact HS0.out _ (by exact bl)|exact HPV.out _ (hc2.trans (But.of_below (by exact bl)))|exact HPV.out _ (hc10.trans (But.of_below (by exact bl)))|exact HPV.out _ (hc16.trans (But.of_below (by exact bl)))
   clear hK K;refine ap ?_;refine tS [11,12,13,14] ?_;iterate 4(refine tC ?_;refine ap ?_)
   refine tN ?_;refine rdy 15 λK hK=>?_
   go_simp
   skip
   go_wp2_with fail;refine hK.out _ _ ?_ (λhHeld=>?_)
   ·try dsimp only
    first|exact HS0.out _ (by exact bl)|exact HPV.out _ (hc2.trans (But.of_below (by exact bl)))|exact HPV.out _ (hc10.trans (But.of_below (by exact bl)))|exact HPV.out _ (hc16.trans (But.of_below (by exact bl)))
   clear hK K;refine ap ?_;cases B3 with
   |false=>
    have hR:R=none:=HR.out.symm;subst hR;refine rdy 16 λK hK=>?_
    go_simp;refine(HC3.out _ _ (PsS.below HP10.out (by exact bl)) ((Blk.new' _ _ _ _ rfl).cell 0) (by omega)).mono ?_<;>rintro en w16 ⟨rfl,hP16,hb16⟩<;>have hc16:But g wb w16:=But.trans (But.trans hc10 (But.of_below (by exact bl))) hb16<;>(try rw[Ad]at hP16)<;>have HP16:=Lib.hid hP16<;>have hg16:g<w16.heap.size:=hP16.blk.lt<;>clear hP16 hb16
    go_wp2_with fail;refine hK.out _ _ ?_ (λhHeld=>?_)
    ·try dsimp only
     first|exact HS0.out _ (by exact bl)|exact HPV.out _ (hc2.trans (But.of_below (by exact bl)))|exact HPV.out _ (hc10.trans (But.of_below (by exact bl)))|exact HPV.out _ (hc16.trans (But.of_below (by exact bl)))
    clear hK K;refine ap ?_;refine tS [17,18] ?_;iterate 2(refine tC ?_;refine ap ?_)
    refine tN ?_;refine wpAnyH_done (by kernel_rfl) ?_ _;go_wp2_with fail;go_ret;exact⟨rfl,HBW.out.trans hc16⟩
   |true=>
    have HR:Hid (((Gq l (l.length+1) 4).bind λq=>(Ae l q.2 (Az l (q.2+1))).bind λk=>(ER l (l.length+1) k.2 [] []).map λr=>(stT t q.1 k.1 r.1.1 r.1.2.1 r.1.2.2,r.2))=R):=HR.out;have h4l:4<=l.length:=H4.out (by first|rfl|trivial);refine rdy 16 λK hK=>?_
    go_simp;refine(HC3.out _ _ (PsS.below HP10.out (by exact bl)) ((Blk.new' _ _ _ _ rfl).cell 0) (by omega)).mono ?_<;>rintro en w16 ⟨rfl,hP16,hb16⟩<;>have hc16:But g wb w16:=But.trans (But.trans hc10 (But.of_below (by exact bl))) hb16<;>(try rw[Ad]at hP16)<;>have HP16:=Lib.hid hP16<;>have hg16:g<w16.heap.size:=hP16.blk.lt<;>clear hP16 hb16
    go_wp2_with fail;refine hK.out _ _ ?_ (λhHeld=>?_)
    ·try dsimp only
     first|exact HS0.out _ (by exact bl)|exact HPV.out _ (hc2.trans (But.of_below (by exact bl)))|exact HPV.out _ (hc10.trans (But.of_below (by exact bl)))|exact HPV.out _ (hc16.trans (But.of_below (by exact bl)))
    clear hK K;refine ap ?_;refine tS [17,18] ?_;iterate 2(refine tC ?_;refine ap ?_)
    refine tN ?_;refine wpAnyH_done (by kernel_rfl) ?_ _;have hct:=HL1.out _ rfl;have hP:PsS g A c l 4 (psC A l.length c 4 ((stT t [] [] [] [] ex0).cells (pT slZ slZ slZ slZ))) w16:=HP16.out;have HP:=Lib.hid hP;have HC16:=Lib.hid hc16;clear hP HP16 HP10 HP2 hc2 hc10 hc16 HC1 HC2 HC3 hHeld;obtain⟨OC,hOC⟩:∃x,Gq l (l.length+1) 4=x:=⟨_,rfl⟩;have HOC0:Hid ((Gq l (l.length+1) 4).map (λq=>(([]:List Col)++q.1,q.2))=OC):=by
     show _=_
     rw[hOC];cases OC<;>simp
    have HOCL:Hid (∀q,OC=some q->q.2<=l.length/\q.1.length<=l.length+1):=λq hq=>SK _ _ q (hOC.trans hq)
    have HR:=HR.out;rw[hOC]at HR;have HR:=Lib.hid HR;obtain⟨N,hN⟩:∃N,l.length=N:=⟨_,rfl⟩;have HN:=Lib.hid hN;have HOC1:Hid ((Gq l (N+1) 4).map (λq=>(([]:List Col)++q.1,q.2))=OC):=by rw[<-hN];exact HOC0.out
    have h4n:4<=N:=by omega
    have hn:N<=990:=by omega
    have HK0:Hid (KL 6 96 3 (·.flatMap Col.cells) OG (psC A l.length c 4 ((stT t [] [] [] [] ex0).cells (pT slZ slZ slZ slZ))) w16.heap.size [] (psC A l.length c 4 ((stT t [] [] [] [] ex0).cells (pT slZ slZ slZ slZ))) w16):=
     ⟨none,0,4,by rw[Ql,Ad];rfl,World.ownsRow_nil _ _ _ _,(λx hx=>by cases hx),Nat.le_refl _⟩
    have hxp16:w16.cell? ⟨pv,0,none⟩=some (.pointer (some ⟨g,0,none⟩)):=HPV.out _ HC16.out;clear hOC HOC0 hN h4l;go_wp2_with fail;clear hxp16;go_loopw [] (λwr=>∃(f:Nat) (xs:List Col) (b:Nat) (cs':Array Value),N+1<=f+b/\xs.length<=b/\b<=N/\Hid ((Gq l f b).map (λq=>(xs++q.1,q.2))=OC)/\Hid (PsS g A c l b cs' wr)/\Hid (KL 6 96 3 (·.flatMap Col.cells) OG (psC A l.length c 4 ((stT t [] [] [] [] ex0).cells (pT slZ slZ slZ slZ))) w16.heap.size xs cs' wr)/\But g w16 wr) (λwr=>N - Ko g wr)
    case atStart=>exact⟨N+1,[],4,_,by omega,Nat.zero_le _,h4n,HOC1,HP,HK0,But.refl _ _⟩
    case round=>
     obtain⟨f,xs,b,cs',hf,hxb,hbn,HJ,HPW,HKW,hbw⟩:=hrel;obtain⟨W,rfl⟩:∃W,W=wr:=⟨_,rfl⟩;obtain⟨f,rfl⟩:∃k,f=k+1:=⟨f - 1,by omega⟩;have hJ:(if hit l b [75,69,89]then some ([],b+1)else(OE l b).bind λr=>(Gq l f r.2).map λq=>(r.1::q.1,q.2)).map (λq=>(xs++q.1,q.2))=OC:=HJ.out;have HT:=Lib.hid (Ac g A c l b cs' [75,69,89] W (by omega) HPW.out);have HKL:Hid (hit l b [75,69,89]=true->b+1<=N):=λh=>by have:=DZ h;rw[HN.out]at this;omega
     obtain⟨BK,hBK⟩:∃B,hit l b [75,69,89]=B:=⟨_,rfl⟩;rw[hBK]at HT hJ HKL;have HJ:=Lib.hid hJ;have HCW:=Lib.hid (HC16.out.trans hbw);have hxW:W.cell? ⟨pv,0,none⟩=some (.pointer (some ⟨g,0,none⟩)):=HPV.out _ HCW.out;clear hJ hBK HOC1 HK0;go_wp2_with fail;refine HT.out.mono ?_;rintro en w1 ⟨rfl,hP1,hb1⟩;have HP1:=Lib.hid hP1;have HB1:=Lib.hid hb1;have HPA:=Lib.hid (PsS.at_ HPW.out);have hx1:w1.cell? ⟨pv,0,none⟩=some (.pointer (some ⟨g,0,none⟩)):=HPV.out _ (HCW.out.trans hb1);clear hP1 hb1 HT hxW;cases BK with
     |false=>
      have HJ:Hid (((OE l b).bind λr=>(Gq l f r.2).map λq=>(r.1::q.1,q.2)).map (λq=>(xs++q.1,q.2))=OC):=HJ.out;have HCL:=Lib.hid (Qv g A c l b (psC A l.length c 4 ((stT t [] [] [] [] ex0).cells (pT slZ slZ slZ slZ))) _ xs w16 w1 (HPE.out.but (HCW.out.trans HB1.out)) (λZ hz=>(HTY.out.but ((HCW.out.trans HB1.out).trans hz)).out) (by have:=HN.out;show b<=_;omega) HP1.out (by have:=HP.out.blk.lt;omega) (hbw.trans HB1.out) (by omega) (by show 6<25;decide) (KL.stay (by have:=HP.out.blk.lt;omega) _ _ _ _ _ HKW.out HB1.out));have HCP:Hid (∀r,OE l b=some r->b<r.2/\r.2<=N):=λr hr=>by have:=ZU hr;rw[HN.out]at this;exact this
      obtain⟨o,ho⟩:∃o,OE l b=o:=⟨_,rfl⟩;rw[ho]at HCL HJ HCP;clear ho HKW HP1 HB1;go_wp2_with fail;refine HCL.out.mono ?_;clear hx1;cases o with
      |none=>
       have hOC:OC=none:=HJ.out.symm;subst hOC;have hR:R=none:=HR.out.symm;subst hR;rintro en w2 ⟨rfl,hb2⟩;have HB2:=Lib.hid (HBW.out.trans (HC16.out.trans hb2));clear hb2 HCL;go_wp2_with fail;go_ret;exact⟨rfl,HB2.out⟩
      |some r=>
       obtain⟨x,b'⟩:=r;obtain⟨hlt,hle⟩:b<b'/\b'<=N:=HCP.out _ rfl;have HF:Hid ((Gq l f b').map (λq=>((xs++[x])++q.1,q.2))=OC):=by
        show _=_
        rw[<-HJ.out,Option.bind_some,Option.map_map];cases Gq l f b'<;>simp
       rintro en w2 ⟨rfl,cs2,hP2,hK2,hb2⟩;have HP2:=Lib.hid hP2;have HK2:=Lib.hid hK2;have HB2:=Lib.hid hb2;clear HJ HCL hP2 hK2 hb2;go_wp2_with fail;go_roundw
       case rel=>exact⟨f,xs++[x],b',cs2,by omega,by simp;omega,hle,HF,HP2,HK2,HB2.out⟩
       case measure=>
        have e2:Ko g w2=b':=PsS.at_ HP2.out;have e1:=HPA.out;omega
     |true=>
      have hOC:OC=some (xs,b+1):=by rw[<-HJ.out];simp
      subst hOC;have HR:Hid (((Ae l (b+1) (Az l (b+2))).bind λk=>(ER l (l.length+1) k.2 [] []).map λr=>(stT t xs k.1 r.1.1 r.1.2.1 r.1.2.2,r.2))=R):=HR.out;have hb1n:b+1<=N:=HKL.out rfl;have hgl:g<w16.heap.size:=HP.out.blk.lt;obtain⟨A1,c1,b7,hcs,hcown,hcfit,hcsz⟩:=HKW.out;have hP1:PsS g A c l (b+1) (psC A l.length c (b+1) ((stT t xs [] [] [] ex0).cells (pT ⟨A1,c1⟩ slZ slZ slZ))) w1:=by
       have h1:=HP1.out;rw[hcs,AQ,Ql,Ad]at h1;exact h1
      have hc1:=DD hcown HB1.out hgl;have hb11:b+1<=l.length:=by have:=HN.out;omega
      have hpe1:=HPE.out.but (HCW.out.trans HB1.out);have HKI:=Lib.hid (Qr pv (Az l (b+2)) (KK (psC A l.length c (b+1) ((stT t xs [] [] [] ex0).cells (pT ⟨A1,c1⟩ slZ slZ slZ)))) g A c l (b+1) _ w1 hpe1.n hb11 hP1 KK.stay (λ_ r hr=>(Ey hr).2)
       (λW hW h2 hPW=>WL g pv A c l (b+2) _ W (hpe1.but hW) h2 hPW rfl (HPV.out _ ((HCW.out.trans HB1.out).trans hW)) hpg))
      have HIL:Hid (∀r,Ae l (b+1) (Az l (b+2))=some r->r.2<=N/\b+1<r.2):=λr hr=>by
       unfold Ae at hr;split at hr
       ·cases hz:Az l (b+2)with
        |none=>rw[hz]at hr;cases hr
        |some z=>
         rw[hz]at hr;simp only[Option.bind_some]at hr;split at hr
         ·rename_i h3
          injection hr with hr
          subst hr;have h4:=DZ h3;have h5:=Ey hz;rw[HN.out]at h4;exact⟨h4,by simp only;omega⟩
         ·cases hr
       ·cases hr
      obtain⟨OI,hOI⟩:∃x,Ae l (b+1) (Az l (b+2))=x:=⟨_,rfl⟩;rw[hOI]at HKI HR HIL;have HCO:=Lib.hid hc1;have HCF:=Lib.hid hcfit;have HCW1:=Lib.hid (HCW.out.trans HB1.out);have hcn:xs.length<=990:=by omega
      have hwl:w16.heap.size<=w1.heap.size:=Nat.le_trans hbw.size HB1.out.size;clear hOI hcs hcown hcfit hP1 hc1 hpe1 HKW HP1 HB1 HPW HJ HCW hbw HPA HKL hcsz;go_wp2_with fail;refine HKI.out.mono ?_;intro en w2 hr;cases OI with
      |none=>
       obtain⟨rfl,hb2⟩:=hr;have hR:R=none:=HR.out.symm;subst hR;have HB2:=Lib.hid (HBW.out.trans (HCW1.out.trans hb2));have hx2:w2.cell? ⟨pv,0,none⟩=some (.pointer (some ⟨g,0,none⟩)):=HPV.out _ (HCW1.out.trans hb2);clear hb2 HKI hx1;go_wp2_with fail;refine wp_loop_rounds 1 ?_;rw[rounds_succ];go_wp2_with fail;go_ret;exact⟨rfl,HB2.out⟩
      |some kq=>
       obtain⟨k,bk⟩:=kq;obtain⟨hbk,hbk1⟩:bk<=N/\b+1<bk:=HIL.out _ rfl;have HR:Hid (((ER l (l.length+1) bk [] []).map λr=>(stT t xs k r.1.1 r.1.2.1 r.1.2.2,r.2))=R):=HR.out;obtain⟨rfl,cs2,hP2,⟨⟨b2,hcs2⟩,hkl⟩,hb2⟩:=hr;have hP2':PsS g A c l bk (psC A l.length c bk ((stT t xs k [] [] ex0).cells (pT ⟨A1,c1⟩ slZ slZ slZ))) w2:=by
        have h1:=hP2.self;rw[<-h1,hcs2,AQ,Pz,Ad]at hP2;exact hP2
       obtain⟨OR,hOR⟩:∃x,ER l (l.length+1) bk [] []=x:=⟨_,rfl⟩;have HR:=HR.out;rw[hOR]at HR;have HR:=Lib.hid HR;have HO0:Hid (ER l (N+1) bk [] []=OR):=by rw[<-HN.out];exact hOR
       have HP2:=Lib.hid hP2';have HC2:=Lib.hid (DD HCO.out hb2 hgl);have HCW2:=Lib.hid (HCW1.out.trans hb2);have hg2:g<w2.heap.size:=hP2'.blk.lt;have hw2l:w16.heap.size<=w2.heap.size:=Nat.le_trans hwl hb2.size;have hx2:w2.cell? ⟨pv,0,none⟩=some (.pointer (some ⟨g,0,none⟩)):=HPV.out _ (HCW1.out.trans hb2);clear hOR hP2 hP2' hcs2 hb2 HKI HCO HCW1 hx1;go_wp2_with fail;clear hx2;go_loopw [3] (λok wr=>(ok=.bool false/\Hid (OR=none)/\But g w2 wr)\/(ok=.bool true/\∃(f a2:Nat) (us:List (List UInt8)) (rs:List Rf) (A2:Option Addr) (c2:Nat) (A3:Option Addr) (c3:Nat) (wq:World),N+1<=f+a2/\us.length+rs.length<=a2/\a2<=N/\Hid (ER l f a2 us rs=OR)/\Hid (PsS g A c l a2 (psC A l.length c a2 ((stT t xs k us rs ex0).cells (pT ⟨A1,c1⟩ ⟨A2,c2⟩ ⟨A3,c3⟩ slZ))) wr)/\Hid (wq.ownsRow w2.heap.size 9 1 (.slice A2 us.length c2) us.length (us.map IR))/\Hid (wr.ownsRow wq.heap.size 74 2 (.slice A3 rs.length c3) rs.length (rs.flatMap Rf.cells))/\Hid (rs.length=0->A3=none/\c3=0)/\Hid ((∀x∈us,J9 x)/\∀x∈rs,XW x)/\But g w2 wq/\But g wq wr)) (λok wr=>match ok with | .bool true=>N+1 - Ko g wr|_=>0)
       case atStart=>exact .inr ⟨rfl,N+1,bk,[],[],none,0,none,0,w2,by omega,Nat.zero_le _,hbk,HO0,HP2,Lib.hid (World.ownsRow_nil _ _ _ _),Lib.hid (World.ownsRow_nil _ _ _ _),Lib.hid (λ_=>⟨rfl,rfl⟩),Lib.hid ⟨(λx hx=>by cases hx),(λx hx=>by cases hx)⟩,But.refl _ _,But.refl _ _⟩
       case round=>
        rcases hrel with⟨rfl,HON,hbw⟩|⟨rfl,f,a2,us,rs,A2,c2,A3,c3,wq,hf,hxb,hbn,HJ,HPW,HU,HRO0,HRN,HOK,hq2,hbw⟩
        ·have hOR:OR=none:=HON.out;have hR:R=none:=by rw[<-HR.out,hOR];rfl
         subst hR;have HBN:=Lib.hid (HBW.out.trans (HCW2.out.trans hbw));clear hOR hbw;go_wp2_with fail;go_ret;exact⟨rfl,HBN.out⟩
        obtain⟨W,rfl⟩:∃W,W=wr:=⟨_,rfl⟩;obtain⟨f,rfl⟩:∃k,f=k+1:=⟨f - 1,by omega⟩;have hJ:=HJ.out;unfold ER at hJ;have HT:=Lib.hid (Ac g A c l a2 _ [44] W (by omega) HPW.out);rw[Ad]at HT;have HKL:Hid (hit l a2 [44]=true->a2+1<=N):=λh=>by have:=DZ h;rw[HN.out]at this;omega
        obtain⟨BC,hBC⟩:∃B,hit l a2 [44]=B:=⟨_,rfl⟩;rw[hBC]at HT hJ HKL;have HJ:=Lib.hid hJ;have hxW:W.cell? ⟨pv,0,none⟩=some (.pointer (some ⟨g,0,none⟩)):=HPV.out _ (HCW2.out.trans (hq2.trans hbw));have hgq:g<wq.heap.size:=Nat.lt_of_lt_of_le hg2 hq2.size;have HPA:=Lib.hid (PsS.at_ HPW.out);clear hJ hBC;go_wp2_with fail;refine HT.out.mono ?_;clear hxW;rintro en w4 ⟨rfl,hP4,hb4⟩;have HB4:=Lib.hid (hbw.trans hb4);have HRO:=Lib.hid (DD HRO0.out hb4 hgq);have hx4:w4.cell? ⟨pv,0,none⟩=some (.pointer (some ⟨g,0,none⟩)):=HPV.out _ (HCW2.out.trans (hq2.trans HB4.out));clear hbw hb4 HT HRO0 HPW;cases BC with
        |false=>
         have HJ:Hid ((if hit l a2 [41]then some ((us,rs,ex0),a2+1)else none)=OR):=HJ.out;have hP4':PsS g A c l a2 (psC A l.length c a2 ((stT t xs k us rs ex0).cells (pT ⟨A1,c1⟩ ⟨A2,c2⟩ ⟨A3,c3⟩ slZ))) w4:=hP4;have HT2:=Lib.hid (Ac g A c l a2 _ [41] w4 (by omega) hP4');rw[Ad]at HT2;obtain⟨BZ,hBZ⟩:∃B,hit l a2 [41]=B:=⟨_,rfl⟩;rw[hBZ]at HT2 HJ;clear hBZ hP4 hP4';go_wp2_with fail;refine HT2.out.mono ?_;clear hx4;rintro en w8 ⟨rfl,hP8,hb8⟩;have HP8:=Lib.hid hP8;have HB8:=Lib.hid hb8;clear hP8 hb8 HT2;cases BZ with
         |false=>
          have HJN:Hid (OR=none):=HJ.out.symm;have hOR:OR=none:=HJN.out;have hR:R=none:=by rw[<-HR.out,hOR];rfl
          subst hR;have HBN:=Lib.hid (HBW.out.trans (HCW2.out.trans (hq2.trans (HB4.out.trans HB8.out))));clear hOR;go_wp2_with fail;go_ret;exact⟨rfl,HBN.out⟩
         |true=>
          have HJS:Hid (some ((us,rs,ex0),a2+1)=OR):=HJ.out;have hrf:=DD HRO.out HB8.out hgq;have hR:R=some (stT t xs k us rs ex0,a2+1):=by rw[<-HR.out,<-HJS.out];rfl
          subst hR;have hbF:But g wq w8:=HB4.out.trans HB8.out;have hbF2:=hq2.trans hbF;have HBN:=Lib.hid (HBW.out.trans (HCW2.out.trans hbF2));have hgq:g<wq.heap.size:=Nat.lt_of_lt_of_le hg2 hq2.size;have hcf:=DD HC2.out hbF2 (Nat.lt_of_lt_of_le hgl (Nat.le_refl _));have huf:=DD HU.out hbF hg2;have h0:w.heap.size<=w16.heap.size:=Nat.le_trans HBW.out.size HC16.out.size;have h1:w16.heap.size<=w2.heap.size:=hw2l;have h3:w2.heap.size<=wq.heap.size:=hq2.size;have HPF:=Lib.hid (HP8.out);have HEF:Hid (ExR (λb=>w.heap.size<=b/\b<(w8).heap.size) ex0 (slZ).a (slZ).c w8):=Lib.hid (Rz (λb=>w.heap.size<=b/\b<w8.heap.size) w8);have HRF:=Lib.hid hrf;have HCFN:=Lib.hid hcf;have HUF:=Lib.hid huf;have hlu:us.length<=1000:=by omega
          have hlr:rs.length<=1000:=by omega
          have hlx:xs.length<=1000:=by omega
          clear hcf huf hrf hbF hbF2;go_wp2_with fail;go_ret;exact⟨pT ⟨A1,c1⟩ ⟨A2,c2⟩ ⟨A3,c3⟩ slZ,rfl,HPF.out,Po (C:=⟨A1,c1⟩) (U:=⟨A2,c2⟩) (R:=⟨A3,c3⟩) (E:=slZ) HCFN.out HUF.out HRF.out (λb h h'=>⟨Nat.le_trans h0 h,h'⟩) (λb h h'=>⟨Nat.le_trans h0 (Nat.le_trans h1 h),h'⟩) (λb h h'=>⟨Nat.le_trans h0 (Nat.le_trans h1 (Nat.le_trans h3 h)),h'⟩) HEF.out,TQ hct hkl HCF.out hlx HOK.out.1 hlu HOK.out.2 hlr HEF.out,HBN.out⟩
        |true=>
         have h1n:a2+1<=N:=HKL.out rfl;have HJA:Hid ((if rs.length=0/\hit l (a2+1) [85,78,73,81,85,69]then(Ae l (a2+2) (Az l (a2+3))).bind λr=>ER l f r.2 (us++[r.1]) rs else if hit l (a2+1) [82,69,70,69,82,69,78,67,69,83]then(Je l (a2+2)).bind λr=>ER l f r.2 us (rs++[r.1])else if hit l (a2+1) [67,72,69,67,75]then(Aw l (a2+1)).bind λq=>if hit l q.2 [41]then some ((us,rs,q.1),q.2+1)else none else none)=OR):=HJ.out;clear HJ;have HP4:Hid (PsS g A c l (a2+1) (psC A l.length c (a2+1) ((stT t xs k us rs ex0).cells (pT ⟨A1,c1⟩ ⟨A2,c2⟩ ⟨A3,c3⟩ slZ))) w4):=hP4;have x9:w4.cell? ⟨g,9,none⟩=some (.slice A3 rs.length c3):=HP4.out.blk.cell 9;clear hP4;by_cases hr0:rs.length=0
         ·have HTU:=Lib.hid (Ac g A c l (a2+1) _ [85,78,73,81,85,69] w4 (by omega) HP4.out);rw[Ad]at HTU;have HUL:Hid (hit l (a2+1) [85,78,73,81,85,69]=true->a2+2<=N):=λh=>by have:=DZ h;rw[HN.out]at this;omega
          obtain⟨BU,hBU⟩:∃B,hit l (a2+1) [85,78,73,81,85,69]=B:=⟨_,rfl⟩;have HJU:Hid (BU=true->((Ae l (a2+2) (Az l (a2+3))).bind λr=>ER l f r.2 (us++[r.1]) rs)=OR):=λh=>by
           have h1:=HJA.out;rw[if_pos ⟨hr0,hBU.trans h⟩]at h1;exact h1
          have HJF:Hid (BU=false->(if hit l (a2+1) [82,69,70,69,82,69,78,67,69,83]then(Je l (a2+2)).bind λr=>ER l f r.2 us (rs++[r.1])else if hit l (a2+1) [67,72,69,67,75]then(Aw l (a2+1)).bind λq=>if hit l q.2 [41]then some ((us,rs,q.1),q.2+1)else none else none)=OR):=λh=>by
           have h1:=HJA.out;rw[if_neg (λh2=>by rw[hBU,h]at h2;cases h2.2)]at h1;exact h1
          rw[hBU]at HTU HUL;have x9':w4.cell? ⟨g,9,none⟩=some (.slice A3 0 c3):=by rw[x9,hr0]
          have HR0:=Lib.hid hr0;clear hBU HJA x9 hr0;go_wp2_with fail;refine HTU.out.mono ?_;clear x9' hx4;rintro en w5 ⟨rfl,hP5,hb5⟩;have HB5:=Lib.hid (HB4.out.trans hb5);have hx5:w5.cell? ⟨pv,0,none⟩=some (.pointer (some ⟨g,0,none⟩)):=HPV.out _ (HCW2.out.trans (hq2.trans HB5.out));cases BU with
          |true=>
           obtain⟨rfl,rfl⟩:=HRN.out HR0.out;obtain rfl:rs=[]:=List.eq_nil_of_length_eq_zero HR0.out;have HJ:Hid (((Ae l (a2+2) (Az l (a2+3))).bind λr=>ER l f r.2 (us++[r.1]) [])=OR):=by first|exact HJU.out rfl|exact HJU.out trivial
           have h2n:a2+2<=N:=HUL.out rfl;have h2l:a2+2<=l.length:=by have:=HN.out;omega
           have hP5':PsS g A c l (a2+2) (psC A l.length c (a2+2) ((stT t xs k us [] ex0).cells (pT ⟨A1,c1⟩ ⟨A2,c2⟩ ⟨none,0⟩ slZ))) w5:=hP5;have HRC:=Lib.hid (Qj g A c l (a2+2) (psC A l.length c a2 ((stT t xs k [] [] ex0).cells (pT ⟨A1,c1⟩ slZ ⟨none,0⟩ slZ))) _ us w2 w5 (HPE.out.but (HCW2.out.trans (hq2.trans HB5.out))) h2l hP5' hg2 (hq2.trans HB5.out) (by simp at hxb;omega) (by show 8<25;decide) ⟨A2,c2,a2+2,by rw[Qk,Ad];rfl,DD HU.out HB5.out hg2,HOK.out.1,(hq2.trans HB5.out).size⟩);have HIL:Hid (∀r,Ae l (a2+2) (Az l (a2+3))=some r->r.2<=N/\a2+2<r.2):=λr hr=>by
            unfold Ae at hr;split at hr
            ·cases hz:Az l (a2+3)with
             |none=>rw[hz]at hr;cases hr
             |some z=>
              rw[hz]at hr;simp only[Option.bind_some]at hr;split at hr
              ·rename_i h3
               injection hr with hr
               subst hr;have h4:=DZ h3;have h5:=Ey hz;rw[HN.out]at h4;exact⟨h4,by simp only;omega⟩
              ·cases hr
            ·cases hr
           obtain⟨o,ho⟩:∃o,Ae l (a2+2) (Az l (a2+3))=o:=⟨_,rfl⟩;rw[ho]at HRC HJ HIL;clear ho hP5 hP5' hb5 HTU;go_wp2_with fail;refine HRC.out.mono ?_;clear hx5;cases o with
           |none=>
            have hOR:OR=none:=HJ.out.symm;rintro en w6 ⟨rfl,hb6⟩;have HB6:=Lib.hid hb6;have HON:=Lib.hid hOR;clear hb6 HRC hOR;go_wp2_with fail;go_roundw
            case rel=>exact .inl ⟨rfl,HON,HB6.out⟩
            case measure=>have e1:=HPA.out;simp only;omega
           |some r=>
            obtain⟨x,b'⟩:=r;obtain⟨hle,hlt⟩:b'<=N/\a2+2<b':=HIL.out _ rfl;rintro en w6 ⟨rfl,cs6,hP6,⟨A4,c4,b4,hcs6,hown6,hok6,hsz6⟩,hb6⟩;have hP6':PsS g A c l b' (psC A l.length c b' ((stT t xs k (us++[x]) [] ex0).cells (pT ⟨A1,c1⟩ ⟨A4,c4⟩ ⟨none,0⟩ slZ))) w6:=by
             have h1:=hP6.self;rw[<-h1,hcs6,AQ,Qk,Ad]at hP6;exact hP6
            have HP6:=Lib.hid hP6';have HO6:=Lib.hid hown6;have HK6:=Lib.hid hok6;have HB6:=Lib.hid hb6;have HF:Hid (ER l f b' (us++[x]) []=OR):=HJ.out;clear hP6 hP6' hcs6 hown6 hok6 hsz6 hb6 HRC;go_wp2_with fail;go_roundw
            case rel=>exact .inr ⟨rfl,f,b',us++[x],[],A4,c4,none,0,w6,by omega,by simp at hxb ⊢;omega,hle,HF,HP6,HO6,Lib.hid (World.ownsRow_nil _ _ _ _),Lib.hid (λ_=>⟨rfl,rfl⟩),Lib.hid ⟨HK6.out,(λx hx=>by cases hx)⟩,HB6.out,But.refl _ _⟩
            case measure=>
             have e2:Ko g w6=b':=PsS.at_ HP6.out;have e1:=HPA.out;simp only;omega
          |false=>
           have HJT:Hid ((if hit l (a2+1) [82,69,70,69,82,69,78,67,69,83]then(Je l (a2+2)).bind λr=>ER l f r.2 us (rs++[r.1])else if hit l (a2+1) [67,72,69,67,75]then(Aw l (a2+1)).bind λq=>if hit l q.2 [41]then some ((us,rs,q.1),q.2+1)else none else none)=OR):=by first|exact HJF.out rfl|exact HJF.out trivial
           have HP4:Hid (PsS g A c l (a2+1) (psC A l.length c (a2+1) ((stT t xs k us rs ex0).cells (pT ⟨A1,c1⟩ ⟨A2,c2⟩ ⟨A3,c3⟩ slZ))) w5):=hP5;have HRO:=Lib.hid (DD HRO.out hb5 (Nat.lt_of_lt_of_le hgq (Nat.le_refl _)));have HB4:=HB5;clear hP5 hb5 HTU HB5 hx5 HJU HJF HUL;have HTR:=Lib.hid (Ac g A c l (a2+1) _ [82,69,70,69,82,69,78,67,69,83] w5 (by omega) HP4.out);rw[Ad]at HTR;have HRL:Hid (hit l (a2+1) [82,69,70,69,82,69,78,67,69,83]=true->a2+2<=N):=λh=>by have:=DZ h;rw[HN.out]at this;omega
           obtain⟨BR,hBR⟩:∃B,hit l (a2+1) [82,69,70,69,82,69,78,67,69,83]=B:=⟨_,rfl⟩;rw[hBR]at HTR HRL;have HJ:=HJT.out;rw[hBR]at HJ;have HJR:=Lib.hid HJ;have hx4:w5.cell? ⟨pv,0,none⟩=some (.pointer (some ⟨g,0,none⟩)):=HPV.out _ (HCW2.out.trans ((hq2.trans HB4.out)));clear hBR HJ HJT;go_wp2_with fail;refine HTR.out.mono ?_;clear hx4;rintro en w5 ⟨rfl,hP5,hb5⟩;have HB5:=Lib.hid (HB4.out.trans hb5);have HP5:=Lib.hid hP5;have hrf5:=DD HRO.out hb5 hgq;have hx5:w5.cell? ⟨pv,0,none⟩=some (.pointer (some ⟨g,0,none⟩)):=HPV.out _ (HCW2.out.trans ((hq2.trans HB5.out)));clear hP5 hb5 HTR;cases BR with
           |true=>
            have HJ:Hid (((Je l (a2+2)).bind λr=>ER l f r.2 us (rs++[r.1]))=OR):=HJR.out;have h2n:a2+2<=N:=HRL.out rfl;have h2l:a2+2<=l.length:=by have:=HN.out;omega
            have HP5':PsS g A c l (a2+2) (psC A l.length c (a2+2) ((stT t xs k us rs ex0).cells (pT ⟨A1,c1⟩ ⟨A2,c2⟩ ⟨A3,c3⟩ slZ))) w5:=HP5.out;have HRC:=Lib.hid (Ll g A c l (a2+2) (psC A l.length c a2 ((stT t xs k us [] ex0).cells (pT ⟨A1,c1⟩ ⟨A2,c2⟩ slZ slZ))) _ rs wq w5 (HPE.out.but (HCW2.out.trans ((hq2.trans HB5.out)))) h2l HP5' hgq HB5.out (by omega) (by show 9<25;decide) ⟨A3,c3,a2+2,by rw[KE,Ad];rfl,hrf5,HOK.out.2,HB5.out.size⟩);have HRP:Hid (∀r,Je l (a2+2)=some r->a2+2<r.2/\r.2<=N):=λr hr=>by have:=Un hr;rw[HN.out]at this;exact this
            obtain⟨o,ho⟩:∃o,Je l (a2+2)=o:=⟨_,rfl⟩;rw[ho]at HRC HJ HRP;clear ho HP5 HP5' hrf5;go_wp2_with fail;refine HRC.out.mono ?_;clear hx5;cases o with
            |none=>
             have hOR:OR=none:=HJ.out.symm;rintro en w6 ⟨rfl,hb6⟩;have HB6:=Lib.hid (hq2.trans hb6);have HON:=Lib.hid hOR;clear hb6 HRC hOR;go_wp2_with fail;go_roundw
             case rel=>exact .inl ⟨rfl,HON,HB6.out⟩
             case measure=>have e1:=HPA.out;simp only;omega
            |some r=>
             obtain⟨x,b'⟩:=r;obtain⟨hlt,hle⟩:a2+2<b'/\b'<=N:=HRP.out _ rfl;rintro en w6 ⟨rfl,cs6,hP6,⟨A4,c4,b4,hcs6,hown6,hok6,hsz6⟩,hb6⟩;have hP6':PsS g A c l b' (psC A l.length c b' ((stT t xs k us (rs++[x]) ex0).cells (pT ⟨A1,c1⟩ ⟨A2,c2⟩ ⟨A4,c4⟩ slZ))) w6:=by
              have h1:=hP6.self;rw[<-h1,hcs6,AQ,KE,Ad]at hP6;exact hP6
             have HP6:=Lib.hid hP6';have HO6:=Lib.hid hown6;have HK6:=Lib.hid hok6;have HB6:=Lib.hid hb6;have HF:Hid (ER l f b' us (rs++[x])=OR):=HJ.out;clear hP6 hP6' hcs6 hown6 hok6 hsz6 hb6 HRC;go_wp2_with fail;go_roundw
             case rel=>exact .inr ⟨rfl,f,b',us,rs++[x],A2,c2,A4,c4,wq,by omega,by simp;omega,hle,HF,HP6,HU,HO6,Lib.hid (λh=>by simp at h),Lib.hid ⟨HOK.out.1,HK6.out⟩,hq2,HB6.out⟩
             case measure=>
              have e2:Ko g w6=b':=PsS.at_ HP6.out;have e1:=HPA.out;simp only;omega
           |false=>
            have HJ:Hid ((if hit l (a2+1) [67,72,69,67,75]then(Aw l (a2+1)).bind λq=>if hit l q.2 [41]then some ((us,rs,q.1),q.2+1)else none else none)=OR):=HJR.out;have HP5':PsS g A c l (a2+1) (psC A l.length c (a2+1) ((stT t xs k us rs ex0).cells (pT ⟨A1,c1⟩ ⟨A2,c2⟩ ⟨A3,c3⟩ slZ))) w5:=HP5.out;have HIS:=Lib.hid (MK g A c l (a2+1) _ [67,72,69,67,75] w5 HP5');obtain⟨BH,hBH⟩:∃B,hit l (a2+1) [67,72,69,67,75]=B:=⟨_,rfl⟩;rw[hBH]at HIS HJ;have HP5:=Lib.hid HP5';clear hBH HP5';go_wp2_with fail;refine HIS.out.mono ?_;clear hx5;rintro en w6 ⟨rfl,hb6⟩;have hP6:=HP5.out.below hb6;have HB6:=Lib.hid (HB5.out.trans (But.of_below hb6));have hrf6:=CJ hrf5 hb6;have hx6:w6.cell? ⟨pv,0,none⟩=some (.pointer (some ⟨g,0,none⟩)):=HPV.out _ (HCW2.out.trans ((hq2.trans HB6.out)));clear hb6 HIS hrf5;cases BH with
            |false=>
             have HJN:Hid (OR=none):=HJ.out.symm;clear hP6 hrf6;have hOR:OR=none:=HJN.out;have hR:R=none:=by rw[<-HR.out,hOR];rfl
             subst hR;have HBN:=Lib.hid (HBW.out.trans (HCW2.out.trans (hq2.trans HB6.out)));clear hOR;go_wp2_with fail;go_ret;exact⟨rfl,HBN.out⟩
            |true=>
             have HJ:Hid (((Aw l (a2+1)).bind λq=>if hit l q.2 [41]then some ((us,rs,q.1),q.2+1)else none)=OR):=HJ.out;have h1l:a2+1<=l.length:=by have:=HN.out;omega
             have HCK:=Lib.hid (Gn g A c l (a2+1) _ w6 (HPE.out.but (HCW2.out.trans ((hq2.trans HB6.out)))) h1l hP6 (by show 16<=25;decide) (by rw[Fb];rfl));have HCL:Hid (∀q,Aw l (a2+1)=some q->q.2<=l.length):=λq hq=>OM h1l hq
             obtain⟨OK,hOK⟩:∃x,Aw l (a2+1)=x:=⟨_,rfl⟩;rw[hOK]at HCK HJ HCL;clear hOK hP6;go_wp2_with fail;refine HCK.out.mono ?_;clear hx6;intro en w7 hr;cases OK with
             |none=>
              obtain⟨rfl,hb7⟩:=hr;have HJN:Hid (OR=none):=HJ.out.symm;have HB7:=Lib.hid (HB6.out.trans hb7);clear hb7 HCK hrf6;have hOR:OR=none:=HJN.out;have hR:R=none:=by rw[<-HR.out,hOR];rfl
              subst hR;have HBN:=Lib.hid (HBW.out.trans (HCW2.out.trans (hq2.trans HB7.out)));clear hOR;go_wp2_with fail;go_ret;exact⟨rfl,HBN.out⟩
             |some q=>
              obtain⟨e,b3⟩:=q;obtain⟨A9,c9,rfl,hP7,hE7,hb7⟩:=hr;rw[Fb,Ad]at hP7;have hb3:b3<=l.length:=HCL.out _ rfl;have hb3n:b3<=990:=by have:=HN.out;omega
              have HT7:=Lib.hid (Ac g A c l b3 _ [41] w7 (by omega) hP7);rw[Ad]at HT7;have HJ:Hid ((if hit l b3 [41]then some ((us,rs,e),b3+1)else none)=OR):=HJ.out;obtain⟨BZ,hBZ⟩:∃B,hit l b3 [41]=B:=⟨_,rfl⟩;rw[hBZ]at HT7 HJ;have HB7:=Lib.hid (HB6.out.trans hb7);have hx7:w7.cell? ⟨pv,0,none⟩=some (.pointer (some ⟨g,0,none⟩)):=HPV.out _ (HCW2.out.trans ((hq2.trans HB7.out)));have hrf7:=DD hrf6 hb7 hgq;have HE7:=Lib.hid hE7;have hg6:g<w6.heap.size:=Nat.lt_of_lt_of_le hgq HB6.out.size;have hw6:w.heap.size<=w6.heap.size:=Nat.le_trans (Nat.le_trans HBW.out.size HC16.out.size) (Nat.le_trans hw2l (Nat.le_trans hq2.size HB6.out.size));clear hBZ hb7 HCK hP7 hE7 hrf6;go_wp2_with fail;refine HT7.out.mono ?_;clear hx7;rintro en w8 ⟨rfl,hP8,hb8⟩;have HP8:=Lib.hid hP8;have HB8:=Lib.hid hb8;clear hP8 hb8 HT7;cases BZ with
              |false=>
               have HJN:Hid (OR=none):=HJ.out.symm;have hOR:OR=none:=HJN.out;have hR:R=none:=by rw[<-HR.out,hOR];rfl
               subst hR;have HBN:=Lib.hid (HBW.out.trans (HCW2.out.trans (hq2.trans (HB7.out.trans HB8.out))));clear hOR;go_wp2_with fail;go_ret;exact⟨rfl,HBN.out⟩
              |true=>
               have HJS:Hid (some ((us,rs,e),b3+1)=OR):=HJ.out;have hrf:=DD hrf7 HB8.out hgq;clear hrf7;have hR:R=some (stT t xs k us rs e,b3+1):=by rw[<-HR.out,<-HJS.out];rfl
               subst hR;have hbF:But g wq w8:=HB7.out.trans HB8.out;have hbF2:=hq2.trans hbF;have HBN:=Lib.hid (HBW.out.trans (HCW2.out.trans hbF2));have hgq:g<wq.heap.size:=Nat.lt_of_lt_of_le hg2 hq2.size;have hcf:=DD HC2.out hbF2 (Nat.lt_of_lt_of_le hgl (Nat.le_refl _));have huf:=DD HU.out hbF hg2;have h0:w.heap.size<=w16.heap.size:=Nat.le_trans HBW.out.size HC16.out.size;have h1:w16.heap.size<=w2.heap.size:=hw2l;have h3:w2.heap.size<=wq.heap.size:=hq2.size;have HPF:=Lib.hid (HP8.out);have HEF:Hid (ExR (λb=>w.heap.size<=b/\b<(w8).heap.size) e ((⟨A9,c9⟩:Sl)).a ((⟨A9,c9⟩:Sl)).c w8):=Lib.hid (HE7.out.keep (Q':=λb=>w.heap.size<=b/\b<w8.heap.size) (w':=w8) λk hk=>⟨⟨Nat.le_trans hw6 hk.1,Nat.lt_of_lt_of_le hk.2 HB8.out.size⟩,λo=>HB8.out.cell hk.2 (Nat.ne_of_gt (Nat.lt_of_lt_of_le hg6 hk.1)) o⟩);have HRF:=Lib.hid hrf;have HCFN:=Lib.hid hcf;have HUF:=Lib.hid huf;have hlu:us.length<=1000:=by omega
               have hlr:rs.length<=1000:=by omega
               have hlx:xs.length<=1000:=by omega
               clear hcf huf hrf hbF hbF2;go_wp2_with fail;go_ret;exact⟨pT ⟨A1,c1⟩ ⟨A2,c2⟩ ⟨A3,c3⟩ (⟨A9,c9⟩:Sl),rfl,HPF.out,Po (C:=⟨A1,c1⟩) (U:=⟨A2,c2⟩) (R:=⟨A3,c3⟩) (E:=(⟨A9,c9⟩:Sl)) HCFN.out HUF.out HRF.out (λb h h'=>⟨Nat.le_trans h0 h,h'⟩) (λb h h'=>⟨Nat.le_trans h0 (Nat.le_trans h1 h),h'⟩) (λb h h'=>⟨Nat.le_trans h0 (Nat.le_trans h1 (Nat.le_trans h3 h)),h'⟩) HEF.out,TQ hct hkl HCF.out hlx HOK.out.1 hlu HOK.out.2 hlr HEF.out,HBN.out⟩
         ·have HJT:Hid ((if hit l (a2+1) [82,69,70,69,82,69,78,67,69,83]then(Je l (a2+2)).bind λr=>ER l f r.2 us (rs++[r.1])else if hit l (a2+1) [67,72,69,67,75]then(Aw l (a2+1)).bind λq=>if hit l q.2 [41]then some ((us,rs,q.1),q.2+1)else none else none)=OR):=by
           have h:=HJA.out;rw[if_neg (λh=>hr0 h.1)]at h;exact h
          have e0:¬(rs.length:Int)=0:=by omega
          have e1:((rs.length:Int)==0)=false:=by rw[beq_eq_false_iff_ne];exact e0
          clear HJA hr0 hx4;have HTR:=Lib.hid (Ac g A c l (a2+1) _ [82,69,70,69,82,69,78,67,69,83] w4 (by omega) HP4.out);rw[Ad]at HTR;have HRL:Hid (hit l (a2+1) [82,69,70,69,82,69,78,67,69,83]=true->a2+2<=N):=λh=>by have:=DZ h;rw[HN.out]at this;omega
          obtain⟨BR,hBR⟩:∃B,hit l (a2+1) [82,69,70,69,82,69,78,67,69,83]=B:=⟨_,rfl⟩;rw[hBR]at HTR HRL;have HJ:=HJT.out;rw[hBR]at HJ;have HJR:=Lib.hid HJ;have hx4:w4.cell? ⟨pv,0,none⟩=some (.pointer (some ⟨g,0,none⟩)):=HPV.out _ (HCW2.out.trans ((hq2.trans HB4.out)));clear hBR HJ HJT;go_wp2_with fail;refine HTR.out.mono ?_;clear hx4;rintro en w5 ⟨rfl,hP5,hb5⟩;have HB5:=Lib.hid (HB4.out.trans hb5);have HP5:=Lib.hid hP5;have hrf5:=DD HRO.out hb5 hgq;have hx5:w5.cell? ⟨pv,0,none⟩=some (.pointer (some ⟨g,0,none⟩)):=HPV.out _ (HCW2.out.trans ((hq2.trans HB5.out)));clear hP5 hb5 HTR;cases BR with
          |true=>
           have HJ:Hid (((Je l (a2+2)).bind λr=>ER l f r.2 us (rs++[r.1]))=OR):=HJR.out;have h2n:a2+2<=N:=HRL.out rfl;have h2l:a2+2<=l.length:=by have:=HN.out;omega
           have HP5':PsS g A c l (a2+2) (psC A l.length c (a2+2) ((stT t xs k us rs ex0).cells (pT ⟨A1,c1⟩ ⟨A2,c2⟩ ⟨A3,c3⟩ slZ))) w5:=HP5.out;have HRC:=Lib.hid (Ll g A c l (a2+2) (psC A l.length c a2 ((stT t xs k us [] ex0).cells (pT ⟨A1,c1⟩ ⟨A2,c2⟩ slZ slZ))) _ rs wq w5 (HPE.out.but (HCW2.out.trans ((hq2.trans HB5.out)))) h2l HP5' hgq HB5.out (by omega) (by show 9<25;decide) ⟨A3,c3,a2+2,by rw[KE,Ad];rfl,hrf5,HOK.out.2,HB5.out.size⟩);have HRP:Hid (∀r,Je l (a2+2)=some r->a2+2<r.2/\r.2<=N):=λr hr=>by have:=Un hr;rw[HN.out]at this;exact this
           obtain⟨o,ho⟩:∃o,Je l (a2+2)=o:=⟨_,rfl⟩;rw[ho]at HRC HJ HRP;clear ho HP5 HP5' hrf5;go_wp2_with fail;refine HRC.out.mono ?_;clear hx5;cases o with
           |none=>
            have hOR:OR=none:=HJ.out.symm;rintro en w6 ⟨rfl,hb6⟩;have HB6:=Lib.hid (hq2.trans hb6);have HON:=Lib.hid hOR;clear hb6 HRC hOR;go_wp2_with fail;go_roundw
            case rel=>exact .inl ⟨rfl,HON,HB6.out⟩
            case measure=>have e1:=HPA.out;simp only;omega
           |some r=>
            obtain⟨x,b'⟩:=r;obtain⟨hlt,hle⟩:a2+2<b'/\b'<=N:=HRP.out _ rfl;rintro en w6 ⟨rfl,cs6,hP6,⟨A4,c4,b4,hcs6,hown6,hok6,hsz6⟩,hb6⟩;have hP6':PsS g A c l b' (psC A l.length c b' ((stT t xs k us (rs++[x]) ex0).cells (pT ⟨A1,c1⟩ ⟨A2,c2⟩ ⟨A4,c4⟩ slZ))) w6:=by
             have h1:=hP6.self;rw[<-h1,hcs6,AQ,KE,Ad]at hP6;exact hP6
            have HP6:=Lib.hid hP6';have HO6:=Lib.hid hown6;have HK6:=Lib.hid hok6;have HB6:=Lib.hid hb6;have HF:Hid (ER l f b' us (rs++[x])=OR):=HJ.out;clear hP6 hP6' hcs6 hown6 hok6 hsz6 hb6 HRC;go_wp2_with fail;go_roundw
            case rel=>exact .inr ⟨rfl,f,b',us,rs++[x],A2,c2,A4,c4,wq,by omega,by simp;omega,hle,HF,HP6,HU,HO6,Lib.hid (λh=>by simp at h),Lib.hid ⟨HOK.out.1,HK6.out⟩,hq2,HB6.out⟩
            case measure=>
             have e2:Ko g w6=b':=PsS.at_ HP6.out;have e1:=HPA.out;simp only;omega
          |false=>
           have HJ:Hid ((if hit l (a2+1) [67,72,69,67,75]then(Aw l (a2+1)).bind λq=>if hit l q.2 [41]then some ((us,rs,q.1),q.2+1)else none else none)=OR):=HJR.out;have HP5':PsS g A c l (a2+1) (psC A l.length c (a2+1) ((stT t xs k us rs ex0).cells (pT ⟨A1,c1⟩ ⟨A2,c2⟩ ⟨A3,c3⟩ slZ))) w5:=HP5.out;have HIS:=Lib.hid (MK g A c l (a2+1) _ [67,72,69,67,75] w5 HP5');obtain⟨BH,hBH⟩:∃B,hit l (a2+1) [67,72,69,67,75]=B:=⟨_,rfl⟩;rw[hBH]at HIS HJ;have HP5:=Lib.hid HP5';clear hBH HP5';go_wp2_with fail;refine HIS.out.mono ?_;clear hx5;rintro en w6 ⟨rfl,hb6⟩;have hP6:=HP5.out.below hb6;have HB6:=Lib.hid (HB5.out.trans (But.of_below hb6));have hrf6:=CJ hrf5 hb6;have hx6:w6.cell? ⟨pv,0,none⟩=some (.pointer (some ⟨g,0,none⟩)):=HPV.out _ (HCW2.out.trans ((hq2.trans HB6.out)));clear hb6 HIS hrf5;cases BH with
           |false=>
            have HJN:Hid (OR=none):=HJ.out.symm;clear hP6 hrf6;have hOR:OR=none:=HJN.out;have hR:R=none:=by rw[<-HR.out,hOR];rfl
            subst hR;have HBN:=Lib.hid (HBW.out.trans (HCW2.out.trans (hq2.trans HB6.out)));clear hOR;go_wp2_with fail;go_ret;exact⟨rfl,HBN.out⟩
           |true=>
            have HJ:Hid (((Aw l (a2+1)).bind λq=>if hit l q.2 [41]then some ((us,rs,q.1),q.2+1)else none)=OR):=HJ.out;have h1l:a2+1<=l.length:=by have:=HN.out;omega
            have HCK:=Lib.hid (Gn g A c l (a2+1) _ w6 (HPE.out.but (HCW2.out.trans ((hq2.trans HB6.out)))) h1l hP6 (by show 16<=25;decide) (by rw[Fb];rfl));have HCL:Hid (∀q,Aw l (a2+1)=some q->q.2<=l.length):=λq hq=>OM h1l hq
            obtain⟨OK,hOK⟩:∃x,Aw l (a2+1)=x:=⟨_,rfl⟩;rw[hOK]at HCK HJ HCL;clear hOK hP6;go_wp2_with fail;refine HCK.out.mono ?_;clear hx6;intro en w7 hr;cases OK with
            |none=>
             obtain⟨rfl,hb7⟩:=hr;have HJN:Hid (OR=none):=HJ.out.symm;have HB7:=Lib.hid (HB6.out.trans hb7);clear hb7 HCK hrf6;have hOR:OR=none:=HJN.out;have hR:R=none:=by rw[<-HR.out,hOR];rfl
             subst hR;have HBN:=Lib.hid (HBW.out.trans (HCW2.out.trans (hq2.trans HB7.out)));clear hOR;go_wp2_with fail;go_ret;exact⟨rfl,HBN.out⟩
            |some q=>
             obtain⟨e,b3⟩:=q;obtain⟨A9,c9,rfl,hP7,hE7,hb7⟩:=hr;rw[Fb,Ad]at hP7;have hb3:b3<=l.length:=HCL.out _ rfl;have hb3n:b3<=990:=by have:=HN.out;omega
             have HT7:=Lib.hid (Ac g A c l b3 _ [41] w7 (by omega) hP7);rw[Ad]at HT7;have HJ:Hid ((if hit l b3 [41]then some ((us,rs,e),b3+1)else none)=OR):=HJ.out;obtain⟨BZ,hBZ⟩:∃B,hit l b3 [41]=B:=⟨_,rfl⟩;rw[hBZ]at HT7 HJ;have HB7:=Lib.hid (HB6.out.trans hb7);have hx7:w7.cell? ⟨pv,0,none⟩=some (.pointer (some ⟨g,0,none⟩)):=HPV.out _ (HCW2.out.trans ((hq2.trans HB7.out)));have hrf7:=DD hrf6 hb7 hgq;have HE7:=Lib.hid hE7;have hg6:g<w6.heap.size:=Nat.lt_of_lt_of_le hgq HB6.out.size;have hw6:w.heap.size<=w6.heap.size:=Nat.le_trans (Nat.le_trans HBW.out.size HC16.out.size) (Nat.le_trans hw2l (Nat.le_trans hq2.size HB6.out.size));clear hBZ hb7 HCK hP7 hE7 hrf6;go_wp2_with fail;refine HT7.out.mono ?_;clear hx7;rintro en w8 ⟨rfl,hP8,hb8⟩;have HP8:=Lib.hid hP8;have HB8:=Lib.hid hb8;clear hP8 hb8 HT7;cases BZ with
             |false=>
              have HJN:Hid (OR=none):=HJ.out.symm;have hOR:OR=none:=HJN.out;have hR:R=none:=by rw[<-HR.out,hOR];rfl
              subst hR;have HBN:=Lib.hid (HBW.out.trans (HCW2.out.trans (hq2.trans (HB7.out.trans HB8.out))));clear hOR;go_wp2_with fail;go_ret;exact⟨rfl,HBN.out⟩
             |true=>
              have HJS:Hid (some ((us,rs,e),b3+1)=OR):=HJ.out;have hrf:=DD hrf7 HB8.out hgq;clear hrf7;have hR:R=some (stT t xs k us rs e,b3+1):=by rw[<-HR.out,<-HJS.out];rfl
              subst hR;have hbF:But g wq w8:=HB7.out.trans HB8.out;have hbF2:=hq2.trans hbF;have HBN:=Lib.hid (HBW.out.trans (HCW2.out.trans hbF2));have hgq:g<wq.heap.size:=Nat.lt_of_lt_of_le hg2 hq2.size;have hcf:=DD HC2.out hbF2 (Nat.lt_of_lt_of_le hgl (Nat.le_refl _));have huf:=DD HU.out hbF hg2;have h0:w.heap.size<=w16.heap.size:=Nat.le_trans HBW.out.size HC16.out.size;have h1:w16.heap.size<=w2.heap.size:=hw2l;have h3:w2.heap.size<=wq.heap.size:=hq2.size;have HPF:=Lib.hid (HP8.out);have HEF:Hid (ExR (λb=>w.heap.size<=b/\b<(w8).heap.size) e ((⟨A9,c9⟩:Sl)).a ((⟨A9,c9⟩:Sl)).c w8):=Lib.hid (HE7.out.keep (Q':=λb=>w.heap.size<=b/\b<w8.heap.size) (w':=w8) λk hk=>⟨⟨Nat.le_trans hw6 hk.1,Nat.lt_of_lt_of_le hk.2 HB8.out.size⟩,λo=>HB8.out.cell hk.2 (Nat.ne_of_gt (Nat.lt_of_lt_of_le hg6 hk.1)) o⟩);have HRF:=Lib.hid hrf;have HCFN:=Lib.hid hcf;have HUF:=Lib.hid huf;have hlu:us.length<=1000:=by omega
              have hlr:rs.length<=1000:=by omega
              have hlx:xs.length<=1000:=by omega
              clear hcf huf hrf hbF hbF2;go_wp2_with fail;go_ret;exact⟨pT ⟨A1,c1⟩ ⟨A2,c2⟩ ⟨A3,c3⟩ (⟨A9,c9⟩:Sl),rfl,HPF.out,Po (C:=⟨A1,c1⟩) (U:=⟨A2,c2⟩) (R:=⟨A3,c3⟩) (E:=(⟨A9,c9⟩:Sl)) HCFN.out HUF.out HRF.out (λb h h'=>⟨Nat.le_trans h0 h,h'⟩) (λb h h'=>⟨Nat.le_trans h0 (Nat.le_trans h1 h),h'⟩) (λb h h'=>⟨Nat.le_trans h0 (Nat.le_trans h1 (Nat.le_trans h3 h)),h'⟩) HEF.out,TQ hct hkl HCF.out hlx HOK.out.1 hlu HOK.out.2 hlr HEF.out,HBN.out⟩
end Go.Proofs.YtchilcchogcibaaGreatDoor
