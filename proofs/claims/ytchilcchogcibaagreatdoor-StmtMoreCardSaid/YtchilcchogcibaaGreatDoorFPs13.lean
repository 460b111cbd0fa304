/- What stands behind MIGRATE, as a plain function. -/
import Derived.Test.YtchilcchogcibaaGreatDoorFPs12
set_option maxRecDepth 100000
set_option maxHeartbeats 8000000
namespace Go.Proofs.YtchilcchogcibaaGreatDoor
open Go.RowKit
attribute [local go_sem] ByteArray.extract_mk Ak AY
attribute [local go_sem ↓] Go.wp_at_zero Go.wp_at_succ
def stM(op tb ot:List UInt8)(names:List (List UInt8))(key role:List UInt8)(chk:Ex):St:=⟨op,tb,ot,names,[],key,[],[],chk,[],[],ex0,role⟩
def pM(A:Option Addr)(c:Nat)(B:Option Addr)(d:Nat):StP:=⟨⟨A,c⟩,slZ,slZ,slZ,⟨B,d⟩,slZ,slZ,slZ⟩
def P7(l:List Tok):Option (List UInt8×List UInt8):=(AO l 2).bind λt=>if hit l 3 [70,82,79,77]then(AO l 4).map λo=>(t,o)else none
def Zm(l:List Tok):Option (St×Nat):=(P7 l).bind λh=>(Ae l 5 (Bd l (Az l) (l.length+1) 6)).bind λr=>(Aw l r.2).map λq=>(stM [99,111,112,121] h.1 h.2 r.1 [] [] q.1,q.2)
def Xv(l:List Tok):Option (St×Nat):=(P7 l).bind λh=>if hit l 5 [44]then(AO l 6).bind λro=>if hit l 7 [79,78]then(AO l 8).bind λk=>(Aw l 9).map λq=>(stM [106,111,105,110] h.1 h.2 [] k ro q.1,q.2)else none else none
def QB(l:List Tok):Option (St×Nat):=(P7 l).bind λh=>if hit l 5 [66,89]then(AO l 6).bind λx=>if hit l 7 [83,85,77]then(AO l 8).bind λy=>(Aw l 9).map λq=>(stM [103,114,111,117,112] h.1 h.2 [x,y] [] [] q.1,q.2)else none else none
def JA(l:List Tok):Option (St×Nat):=if hit l 1 [67,79,80,89]then Zm l else if hit l 1 [74,79,73,78]then Xv l else if hit l 1 [71,82,79,85,80]then QB l else none
theorem Pq{op tb ot key role:List UInt8}{names:List (List UInt8)}{e:Ex}{A B:Option Addr}{c d:Nat}{Q:Nat->Prop}{w:World}(h1:SQ names A Q w)(h:ExR Q e B d w):StQ 1000 (stM op tb ot names key role e) (pM A c B d) Q w:=
 ⟨h1,λh=>absurd h (by simp[stM]),SQ.nil,XQ.nil,h.2.2.2,λh=>absurd h (by simp[stM]),⟨0,ZQ.nil⟩,0,rfl⟩
theorem TU{op tb ot key role:List UInt8}{names:List (List UInt8)}{e:Ex}{A:Option Addr}{c:Nat}{Q:Nat->Prop}{w:World}(h:ExR Q e A c w)(h1:op.length<=1000)(h2:tb.length<=1000)(h3:ot.length<=1000)(h4:key.length<=1000)(h5:role.length<=1000)(h6:names.length<=1000)(h7:∀x∈names,x.length<=1000):(stM op tb ot names key role e).Ok where
 op:=h1
 tb:=h2
 ot:=h3
 key:=h4
 role:=h5
 nN:=h6
 nC:=Nat.zero_le _
 nU:=Nat.zero_le _
 nR:=Nat.zero_le _
 nW:=Nat.zero_le _
 nS:=Nat.zero_le _
 names:=h7
 cols:=λx hx=>by cases hx
 uniq:=λx hx=>by cases hx
 refs:=λx hx=>by cases hx
 chk:=h.1
 whr:=CX
 row:=λx hx=>by cases hx
 sets:=λx hx=>by cases hx
 num:=⟨Nu h _,LP _,(λx hx=>by cases hx),(λx hx=>by cases hx)⟩
theorem OM{l:List Tok}{a:Nat}{r:Ex×Nat}(ha:a<=l.length)(h:Aw l a=some r):r.2<=l.length:=by
 unfold Aw at h;split at h
 ·unfold Ae at h;split at h
  ·cases hq:Dc l (a+2)with
   |none=>rw[hq]at h;cases h
   |some q=>
    rw[hq]at h;simp only[Option.bind_some]at h;split at h
    ·rename_i h3
     injection h with h
     subst h;exact DZ h3
    ·cases h
  ·cases h
 ·injection h with h
  subst h;exact ha
theorem RH(g:Nat)(A:Option Addr)(c:Nat)(l:List Tok)(w:World)(hp:PsE g c l w)(h:PsS g A c l 1 (psC A l.length c 1 ((stZ [] []).cells Cj)) w):
  Calls Tryz.prog 105 #[.pointer (some ⟨g,0,none⟩)] w (Fz (JA l) g A c l w):=by
 have hgw:g<w.heap.size:=h.blk.lt;obtain⟨pv,hpvv⟩:∃v,w.heap.size=v:=⟨_,rfl⟩;obtain⟨wa,hwa⟩:∃x,w.alloc (.cells #[.pointer (some ⟨g,0,none⟩)] 97)=x:=⟨_,rfl⟩;have kpa:Blk wa pv 97 #[.pointer (some ⟨g,0,none⟩)]:=by rw[<-hwa,<-hpvv];exact Blk.new _ _ _
 have hba:Below w.heap.size w wa:=by rw[<-hwa];exact bl
 have hPa:=h.below hba;have xp0:wa.cell? ⟨pv,0,none⟩=some (.pointer (some ⟨g,0,none⟩)):=kpa.cell 0;have hpg:pv≠g:=by omega
 have hpl0:=kpa.lt;have HT1:=Lib.hid (Ac g A c l 1 _ [67,79,80,89] wa (by decide) hPa);obtain⟨R,hR⟩:∃R,JA l=R:=⟨_,rfl⟩;rw[hR];unfold JA at hR;obtain⟨B1,hB1⟩:∃B,hit l 1 [67,79,80,89]=B:=⟨_,rfl⟩;obtain⟨B2,hB2⟩:∃B,hit l 1 [74,79,73,78]=B:=⟨_,rfl⟩;obtain⟨B3,hB3⟩:∃B,hit l 1 [71,82,79,85,80]=B:=⟨_,rfl⟩;rw[hB1]at HT1;rw[hB1,hB2,hB3]at hR;have HR:=Lib.hid hR;have HWA:=Lib.hid hwa;have HBA:=Lib.hid (But.of_below (p:=g) hba);have HPE:=Lib.hid hp;have HPN:=Lib.hid hpvv;have HB2:=Lib.hid hB2;have HB3:=Lib.hid hB3;clear hR hB1 hB2 hB3 hwa kpa hba hPa h hp;go_in
 go_upto_region 2 with fail
 rw[show w.alloc _=wa from HWA.out]
 try rw[hpvv]
 clear HWA hpvv;go_wp2_with fail;refine HT1.out.mono ?_;rintro en w1 ⟨rfl,hP1,hb1⟩;have xp1:w1.cell? ⟨pv,0,none⟩=some (.pointer (some ⟨g,0,none⟩)):=(hb1.cell hpl0 hpg 0).trans xp0;have hpl1:pv<w1.heap.size:=Nat.lt_of_lt_of_le hpl0 hb1.size;rw[Ad]at hP1;have HB1:=Lib.hid (HBA.out.trans hb1);clear xp0 HT1 hb1;cases B1 with
 |true=>
  have HR:Hid (Zm l=R):=HR.out;have HP1:Hid (PsS g A c l 2 (psC A l.length c 2 ((stZ [] []).cells Cj)) w1):=hP1;clear hP1;have x2:w1.cell? ⟨g,2,none⟩=some (.string ⟨#[]⟩):=HP1.out.blk.cell 2;have f2:=HP1.out.blk.frozen 2;have hgl1:g<w1.heap.size:=HP1.out.blk.lt;obtain⟨wb,hwb⟩:∃x,w1.setCell ⟨g,2,none⟩ (.string ⟨([99,111,112,121]:List UInt8).toArray⟩)=x:=⟨_,rfl⟩;have hPb:PsS g A c l 2 (psC A l.length c 2 ((stM [99,111,112,121] [] [] [] [] [] ex0).cells (pM none 0 none 0))) wb:=by
   have:=HP1.out.set 2 (Nat.le_refl _) (.string ⟨([99,111,112,121]:List UInt8).toArray⟩);rw[hwb,Ha]at this;exact this
  have hbwb:But g w wb:=by rw[<-hwb];exact HB1.out.set 2 _
  have hgb:g<wb.heap.size:=hPb.blk.lt;have hpe:=HPE.out.but hbwb;have HWB:=Lib.hid hwb;have hxb:pv<wb.heap.size:=by rw[<-hwb];simpa using hpl1
  have HPV:Hid (∀Z:World,But g wb Z->Z.cell? ⟨pv,0,none⟩=some (.pointer (some ⟨g,0,none⟩))):=λZ hz=>(hz.cell hxb hpg 0).trans (by rw[<-hwb,World.cell?_setCell_other _ _ _ _ (λe=>hpg (congrArg Addr.block e).symm)];exact xp1)
  have HS0:Hid (∀Z:World,Below wb.heap.size wb Z->Z.cell? ⟨pv,0,none⟩=some (.pointer (some ⟨g,0,none⟩))):=λZ hz=>HPV.out Z (But.of_below hz)
  have HNL:Hid (∀a t,AO l a=some t->t.length<=1000):=λa t ht=>by
   obtain⟨y,hy,rfl⟩:=Bj ht;exact hpe.s y hy
  obtain⟨ON1,hON1⟩:∃x,AO l 2=x:=⟨_,rfl⟩;obtain⟨B3,hB3⟩:∃B,hit l 3 [70,82,79,77]=B:=⟨_,rfl⟩;obtain⟨ON2,hON2⟩:∃x,AO l 4=x:=⟨_,rfl⟩;have HN1:Hid (∀Z:World,Below wb.heap.size wb Z->Calls Tryz.prog 161 #[.pointer (some ⟨g,0,none⟩),.pointer (some ⟨g,3,none⟩)] Z (IJ ON1 3 g A c l 2 (psC A l.length c 2 ((stM [99,111,112,121] [] [] [] [] [] ex0).cells (pM none 0 none 0))) Z)):=λZ hz=>by
   rw[<-hON1];exact Bv g A c l 2 _ 3 [] Z (by decide) (hPb.below hz) (by decide) rfl hpe.s
  have HW3:Hid (∀(Z:World) (b:Nat) (cs:Array Value),PsS g A c l 3 cs Z->Z.cell? ⟨b,0,none⟩=some (.string ⟨([70,82,79,77]:List UInt8).toArray⟩)->b≠g->Calls Tryz.prog 160 #[.pointer (some ⟨g,0,none⟩),.slice (some ⟨b,0,none⟩) 1 1] Z (EO B3 g A c l (3+B3.toNat) (Aa cs (3+B3.toNat)) Z)):=λZ b cs h1 h2 h3=>by
   have:=CG g A c l 3 cs [70,82,79,77] b 1 Z (by decide) h1 h2 h3;rw[hB3]at this;exact this
  have HN2:Hid (∀{t:List UInt8} (Z:World),PsS g A c l 4 (psC A l.length c 4 ((stM [99,111,112,121] t [] [] [] [] ex0).cells (pM none 0 none 0))) Z->Calls Tryz.prog 161 #[.pointer (some ⟨g,0,none⟩),.pointer (some ⟨g,4,none⟩)] Z (IJ ON2 4 g A c l 4 (psC A l.length c 4 ((stM [99,111,112,121] t [] [] [] [] ex0).cells (pM none 0 none 0))) Z)):=λ{t} Z h1=>by
   rw[<-hON2];exact Bv g A c l 4 _ 4 [] Z (by decide) h1 (by decide) rfl hpe.s
  have HM4:Hid (∀{t:List UInt8} (Z:World),PsS g A c l (3+true.toNat) (Aa (Aa ((psC A l.length c 2 ((stM [99,111,112,121] [] [] [] [] [] ex0).cells (pM none 0 none 0))).setIfInBounds 3 (.string ⟨t.toArray⟩)) (2+1)) (3+true.toNat)) Z->PsS g A c l 4 (psC A l.length c 4 ((stM [99,111,112,121] t [] [] [] [] ex0).cells (pM none 0 none 0))) Z):=λ{t} Z h=>by
   rw[Iw,Ad,Ad]at h;exact h
  have hR:((ON1.bind λt=>if B3 then ON2.map λo=>(t,o)else none).bind λh=>(Ae l 5 (Bd l (Az l) (l.length+1) 6)).bind λr=>(Aw l r.2).map λq=>(stM [99,111,112,121] h.1 h.2 r.1 [] [] q.1,q.2))=R:=by
   rw[<-HR.out,<-hON1,<-hB3,<-hON2];rfl
  have hL1:∀t,ON1=some t->t.length<=1000:=λt ht=>HNL.out 2 t (hON1.trans ht)
  have hL2:∀t,ON2=some t->t.length<=1000/\5<=l.length:=λt ht=>⟨HNL.out 4 t (hON2.trans ht),Dz (hON2.trans ht)⟩
  have HR:=Lib.hid hR;have HL1:=Lib.hid hL1;have HL2:=Lib.hid hL2;have HBW:=Lib.hid hbwb;have HPEB:=Lib.hid hpe;clear hR hL1 hL2 hON1 hB3 hON2 hwb hPb hbwb hpe;go_upto_region 8 with fail
  rw[show World.setCell w1 _ _=wb from HWB.out];clear HWB x2 f2 xp1;refine wp_region_held_drew (S:=(λZ=>Z.cell? ⟨pv,0,none⟩=some (.pointer (some ⟨g,0,none⟩)))) (by kernel_rfl) ?_ (λhHeld=>?_)
  ·try dsimp only
   first|exact HS0.out _ (by exact bl)|exact HPV.out _ (hc5.trans (But.of_below (by exact bl)))|exact HPV.out _ (hc10.trans (But.of_below (by exact bl)))|exact HPV.out _ (hc19.trans (But.of_below (by exact bl)))
  refine tS [0,1,2,3,4] ?_;iterate 5(refine tC ?_;refine ap ?_)
  refine tN ?_;cases ON1 with
  |none=>
   have hR:R=none:=HR.out.symm;subst hR;refine rdy 5 λK hK=>?_
   go_simp;refine(HN1.out _ (by exact bl)).mono ?_<;>rintro en w5 ⟨rfl,hP5,hb5⟩<;>have hc5:But g wb w5:=But.trans (But.of_below (by exact bl)) hb5<;>have HP5:=Lib.hid hP5<;>have hg5:g<w5.heap.size:=hP5.blk.lt<;>clear hP5 hb5
   go_wp2_with fail;refine hK.out _ _ ?_ (λhHeld=>?_)
   ·try dsimp only
    first|exact HS0.out _ (by exact bl)|exact HPV.out _ (hc5.trans (But.of_below (by exact bl)))|exact HPV.out _ (hc10.trans (But.of_below (by exact bl)))|exact HPV.out _ (hc19.trans (But.of_below (by exact bl)))
   clear hK K;refine ap ?_;refine tS [6,7] ?_;iterate 2(refine tC ?_;refine ap ?_)
   refine tN ?_;refine tS [8,9,10,11] ?_;iterate 4(refine tX ?_;refine ap ?_)
   refine tN ?_;refine tS [12,13] ?_;iterate 2(refine tC ?_;refine ap ?_)
   refine tN ?_;refine tS [14,15,16,17,18,19,20] ?_;iterate 7(refine tX ?_;refine ap ?_)
   refine tN ?_;refine tS [21] (tC ?_);refine ap (tN ?_);refine wpAnyH_done (by kernel_rfl) ?_ _;go_wp2_with fail;go_ret;exact⟨rfl,HBW.out.trans hc5⟩
  |some t=>
   skip
   refine rdy 5 λK hK=>?_
   go_simp;refine(HN1.out _ (by exact bl)).mono ?_<;>rintro en w5 ⟨rfl,hP5,hb5⟩<;>have hc5:But g wb w5:=But.trans (But.of_below (by exact bl)) hb5<;>have HP5:=Lib.hid hP5<;>have hg5:g<w5.heap.size:=hP5.blk.lt<;>clear hP5 hb5
   go_wp2_with fail;refine hK.out _ _ ?_ (λhHeld=>?_)
   ·try dsimp only
    first|exact HS0.out _ (by exact bl)|exact HPV.out _ (hc5.trans (But.of_below (by exact bl)))|exact HPV.out _ (hc10.trans (But.of_below (by exact bl)))|exact HPV.out _ (hc19.trans (But.of_below (by exact bl)))
   clear hK K;refine ap ?_;refine tS [6,7,8] ?_;iterate 3(refine tC ?_;refine ap ?_)
   refine tN ?_;refine rdy 9 λK hK=>?_
   go_simp
   skip
   go_wp2_with fail;refine hK.out _ _ ?_ (λhHeld=>?_)
   ·try dsimp only
    first|exact HS0.out _ (by exact bl)|exact HPV.out _ (hc5.trans (But.of_below (by exact bl)))|exact HPV.out _ (hc10.trans (But.of_below (by exact bl)))|exact HPV.out _ (hc19.trans (But.of_below (by exact bl)))
   clear hK K;refine ap ?_;cases B3 with
   |false=>
    have hR:R=none:=HR.out.symm;subst hR;refine rdy 10 λK hK=>?_
    go_simp;refine(HW3.out _ _ _ (PsS.below HP5.out (by exact bl)) ((Blk.new' _ _ _ _ rfl).cell 0) (by omega)).mono ?_<;>rintro en w10 ⟨rfl,hP10,hb10⟩<;>have hc10:But g wb w10:=But.trans (But.trans hc5 (But.of_below (by exact bl))) hb10<;>have HP10:=Lib.hid hP10<;>have hg10:g<w10.heap.size:=hP10.blk.lt<;>clear hP10 hb10
    go_wp2_with fail;refine hK.out _ _ ?_ (λhHeld=>?_)
    ·try dsimp only
     first|exact HS0.out _ (by exact bl)|exact HPV.out _ (hc5.trans (But.of_below (by exact bl)))|exact HPV.out _ (hc10.trans (But.of_below (by exact bl)))|exact HPV.out _ (hc19.trans (But.of_below (by exact bl)))
    clear hK K;refine ap ?_;refine tS [11,12,13] ?_;iterate 3(refine tC ?_;refine ap ?_)
    refine tN ?_;refine tS [14,15,16,17,18,19,20] ?_;iterate 7(refine tX ?_;refine ap ?_)
    refine tN ?_;refine tS [21] (tC ?_);refine ap (tN ?_);refine wpAnyH_done (by kernel_rfl) ?_ _;go_wp2_with fail;go_ret;exact⟨rfl,HBW.out.trans hc10⟩
   |true=>
    skip
    refine rdy 10 λK hK=>?_
    go_simp;refine(HW3.out _ _ _ (PsS.below HP5.out (by exact bl)) ((Blk.new' _ _ _ _ rfl).cell 0) (by omega)).mono ?_<;>rintro en w10 ⟨rfl,hP10,hb10⟩<;>have hc10:But g wb w10:=But.trans (But.trans hc5 (But.of_below (by exact bl))) hb10<;>have HP10:=Lib.hid hP10<;>have hg10:g<w10.heap.size:=hP10.blk.lt<;>clear hP10 hb10
    go_wp2_with fail;refine hK.out _ _ ?_ (λhHeld=>?_)
    ·try dsimp only
     first|exact HS0.out _ (by exact bl)|exact HPV.out _ (hc5.trans (But.of_below (by exact bl)))|exact HPV.out _ (hc10.trans (But.of_below (by exact bl)))|exact HPV.out _ (hc19.trans (But.of_below (by exact bl)))
    clear hK K;refine ap ?_;refine tS [11,12,13,14,15,16,17,18] ?_;iterate 8(refine tC ?_;refine ap ?_)
    refine tN ?_;cases ON2 with
    |none=>
     have hR:R=none:=HR.out.symm;subst hR;refine rdy 19 λK hK=>?_
     go_simp;refine(HN2.out _ (HM4.out _ (PsS.below HP10.out (by exact bl)))).mono ?_<;>rintro en w19 ⟨rfl,hP19,hb19⟩<;>have hc19:But g wb w19:=But.trans (But.trans hc10 (But.of_below (by exact bl))) hb19<;>have HP19:=Lib.hid hP19<;>have hg19:g<w19.heap.size:=hP19.blk.lt<;>clear hP19 hb19
     go_wp2_with fail;refine hK.out _ _ ?_ (λhHeld=>?_)
     ·try dsimp only
      first|exact HS0.out _ (by exact bl)|exact HPV.out _ (hc5.trans (But.of_below (by exact bl)))|exact HPV.out _ (hc10.trans (But.of_below (by exact bl)))|exact HPV.out _ (hc19.trans (But.of_below (by exact bl)))
     clear hK K;refine ap ?_;refine tS [20,21] ?_;iterate 2(refine tC ?_;refine ap ?_)
     refine tN ?_;refine wpAnyH_done (by kernel_rfl) ?_ _;go_wp2_with fail;go_ret;exact⟨rfl,HBW.out.trans hc19⟩
    |some o=>
     have HR:Hid ((λh:List UInt8×List UInt8=>(Ae l 5 (Bd l (Az l) (l.length+1) 6)).bind λr=>(Aw l r.2).map λq=>(stM [99,111,112,121] h.1 h.2 r.1 [] [] q.1,q.2)) (t,o)=R):=HR.out;refine rdy 19 λK hK=>?_
     go_simp;refine(HN2.out _ (HM4.out _ (PsS.below HP10.out (by exact bl)))).mono ?_<;>rintro en w19 ⟨rfl,hP19,hb19⟩<;>have hc19:But g wb w19:=But.trans (But.trans hc10 (But.of_below (by exact bl))) hb19<;>have HP19:=Lib.hid hP19<;>have hg19:g<w19.heap.size:=hP19.blk.lt<;>clear hP19 hb19
     go_wp2_with fail;refine hK.out _ _ ?_ (λhHeld=>?_)
     ·try dsimp only
      first|exact HS0.out _ (by exact bl)|exact HPV.out _ (hc5.trans (But.of_below (by exact bl)))|exact HPV.out _ (hc10.trans (But.of_below (by exact bl)))|exact HPV.out _ (hc19.trans (But.of_below (by exact bl)))
     clear hK K;refine ap ?_;refine tS [20,21] ?_;iterate 2(refine tC ?_;refine ap ?_)
     refine tN ?_;refine wpAnyH_done (by kernel_rfl) ?_ _;have hP:PsS g A c l 5 (psC A l.length c 5 ((stM [99,111,112,121] t o [] [] [] ex0).cells (pM none 0 none 0))) w19:=by
      have:=HP19.out;rw[Tt,Ad]at this;exact this
     have x2:w19.cell? ⟨g,2,none⟩=some (.string ⟨([99,111,112,121]:List UInt8).toArray⟩):=hP.blk.cell 2;have xp:w19.cell? ⟨pv,0,none⟩=some (.pointer (some ⟨g,0,none⟩)):=HPV.out _ hc19;have hct:t.length<=1000:=HL1.out _ rfl;have hco:=(HL2.out _ rfl).1;have h5l:=(HL2.out _ rfl).2;have hB19:=HBW.out.trans hc19;have hcw:=hc19;have hpe:=HPEB.out.but hc19;have HP:=Lib.hid hP;have HB19:=Lib.hid hB19;have HPE9:=Lib.hid hpe;clear hP hB19 hpe HP19 HP10 HP5 HN1 HW3 HN2 HM4 hHeld hc5 hc10;have HI:=Lib.hid (Qq pv (Bd l (Az l) (l.length+1) 6) (KL 5 9 1 (·.map IR) J9 (psC A l.length c 5 ((stM [99,111,112,121] t o [] [] [] ex0).cells (pM none 0 none 0))) w19.heap.size) g A c l 5 _ w19 HPE9.out.n h5l HP.out (KL.stay hg19) (λ_ r hr=>KJ (λb r h=>(Ey h).2) _ _ r hr) λW hW h6 hPW=>
      (Vz g pv A c l 6 _ W (HPE9.out.but hW) h6 hPW (by show 5<25;decide) (by rw[show(Value.slice none 0 0)=Value.slice none ([]:List (List UInt8)).length 0 from rfl,JX];rfl) ((hW.cell (Ag xp) hpg 0).trans xp)).mono λen w' hr=>hr.imp (But.refl _ _) (KL.from hW.size))
     have HLN:Hid (∀r,Ae l 5 (Bd l (Az l) (l.length+1) 6)=some r->r.1.length<=1000/\r.2<=l.length):=λr hr=>by
      unfold Ae at hr;split at hr
      ·cases hz:Bd l (Az l) (l.length+1) 6 with
       |none=>rw[hz]at hr;cases hr
       |some z=>
        rw[hz]at hr;simp only[Option.bind_some]at hr;split at hr
        ·rename_i h3
         injection hr with hr
         subst hr;have:=Ja _ _ z hz;have:=HPE9.out.n;exact⟨by simp only;omega,DZ h3⟩
        ·cases hr
      ·cases hr
     have HR:Hid (((Ae l 5 (Bd l (Az l) (l.length+1) 6)).bind λr=>(Aw l r.2).map λq=>(stM [99,111,112,121] t o r.1 [] [] q.1,q.2))=R):=HR.out;obtain⟨OI,hOI⟩:∃x,Ae l 5 (Bd l (Az l) (l.length+1) 6)=x:=⟨_,rfl⟩;rw[hOI]at HI HR HLN;clear hOI;go_wp2_with fail;refine HI.out.mono ?_;intro en w25 hr;cases OI with
     |none=>
      obtain⟨rfl,hb25⟩:=hr;have hR:R=none:=HR.out.symm;subst hR;have HB25:=Lib.hid (HB19.out.trans hb25);clear hb25 HI;go_wp2_with fail;go_ret;exact⟨rfl,HB25.out⟩
     |some r=>
      obtain⟨ns,b⟩:=r;obtain⟨rfl,cs25,hP25,⟨A7,c7,b7,hcs,hown,hfit,hsz⟩,hb25⟩:=hr;have HRC:Hid (((Aw l b).map λq=>(stM [99,111,112,121] t o ns [] [] q.1,q.2))=R):=HR.out;obtain⟨hln,hbl⟩:=HLN.out _ rfl;have hP25':PsS g A c l b (psC A l.length c b ((stM [99,111,112,121] t o ns [] [] ex0).cells (pM A7 c7 none 0))) w25:=by
       have h1:=hP25.self;rw[<-h1,hcs,AQ,JX,Ad]at hP25;exact hP25
      have HCK:=Lib.hid (Gn g A c l b _ w25 (HPE9.out.but hb25) hbl hP25' (by show 16<=25;decide) (by rw[Fb];rfl));have HBX:=Lib.hid (HB19.out.trans hb25);obtain⟨A8,c8,he,-,-,hsq⟩:=SQ.own hown
      injection he with e1 e2 e3
      subst e1;have HSQ:=Lib.hid (hsq.keep (Q':=λk=>w19.heap.size<=k/\k<w25.heap.size) (w':=w25) λk hk=>⟨hk,λ_=>rfl⟩);have HFIT:=Lib.hid hfit;have xp2:w25.cell? ⟨pv,0,none⟩=some (.pointer (some ⟨g,0,none⟩)):=(hb25.cell (Ag xp) hpg 0).trans xp;have h19:w.heap.size<=w19.heap.size:=HB19.out.size;have hg25:=HP.out.blk.lt;clear hP25 hP25' hown hsq hcs hfit hb25 HI HR xp x2 e2 e3;go_wp2_with fail;refine HCK.out.mono ?_;obtain⟨OC,hOC⟩:∃x,Aw l b=x:=⟨_,rfl⟩;have hR:=HRC.out;rw[hOC]at hR ⊢;have HRD:=Lib.hid hR;clear hOC hR;intro en w30 hr;cases OC with
      |none=>
       obtain⟨rfl,hb30⟩:=hr;have hR:R=none:=HRD.out.symm;subst hR;have HB30:=Lib.hid (HBX.out.trans hb30);clear hb30 HCK;go_wp2_with fail;go_ret;exact⟨rfl,HB30.out⟩
      |some q=>
       obtain⟨A9,c9,rfl,hP30,hE30,hb30⟩:=hr;have hR:R=some _:=HRD.out.symm;subst hR;have HB30:=Lib.hid (HBX.out.trans hb30);rw[Fb,Ad]at hP30;have HP30:=Lib.hid hP30;have HE30:=Lib.hid (hE30.keep (Q':=λk=>w.heap.size<=k/\k<w30.heap.size) (w':=w30) λk hk=>⟨⟨Nat.le_trans HBX.out.size hk.1,hk.2⟩,λ_=>rfl⟩);have HQ30:=Lib.hid (HSQ.out.keep (Q':=λk=>w.heap.size<=k/\k<w30.heap.size) (w':=w30) λk hk=>⟨⟨Nat.le_trans h19 hk.1,Nat.lt_of_lt_of_le hk.2 hb30.size⟩,λo=>hb30.cell hk.2 (Nat.ne_of_gt (Nat.lt_of_lt_of_le hg25 hk.1)) o⟩);clear hb30 HCK hP30 hE30;go_wp2_with fail;go_ret;exact⟨pM A7 c7 A9 c9,rfl,HP30.out,Pq HQ30.out HE30.out,TU HE30.out (by decide) hct hco (by decide) (by decide) hln HFIT.out,HB30.out⟩
 |false=>
  have HR:Hid ((if B2 then Xv l else if B3 then QB l else none)=R):=HR.out;have hP1':PsS g A c l 1 (psC A l.length c 1 ((stZ [] []).cells Cj)) w1:=hP1;have HT2:=Lib.hid (Ac g A c l 1 _ [74,79,73,78] w1 (by decide) hP1');rw[HB2.out]at HT2;have HB01:=HB1;have hpl01:=hpl1;have xp01:=xp1;clear hP1 hP1' HB1 hpl1;go_wp2_with fail;refine HT2.out.mono ?_;rintro en w1 ⟨rfl,hP1,hb1⟩;rw[Ad]at hP1;have xp1:w1.cell? ⟨pv,0,none⟩=some (.pointer (some ⟨g,0,none⟩)):=(hb1.cell hpl01 hpg 0).trans xp01;have hpl1:pv<w1.heap.size:=Nat.lt_of_lt_of_le hpl01 hb1.size;have HB1:=Lib.hid (HB01.out.trans hb1);clear xp01 HT2 hb1 HB01 hpl01;cases B2 with
  |true=>
   have HR:Hid (Xv l=R):=HR.out;have HP1:Hid (PsS g A c l 2 (psC A l.length c 2 ((stZ [] []).cells Cj)) w1):=hP1;clear hP1;have x2:w1.cell? ⟨g,2,none⟩=some (.string ⟨#[]⟩):=HP1.out.blk.cell 2;have f2:=HP1.out.blk.frozen 2;have hgl1:g<w1.heap.size:=HP1.out.blk.lt;obtain⟨wb,hwb⟩:∃x,w1.setCell ⟨g,2,none⟩ (.string ⟨([106,111,105,110]:List UInt8).toArray⟩)=x:=⟨_,rfl⟩;have hPb:PsS g A c l 2 (psC A l.length c 2 ((stM [106,111,105,110] [] [] [] [] [] ex0).cells (pM none 0 none 0))) wb:=by
    have:=HP1.out.set 2 (Nat.le_refl _) (.string ⟨([106,111,105,110]:List UInt8).toArray⟩);rw[hwb,Ha]at this;exact this
   have hbwb:But g w wb:=by rw[<-hwb];exact HB1.out.set 2 _
   have hgb:g<wb.heap.size:=hPb.blk.lt;have hpe:=HPE.out.but hbwb;have HWB:=Lib.hid hwb;have hxb:pv<wb.heap.size:=by rw[<-hwb];simpa using hpl1
   have HPV:Hid (∀Z:World,But g wb Z->Z.cell? ⟨pv,0,none⟩=some (.pointer (some ⟨g,0,none⟩))):=λZ hz=>(hz.cell hxb hpg 0).trans (by rw[<-hwb,World.cell?_setCell_other _ _ _ _ (λe=>hpg (congrArg Addr.block e).symm)];exact xp1)
   have HS0:Hid (∀Z:World,Below wb.heap.size wb Z->Z.cell? ⟨pv,0,none⟩=some (.pointer (some ⟨g,0,none⟩))):=λZ hz=>HPV.out Z (But.of_below hz)
   have HNL:Hid (∀a t,AO l a=some t->t.length<=1000):=λa t ht=>by
    obtain⟨y,hy,rfl⟩:=Bj ht;exact hpe.s y hy
   obtain⟨ON1,hON1⟩:∃x,AO l 2=x:=⟨_,rfl⟩;obtain⟨B3,hB3⟩:∃B,hit l 3 [70,82,79,77]=B:=⟨_,rfl⟩;obtain⟨ON2,hON2⟩:∃x,AO l 4=x:=⟨_,rfl⟩;have HN1:Hid (∀Z:World,Below wb.heap.size wb Z->Calls Tryz.prog 161 #[.pointer (some ⟨g,0,none⟩),.pointer (some ⟨g,3,none⟩)] Z (IJ ON1 3 g A c l 2 (psC A l.length c 2 ((stM [106,111,105,110] [] [] [] [] [] ex0).cells (pM none 0 none 0))) Z)):=λZ hz=>by
    rw[<-hON1];exact Bv g A c l 2 _ 3 [] Z (by decide) (hPb.below hz) (by decide) rfl hpe.s
   have HW3:Hid (∀(Z:World) (b:Nat) (cs:Array Value),PsS g A c l 3 cs Z->Z.cell? ⟨b,0,none⟩=some (.string ⟨([70,82,79,77]:List UInt8).toArray⟩)->b≠g->Calls Tryz.prog 160 #[.pointer (some ⟨g,0,none⟩),.slice (some ⟨b,0,none⟩) 1 1] Z (EO B3 g A c l (3+B3.toNat) (Aa cs (3+B3.toNat)) Z)):=λZ b cs h1 h2 h3=>by
    have:=CG g A c l 3 cs [70,82,79,77] b 1 Z (by decide) h1 h2 h3;rw[hB3]at this;exact this
   have HN2:Hid (∀{t:List UInt8} (Z:World),PsS g A c l 4 (psC A l.length c 4 ((stM [106,111,105,110] t [] [] [] [] ex0).cells (pM none 0 none 0))) Z->Calls Tryz.prog 161 #[.pointer (some ⟨g,0,none⟩),.pointer (some ⟨g,4,none⟩)] Z (IJ ON2 4 g A c l 4 (psC A l.length c 4 ((stM [106,111,105,110] t [] [] [] [] ex0).cells (pM none 0 none 0))) Z)):=λ{t} Z h1=>by
    rw[<-hON2];exact Bv g A c l 4 _ 4 [] Z (by decide) h1 (by decide) rfl hpe.s
   have HM4:Hid (∀{t:List UInt8} (Z:World),PsS g A c l (3+true.toNat) (Aa (Aa ((psC A l.length c 2 ((stM [106,111,105,110] [] [] [] [] [] ex0).cells (pM none 0 none 0))).setIfInBounds 3 (.string ⟨t.toArray⟩)) (2+1)) (3+true.toNat)) Z->PsS g A c l 4 (psC A l.length c 4 ((stM [106,111,105,110] t [] [] [] [] ex0).cells (pM none 0 none 0))) Z):=λ{t} Z h=>by
    rw[Iw,Ad,Ad]at h;exact h
   have hR:((ON1.bind λt=>if B3 then ON2.map λo=>(t,o)else none).bind λh=>if hit l 5 [44]then(AO l 6).bind λro=>if hit l 7 [79,78]then(AO l 8).bind λk=>(Aw l 9).map λq=>(stM [106,111,105,110] h.1 h.2 [] k ro q.1,q.2)else none else none)=R:=by
    rw[<-HR.out,<-hON1,<-hB3,<-hON2];rfl
   have hL1:∀t,ON1=some t->t.length<=1000:=λt ht=>HNL.out 2 t (hON1.trans ht)
   have hL2:∀t,ON2=some t->t.length<=1000/\5<=l.length:=λt ht=>⟨HNL.out 4 t (hON2.trans ht),Dz (hON2.trans ht)⟩
   have HR:=Lib.hid hR;have HL1:=Lib.hid hL1;have HL2:=Lib.hid hL2;have HBW:=Lib.hid hbwb;have HPEB:=Lib.hid hpe;clear hR hL1 hL2 hON1 hB3 hON2 hwb hPb hbwb hpe;go_upto_region 8 with fail
   rw[show World.setCell w1 _ _=wb from HWB.out];clear HWB x2 f2 xp1;refine wp_region_held_drew (S:=(λZ=>Z.cell? ⟨pv,0,none⟩=some (.pointer (some ⟨g,0,none⟩)))) (by kernel_rfl) ?_ (λhHeld=>?_)
   ·try dsimp only
    first|exact HS0.out _ (by exact bl)|exact HPV.out _ (hc5.trans (But.of_below (by exact bl)))|exact HPV.out _ (hc10.trans (But.of_below (by exact bl)))|exact HPV.out _ (hc19.trans (But.of_below (by exact bl)))
   refine tS [0,1,2,3,4] ?_;iterate 5(refine tC ?_;refine ap ?_)
   refine tN ?_;cases ON1 with
   |none=>
    have hR:R=none:=HR.out.symm;subst hR;refine rdy 5 λK hK=>?_
    go_simp;refine(HN1.out _ (by exact bl)).mono ?_<;>rintro en w5 ⟨rfl,hP5,hb5⟩<;>have hc5:But g wb w5:=But.trans (But.of_below (by exact bl)) hb5<;>have HP5:=Lib.hid hP5<;>have hg5:g<w5.heap.size:=hP5.blk.lt<;>clear hP5 hb5
    go_wp2_with fail;refine hK.out _ _ ?_ (λhHeld=>?_)
    ·try dsimp only
     first|exact HS0.out _ (by exact bl)|exact HPV.out _ (hc5.trans (But.of_below (by exact bl)))|exact HPV.out _ (hc10.trans (But.of_below (by exact bl)))|exact HPV.out _ (hc19.trans (But.of_below (by exact bl)))
    clear hK K;refine ap ?_;refine tS [6,7] ?_;iterate 2(refine tC ?_;refine ap ?_)
    refine tN ?_;refine tS [8,9,10,11] ?_;iterate 4(refine tX ?_;refine ap ?_)
    refine tN ?_;refine tS [12,13] ?_;iterate 2(refine tC ?_;refine ap ?_)
    refine tN ?_;refine tS [14,15,16,17,18,19,20] ?_;iterate 7(refine tX ?_;refine ap ?_)
    refine tN ?_;refine tS [21] (tC ?_);refine ap (tN ?_);refine wpAnyH_done (by kernel_rfl) ?_ _;go_wp2_with fail;go_ret;exact⟨rfl,HBW.out.trans hc5⟩
   |some t=>
    skip
    refine rdy 5 λK hK=>?_
    go_simp;refine(HN1.out _ (by exact bl)).mono ?_<;>rintro en w5 ⟨rfl,hP5,hb5⟩<;>have hc5:But g wb w5:=But.trans (But.of_below (by exact bl)) hb5<;>have HP5:=Lib.hid hP5<;>have hg5:g<w5.heap.size:=hP5.blk.lt<;>clear hP5 hb5
    go_wp2_with fail;refine hK.out _ _ ?_ (λhHeld=>?_)
    ·try dsimp only
     first|exact HS0.out _ (by exact bl)|exact HPV.out _ (hc5.trans (But.of_below (by exact bl)))|exact HPV.out _ (hc10.trans (But.of_below (by exact bl)))|exact HPV.out _ (hc19.trans (But.of_below (by exact bl)))
    clear hK K;refine ap ?_;refine tS [6,7,8] ?_;iterate 3(refine tC ?_;refine ap ?_)
    refine tN ?_;refine rdy 9 λK hK=>?_
    go_simp
    skip
    go_wp2_with fail;refine hK.out _ _ ?_ (λhHeld=>?_)
    ·try dsimp only
     first|exact HS0.out _ (by exact bl)|exact HPV.out _ (hc5.trans (But.of_below (by exact bl)))|exact HPV.out _ (hc10.trans (But.of_below (by exact bl)))|exact HPV.out _ (hc19.trans (But.of_below (by exact bl)))
    clear hK K;refine ap ?_;cases B3 with
    |false=>
     have hR:R=none:=HR.out.symm;subst hR;refine rdy 10 λK hK=>?_
     go_simp;refine(HW3.out _ _ _ (PsS.below HP5.out (by exact bl)) ((Blk.new' _ _ _ _ rfl).cell 0) (by omega)).mono ?_<;>rintro en w10 ⟨rfl,hP10,hb10⟩<;>have hc10:But g wb w10:=But.trans (But.trans hc5 (But.of_below (by exact bl))) hb10<;>have HP10:=Lib.hid hP10<;>have hg10:g<w10.heap.size:=hP10.blk.lt<;>clear hP10 hb10
     go_wp2_with fail;refine hK.out _ _ ?_ (λhHeld=>?_)
     ·try dsimp only
      first|exact HS0.out _ (by exact bl)|exact HPV.out _ (hc5.trans (But.of_below (by exact bl)))|exact HPV.out _ (hc10.trans (But.of_below (by exact bl)))|exact HPV.out _ (hc19.trans (But.of_below (by exact bl)))
     clear hK K;refine ap ?_;refine tS [11,12,13] ?_;iterate 3(refine tC ?_;refine ap ?_)
     refine tN ?_;refine tS [14,15,16,17,18,19,20] ?_;iterate 7(refine tX ?_;refine ap ?_)
     refine tN ?_;refine tS [21] (tC ?_);refine ap (tN ?_);refine wpAnyH_done (by kernel_rfl) ?_ _;go_wp2_with fail;go_ret;exact⟨rfl,HBW.out.trans hc10⟩
    |true=>
     skip
     refine rdy 10 λK hK=>?_
     go_simp;refine(HW3.out _ _ _ (PsS.below HP5.out (by exact bl)) ((Blk.new' _ _ _ _ rfl).cell 0) (by omega)).mono ?_<;>rintro en w10 ⟨rfl,hP10,hb10⟩<;>have hc10:But g wb w10:=But.trans (But.trans hc5 (But.of_below (by exact bl))) hb10<;>have HP10:=Lib.hid hP10<;>have hg10:g<w10.heap.size:=hP10.blk.lt<;>clear hP10 hb10
     go_wp2_with fail;refine hK.out _ _ ?_ (λhHeld=>?_)
     ·try dsimp only
      first|exact HS0.out _ (by exact bl)|exact HPV.out _ (hc5.trans (But.of_below (by exact bl)))|exact HPV.out _ (hc10.trans (But.of_below (by exact bl)))|exact HPV.out _ (hc19.trans (But.of_below (by exact bl)))
     clear hK K;refine ap ?_;refine tS [11,12,13,14,15,16,17,18] ?_;iterate 8(refine tC ?_;refine ap ?_)
     refine tN ?_;cases ON2 with
     |none=>
      have hR:R=none:=HR.out.symm;subst hR;refine rdy 19 λK hK=>?_
      go_simp;refine(HN2.out _ (HM4.out _ (PsS.below HP10.out (by exact bl)))).mono ?_<;>rintro en w19 ⟨rfl,hP19,hb19⟩<;>have hc19:But g wb w19:=But.trans (But.trans hc10 (But.of_below (by exact bl))) hb19<;>have HP19:=Lib.hid hP19<;>have hg19:g<w19.heap.size:=hP19.blk.lt<;>clear hP19 hb19
      go_wp2_with fail;refine hK.out _ _ ?_ (λhHeld=>?_)
      ·try dsimp only
       first|exact HS0.out _ (by exact bl)|exact HPV.out _ (hc5.trans (But.of_below (by exact bl)))|exact HPV.out _ (hc10.trans (But.of_below (by exact bl)))|exact HPV.out _ (hc19.trans (But.of_below (by exact bl)))
      clear hK K;refine ap ?_;refine tS [20,21] ?_;iterate 2(refine tC ?_;refine ap ?_)
      refine tN ?_;refine wpAnyH_done (by kernel_rfl) ?_ _;go_wp2_with fail;go_ret;exact⟨rfl,HBW.out.trans hc19⟩
     |some o=>
      have HR:Hid ((λh:List UInt8×List UInt8=>if hit l 5 [44]then(AO l 6).bind λro=>if hit l 7 [79,78]then(AO l 8).bind λk=>(Aw l 9).map λq=>(stM [106,111,105,110] h.1 h.2 [] k ro q.1,q.2)else none else none) (t,o)=R):=HR.out;refine rdy 19 λK hK=>?_
      go_simp;refine(HN2.out _ (HM4.out _ (PsS.below HP10.out (by exact bl)))).mono ?_<;>rintro en w19 ⟨rfl,hP19,hb19⟩<;>have hc19:But g wb w19:=But.trans (But.trans hc10 (But.of_below (by exact bl))) hb19<;>have HP19:=Lib.hid hP19<;>have hg19:g<w19.heap.size:=hP19.blk.lt<;>clear hP19 hb19
      go_wp2_with fail;refine hK.out _ _ ?_ (λhHeld=>?_)
      ·try dsimp only
       first|exact HS0.out _ (by exact bl)|exact HPV.out _ (hc5.trans (But.of_below (by exact bl)))|exact HPV.out _ (hc10.trans (But.of_below (by exact bl)))|exact HPV.out _ (hc19.trans (But.of_below (by exact bl)))
      clear hK K;refine ap ?_;refine tS [20,21] ?_;iterate 2(refine tC ?_;refine ap ?_)
      refine tN ?_;refine wpAnyH_done (by kernel_rfl) ?_ _;have hP:PsS g A c l 5 (psC A l.length c 5 ((stM [106,111,105,110] t o [] [] [] ex0).cells (pM none 0 none 0))) w19:=by
       have:=HP19.out;rw[Tt,Ad]at this;exact this
      have x2:w19.cell? ⟨g,2,none⟩=some (.string ⟨([106,111,105,110]:List UInt8).toArray⟩):=hP.blk.cell 2;have xp:w19.cell? ⟨pv,0,none⟩=some (.pointer (some ⟨g,0,none⟩)):=HPV.out _ hc19;have hct:t.length<=1000:=HL1.out _ rfl;have hco:=(HL2.out _ rfl).1;have h5l:=(HL2.out _ rfl).2;have hB19:=HBW.out.trans hc19;have hcw:=hc19;have hpe:=HPEB.out.but hc19;have HP:=Lib.hid hP;have HB19:=Lib.hid hB19;have HPE9:=Lib.hid hpe;clear hP hB19 hpe HP19 HP10 HP5 HN1 HW3 HN2 HM4 hHeld hc5 hc10;obtain⟨B5,hB5⟩:∃B,hit l 5 [44]=B:=⟨_,rfl⟩;obtain⟨ON6,hON6⟩:∃x,AO l 6=x:=⟨_,rfl⟩;obtain⟨B7,hB7⟩:∃B,hit l 7 [79,78]=B:=⟨_,rfl⟩;obtain⟨ON8,hON8⟩:∃x,AO l 8=x:=⟨_,rfl⟩;have hR:(if B5 then ON6.bind λro=>if B7 then ON8.bind λk=>(Aw l 9).map λq=>(stM [106,111,105,110] t o [] k ro q.1,q.2)else none else none)=R:=by
       rw[<-HR.out,<-hB5,<-hON6,<-hB7,<-hON8]
      have HW5:Hid (∀(Z:World) (b:Nat),PsS g A c l 5 (psC A l.length c 5 ((stM [106,111,105,110] t o [] [] [] ex0).cells (pM none 0 none 0))) Z->Z.cell? ⟨b,0,none⟩=some (.string ⟨([44]:List UInt8).toArray⟩)->b≠g->Calls Tryz.prog 160 #[.pointer (some ⟨g,0,none⟩),.slice (some ⟨b,0,none⟩) 1 1] Z (EO B5 g A c l (5+B5.toNat) (Aa (psC A l.length c 5 ((stM [106,111,105,110] t o [] [] [] ex0).cells (pM none 0 none 0))) (5+B5.toNat)) Z)):=λZ b h1 h2 h3=>by
       have:=CG g A c l 5 _ [44] b 1 Z (by decide) h1 h2 h3;rw[hB5]at this;exact this
      have HN6:Hid (∀Z:World,PsS g A c l (5+true.toNat) (psC A l.length c (5+true.toNat) ((stM [106,111,105,110] t o [] [] [] ex0).cells (pM none 0 none 0))) Z->Calls Tryz.prog 161 #[.pointer (some ⟨g,0,none⟩),.pointer (some ⟨g,24,none⟩)] Z (IJ ON6 24 g A c l 6 (psC A l.length c 6 ((stM [106,111,105,110] t o [] [] [] ex0).cells (pM none 0 none 0))) Z)):=λZ h1=>by
       rw[<-hON6];exact Bv g A c l 6 _ 24 [] Z (by decide) h1 (by decide) rfl HPE9.out.s
      have HW7:Hid (∀{ro:List UInt8} (Z:World) (b:Nat),PsS g A c l (6+1) (psC A l.length c (6+1) ((({stM [106,111,105,110] t o [] [] [] ex0 with role:=ro}:St)).cells (pM none 0 none 0))) Z->Z.cell? ⟨b,0,none⟩=some (.string ⟨([79,78]:List UInt8).toArray⟩)->b≠g->Calls Tryz.prog 160 #[.pointer (some ⟨g,0,none⟩),.slice (some ⟨b,0,none⟩) 1 1] Z (EO B7 g A c l (7+B7.toNat) (Aa (psC A l.length c 7 ((stM [106,111,105,110] t o [] [] ro ex0).cells (pM none 0 none 0))) (7+B7.toNat)) Z)):=λ{ro} Z b h1 h2 h3=>by
       have:=CG g A c l 7 (psC A l.length c 7 ((stM [106,111,105,110] t o [] [] ro ex0).cells (pM none 0 none 0))) [79,78] b 1 Z (by decide) h1 h2 h3;rw[hB7]at this;exact this
      have HN8:Hid (∀{ro:List UInt8} (Z:World),PsS g A c l (7+true.toNat) (psC A l.length c (7+true.toNat) ((stM [106,111,105,110] t o [] [] ro ex0).cells (pM none 0 none 0))) Z->Calls Tryz.prog 161 #[.pointer (some ⟨g,0,none⟩),.pointer (some ⟨g,7,none⟩)] Z (IJ ON8 7 g A c l 8 (psC A l.length c 8 ((stM [106,111,105,110] t o [] [] ro ex0).cells (pM none 0 none 0))) Z)):=λ{ro} Z h1=>by
       rw[<-hON8];exact Bv g A c l 8 _ 7 [] Z (by decide) h1 (by decide) rfl HPE9.out.s
      have HS0:Hid (∀Z:World,Below w19.heap.size w19 Z->Z.cell? ⟨pv,0,none⟩=some (.pointer (some ⟨g,0,none⟩))):=λZ hz=>HPV.out Z (hcw.trans (But.of_below hz))
      have HR:=Lib.hid hR;have HL6:Hid (∀s,ON6=some s->s.length<=1000):=λs h=>HNL.out 6 s (hON6.trans h)
      have HL8:Hid (∀s,ON8=some s->s.length<=1000/\9<=l.length):=λs h=>⟨HNL.out 8 s (hON8.trans h),Dz (hON8.trans h)⟩
      clear hR hB5 hON6 hB7 hON8;go_upto_region 15 with fail
      clear xp x2;refine wp_region_held_drew (S:=(λZ=>Z.cell? ⟨pv,0,none⟩=some (.pointer (some ⟨g,0,none⟩)))) (by kernel_rfl) ?_ (λhHeld=>?_)
      ·try dsimp only
       first|exact HS0.out _ (by exact bl)|exact HPV.out _ (hcw.trans (hc22.trans (But.of_below (by exact bl))))|exact HPV.out _ (hcw.trans (hc29.trans (But.of_below (by exact bl))))|exact HPV.out _ (hcw.trans (hc34.trans (But.of_below (by exact bl))))|exact HPV.out _ (hcw.trans (hc42.trans (But.of_below (by exact bl))))
      refine tS [0] (tC ?_);refine ap (tN ?_);refine rdy 1 λK hK=>?_
      go_simp
      skip
      go_wp2_with fail;refine hK.out _ _ ?_ (λhHeld=>?_)
      ·try dsimp only
       first|exact HS0.out _ (by exact bl)|exact HPV.out _ (hcw.trans (hc22.trans (But.of_below (by exact bl))))|exact HPV.out _ (hcw.trans (hc29.trans (But.of_below (by exact bl))))|exact HPV.out _ (hcw.trans (hc34.trans (But.of_below (by exact bl))))|exact HPV.out _ (hcw.trans (hc42.trans (But.of_below (by exact bl))))
      clear hK K;refine ap ?_;cases B5 with
      |false=>
       have hR:R=none:=HR.out.symm;subst hR;refine rdy 2 λK hK=>?_
       go_simp;refine(HW5.out _ _ (PsS.below HP.out (by exact bl)) ((Blk.new' _ _ _ _ rfl).cell 0) (by omega)).mono ?_<;>rintro en w22 ⟨rfl,hP22,hb22⟩<;>have hc22:But g w19 w22:=But.trans (But.of_below (by exact bl)) hb22<;>(try rw[Ad]at hP22)<;>have HP22:=Lib.hid hP22<;>have hg22:g<w22.heap.size:=hP22.blk.lt<;>clear hP22 hb22
       go_wp2_with fail;refine hK.out _ _ ?_ (λhHeld=>?_)
       ·try dsimp only
        first|exact HS0.out _ (by exact bl)|exact HPV.out _ (hcw.trans (hc22.trans (But.of_below (by exact bl))))|exact HPV.out _ (hcw.trans (hc29.trans (But.of_below (by exact bl))))|exact HPV.out _ (hcw.trans (hc34.trans (But.of_below (by exact bl))))|exact HPV.out _ (hcw.trans (hc42.trans (But.of_below (by exact bl))))
       clear hK K;refine ap ?_;refine tS [3] (tC ?_);refine ap (tN ?_);refine tS [4,5,6,7,8,9] ?_;iterate 6(refine tX ?_;refine ap ?_)
       refine tN ?_;refine tS [10,11] ?_;iterate 2(refine tC ?_;refine ap ?_)
       refine tN ?_;refine tS [12,13,14] ?_;iterate 3(refine tX ?_;refine ap ?_)
       refine tN ?_;refine tS [15,16] ?_;iterate 2(refine tC ?_;refine ap ?_)
       refine tN ?_;refine tS [17,18,19,20,21,22] ?_;iterate 6(refine tX ?_;refine ap ?_)
       refine tN ?_;refine tS [23,24] ?_;iterate 2(refine tC ?_;refine ap ?_)
       refine tN ?_;refine wpAnyH_done (by kernel_rfl) ?_ _;have HBN:=Lib.hid (HB19.out.trans hc22);go_wp2_with fail;go_ret;exact⟨rfl,HBN.out⟩
      |true=>
       skip
       refine rdy 2 λK hK=>?_
       go_simp;refine(HW5.out _ _ (PsS.below HP.out (by exact bl)) ((Blk.new' _ _ _ _ rfl).cell 0) (by omega)).mono ?_<;>rintro en w22 ⟨rfl,hP22,hb22⟩<;>have hc22:But g w19 w22:=But.trans (But.of_below (by exact bl)) hb22<;>(try rw[Ad]at hP22)<;>have HP22:=Lib.hid hP22<;>have hg22:g<w22.heap.size:=hP22.blk.lt<;>clear hP22 hb22
       go_wp2_with fail;refine hK.out _ _ ?_ (λhHeld=>?_)
       ·try dsimp only
        first|exact HS0.out _ (by exact bl)|exact HPV.out _ (hcw.trans (hc22.trans (But.of_below (by exact bl))))|exact HPV.out _ (hcw.trans (hc29.trans (But.of_below (by exact bl))))|exact HPV.out _ (hcw.trans (hc34.trans (But.of_below (by exact bl))))|exact HPV.out _ (hcw.trans (hc42.trans (But.of_below (by exact bl))))
       clear hK K;refine ap ?_;refine tS [3,4,5,6,7,8] ?_;iterate 6(refine tC ?_;refine ap ?_)
       refine tN ?_;cases ON6 with
       |none=>
        have hR:R=none:=HR.out.symm;subst hR;refine rdy 9 λK hK=>?_
        go_simp;refine(HN6.out _ (PsS.below HP22.out (by exact bl))).mono ?_<;>rintro en w29 ⟨rfl,hP29,hb29⟩<;>have hc29:But g w19 w29:=But.trans (But.trans hc22 (But.of_below (by exact bl))) hb29<;>(try rw[NV,Ad]at hP29)<;>have HP29:=Lib.hid hP29<;>have hg29:g<w29.heap.size:=hP29.blk.lt<;>clear hP29 hb29
        go_wp2_with fail;refine hK.out _ _ ?_ (λhHeld=>?_)
        ·try dsimp only
         first|exact HS0.out _ (by exact bl)|exact HPV.out _ (hcw.trans (hc22.trans (But.of_below (by exact bl))))|exact HPV.out _ (hcw.trans (hc29.trans (But.of_below (by exact bl))))|exact HPV.out _ (hcw.trans (hc34.trans (But.of_below (by exact bl))))|exact HPV.out _ (hcw.trans (hc42.trans (But.of_below (by exact bl))))
        clear hK K;refine ap ?_;refine tS [10,11] ?_;iterate 2(refine tC ?_;refine ap ?_)
        refine tN ?_;refine tS [12,13,14] ?_;iterate 3(refine tX ?_;refine ap ?_)
        refine tN ?_;refine tS [15,16] ?_;iterate 2(refine tC ?_;refine ap ?_)
        refine tN ?_;refine tS [17,18,19,20,21,22] ?_;iterate 6(refine tX ?_;refine ap ?_)
        refine tN ?_;refine tS [23,24] ?_;iterate 2(refine tC ?_;refine ap ?_)
        refine tN ?_;refine wpAnyH_done (by kernel_rfl) ?_ _;have HBN:=Lib.hid (HB19.out.trans hc29);go_wp2_with fail;go_ret;exact⟨rfl,HBN.out⟩
       |some ro=>
        skip
        refine rdy 9 λK hK=>?_
        go_simp;refine(HN6.out _ (PsS.below HP22.out (by exact bl))).mono ?_<;>rintro en w29 ⟨rfl,hP29,hb29⟩<;>have hc29:But g w19 w29:=But.trans (But.trans hc22 (But.of_below (by exact bl))) hb29<;>(try rw[NV,Ad]at hP29)<;>have HP29:=Lib.hid hP29<;>have hg29:g<w29.heap.size:=hP29.blk.lt<;>clear hP29 hb29
        go_wp2_with fail;refine hK.out _ _ ?_ (λhHeld=>?_)
        ·try dsimp only
         first|exact HS0.out _ (by exact bl)|exact HPV.out _ (hcw.trans (hc22.trans (But.of_below (by exact bl))))|exact HPV.out _ (hcw.trans (hc29.trans (But.of_below (by exact bl))))|exact HPV.out _ (hcw.trans (hc34.trans (But.of_below (by exact bl))))|exact HPV.out _ (hcw.trans (hc42.trans (But.of_below (by exact bl))))
        clear hK K;refine ap ?_;refine tS [10,11,12] ?_;iterate 3(refine tC ?_;refine ap ?_)
        refine tN ?_;refine rdy 13 λK hK=>?_
        go_simp
        skip
        go_wp2_with fail;refine hK.out _ _ ?_ (λhHeld=>?_)
        ·try dsimp only
         first|exact HS0.out _ (by exact bl)|exact HPV.out _ (hcw.trans (hc22.trans (But.of_below (by exact bl))))|exact HPV.out _ (hcw.trans (hc29.trans (But.of_below (by exact bl))))|exact HPV.out _ (hcw.trans (hc34.trans (But.of_below (by exact bl))))|exact HPV.out _ (hcw.trans (hc42.trans (But.of_below (by exact bl))))
        clear hK K;refine ap ?_;cases B7 with
        |false=>
         have hR:R=none:=HR.out.symm;subst hR;refine rdy 14 λK hK=>?_
         go_simp;refine(HW7.out _ _ (PsS.below HP29.out (by exact bl)) ((Blk.new' _ _ _ _ rfl).cell 0) (by omega)).mono ?_<;>rintro en w34 ⟨rfl,hP34,hb34⟩<;>have hc34:But g w19 w34:=But.trans (But.trans hc29 (But.of_below (by exact bl))) hb34<;>(try rw[Ad]at hP34)<;>have HP34:=Lib.hid hP34<;>have hg34:g<w34.heap.size:=hP34.blk.lt<;>clear hP34 hb34
         go_wp2_with fail;refine hK.out _ _ ?_ (λhHeld=>?_)
         ·try dsimp only
          first|exact HS0.out _ (by exact bl)|exact HPV.out _ (hcw.trans (hc22.trans (But.of_below (by exact bl))))|exact HPV.out _ (hcw.trans (hc29.trans (But.of_below (by exact bl))))|exact HPV.out _ (hcw.trans (hc34.trans (But.of_below (by exact bl))))|exact HPV.out _ (hcw.trans (hc42.trans (But.of_below (by exact bl))))
         clear hK K;refine ap ?_;refine tS [15,16] ?_;iterate 2(refine tC ?_;refine ap ?_)
         refine tN ?_;refine tS [17,18,19,20,21,22] ?_;iterate 6(refine tX ?_;refine ap ?_)
         refine tN ?_;refine tS [23,24] ?_;iterate 2(refine tC ?_;refine ap ?_)
         refine tN ?_;refine wpAnyH_done (by kernel_rfl) ?_ _;have HBN:=Lib.hid (HB19.out.trans hc34);go_wp2_with fail;go_ret;exact⟨rfl,HBN.out⟩
        |true=>
         skip
         refine rdy 14 λK hK=>?_
         go_simp;refine(HW7.out _ _ (PsS.below HP29.out (by exact bl)) ((Blk.new' _ _ _ _ rfl).cell 0) (by omega)).mono ?_<;>rintro en w34 ⟨rfl,hP34,hb34⟩<;>have hc34:But g w19 w34:=But.trans (But.trans hc29 (But.of_below (by exact bl))) hb34<;>(try rw[Ad]at hP34)<;>have HP34:=Lib.hid hP34<;>have hg34:g<w34.heap.size:=hP34.blk.lt<;>clear hP34 hb34
         go_wp2_with fail;refine hK.out _ _ ?_ (λhHeld=>?_)
         ·try dsimp only
          first|exact HS0.out _ (by exact bl)|exact HPV.out _ (hcw.trans (hc22.trans (But.of_below (by exact bl))))|exact HPV.out _ (hcw.trans (hc29.trans (But.of_below (by exact bl))))|exact HPV.out _ (hcw.trans (hc34.trans (But.of_below (by exact bl))))|exact HPV.out _ (hcw.trans (hc42.trans (But.of_below (by exact bl))))
         clear hK K;refine ap ?_;refine tS [15,16,17,18,19,20,21] ?_;iterate 7(refine tC ?_;refine ap ?_)
         refine tN ?_;cases ON8 with
         |none=>
          have hR:R=none:=HR.out.symm;subst hR;refine rdy 22 λK hK=>?_
          go_simp;refine(HN8.out _ (PsS.below HP34.out (by exact bl))).mono ?_<;>rintro en w42 ⟨rfl,hP42,hb42⟩<;>have hc42:But g w19 w42:=But.trans (But.trans hc34 (But.of_below (by exact bl))) hb42<;>(try rw[Pz,Ad]at hP42)<;>have HP42:=Lib.hid hP42<;>have hg42:g<w42.heap.size:=hP42.blk.lt<;>clear hP42 hb42
          go_wp2_with fail;refine hK.out _ _ ?_ (λhHeld=>?_)
          ·try dsimp only
           first|exact HS0.out _ (by exact bl)|exact HPV.out _ (hcw.trans (hc22.trans (But.of_below (by exact bl))))|exact HPV.out _ (hcw.trans (hc29.trans (But.of_below (by exact bl))))|exact HPV.out _ (hcw.trans (hc34.trans (But.of_below (by exact bl))))|exact HPV.out _ (hcw.trans (hc42.trans (But.of_below (by exact bl))))
          clear hK K;refine ap ?_;refine tS [23,24] ?_;iterate 2(refine tC ?_;refine ap ?_)
          refine tN ?_;refine wpAnyH_done (by kernel_rfl) ?_ _;have HBN:=Lib.hid (HB19.out.trans hc42);go_wp2_with fail;go_ret;exact⟨rfl,HBN.out⟩
         |some k=>
          have HRC:Hid (((Aw l 9).map λq=>(stM [106,111,105,110] t o [] k ro q.1,q.2))=R):=HR.out;have hlr:=HL6.out _ rfl;obtain⟨hlk,h9l⟩:=HL8.out _ rfl;refine rdy 22 λK hK=>?_
          go_simp;refine(HN8.out _ (PsS.below HP34.out (by exact bl))).mono ?_<;>rintro en w42 ⟨rfl,hP42,hb42⟩<;>have hc42:But g w19 w42:=But.trans (But.trans hc34 (But.of_below (by exact bl))) hb42<;>(try rw[Pz,Ad]at hP42)<;>have HP42:=Lib.hid hP42<;>have hg42:g<w42.heap.size:=hP42.blk.lt<;>clear hP42 hb42
          go_wp2_with fail;refine hK.out _ _ ?_ (λhHeld=>?_)
          ·try dsimp only
           first|exact HS0.out _ (by exact bl)|exact HPV.out _ (hcw.trans (hc22.trans (But.of_below (by exact bl))))|exact HPV.out _ (hcw.trans (hc29.trans (But.of_below (by exact bl))))|exact HPV.out _ (hcw.trans (hc34.trans (But.of_below (by exact bl))))|exact HPV.out _ (hcw.trans (hc42.trans (But.of_below (by exact bl))))
          clear hK K;refine ap ?_;refine tS [23,24] ?_;iterate 2(refine tC ?_;refine ap ?_)
          refine tN ?_;refine wpAnyH_done (by kernel_rfl) ?_ _;have hP42:PsS g A c l 9 (psC A l.length c 9 ((stM [106,111,105,110] t o [] k ro ex0).cells (pM none 0 none 0))) w42:=HP42.out;have HCK:=Lib.hid (Gn g A c l 9 _ w42 (HPE9.out.but hc42) h9l hP42 (by show 16<=25;decide) (by rw[Fb];rfl));have HBX:=Lib.hid (HB19.out.trans hc42);have xp2:w42.cell? ⟨pv,0,none⟩=some (.pointer (some ⟨g,0,none⟩)):=HPV.out _ (hcw.trans hc42);clear hP42 HP42 HP34 HP29 HP22 HW5 HN6 HW7 HN8 HR hHeld;go_wp2_with fail;refine HCK.out.mono ?_;obtain⟨OC,hOC⟩:∃x,Aw l 9=x:=⟨_,rfl⟩;have hR:=HRC.out;rw[hOC]at hR ⊢;have HRD:=Lib.hid hR;clear hOC hR;intro en w30 hr;cases OC with
          |none=>
           obtain⟨rfl,hb30⟩:=hr;have hR:R=none:=HRD.out.symm;subst hR;have HB30:=Lib.hid (HBX.out.trans hb30);clear hb30 HCK;go_wp2_with fail;go_ret;exact⟨rfl,HB30.out⟩
          |some q=>
           obtain⟨A9,c9,rfl,hP30,hE30,hb30⟩:=hr;have hR:R=some _:=HRD.out.symm;subst hR;have HB30:=Lib.hid (HBX.out.trans hb30);rw[Fb,Ad]at hP30;have HP30:=Lib.hid hP30;have HE30:=Lib.hid (hE30.keep (Q':=λk=>w.heap.size<=k/\k<w30.heap.size) (w':=w30) λk hk=>⟨⟨Nat.le_trans HBX.out.size hk.1,hk.2⟩,λ_=>rfl⟩);have HQ30:=Lib.hid (SQ.nil (A:=none) (Q:=λk=>w.heap.size<=k/\k<w30.heap.size) (w:=w30));clear hb30 HCK hP30 hE30;go_wp2_with fail;go_ret;exact⟨pM none 0 A9 c9,rfl,HP30.out,Pq HQ30.out HE30.out,TU HE30.out (by decide) hct hco hlk hlr (by decide) (λx hx=>by cases hx),HB30.out⟩
  |false=>
   have HR:Hid ((if B3 then QB l else none)=R):=HR.out;have hP1':PsS g A c l 1 (psC A l.length c 1 ((stZ [] []).cells Cj)) w1:=hP1;have HT3:=Lib.hid (Ac g A c l 1 _ [71,82,79,85,80] w1 (by decide) hP1');rw[HB3.out]at HT3;have HB01:=HB1;have hpl01:=hpl1;have xp01:=xp1;clear hP1 hP1' HB1 hpl1;go_wp2_with fail;refine HT3.out.mono ?_;rintro en w1 ⟨rfl,hP1,hb1⟩;rw[Ad]at hP1;have xp1:w1.cell? ⟨pv,0,none⟩=some (.pointer (some ⟨g,0,none⟩)):=(hb1.cell hpl01 hpg 0).trans xp01;have hpl1:pv<w1.heap.size:=Nat.lt_of_lt_of_le hpl01 hb1.size;have HB1:=Lib.hid (HB01.out.trans hb1);clear xp01 HT3 hb1 HB01 hpl01;cases B3 with
   |true=>
    have HR:Hid (QB l=R):=HR.out;have HP1:Hid (PsS g A c l 2 (psC A l.length c 2 ((stZ [] []).cells Cj)) w1):=hP1;clear hP1;have x2:w1.cell? ⟨g,2,none⟩=some (.string ⟨#[]⟩):=HP1.out.blk.cell 2;have f2:=HP1.out.blk.frozen 2;have hgl1:g<w1.heap.size:=HP1.out.blk.lt;obtain⟨wb,hwb⟩:∃x,w1.setCell ⟨g,2,none⟩ (.string ⟨([103,114,111,117,112]:List UInt8).toArray⟩)=x:=⟨_,rfl⟩;have hPb:PsS g A c l 2 (psC A l.length c 2 ((stM [103,114,111,117,112] [] [] [] [] [] ex0).cells (pM none 0 none 0))) wb:=by
     have:=HP1.out.set 2 (Nat.le_refl _) (.string ⟨([103,114,111,117,112]:List UInt8).toArray⟩);rw[hwb,Ha]at this;exact this
    have hbwb:But g w wb:=by rw[<-hwb];exact HB1.out.set 2 _
    have hgb:g<wb.heap.size:=hPb.blk.lt;have hpe:=HPE.out.but hbwb;have HWB:=Lib.hid hwb;have hxb:pv<wb.heap.size:=by rw[<-hwb];simpa using hpl1
    have HPV:Hid (∀Z:World,But g wb Z->Z.cell? ⟨pv,0,none⟩=some (.pointer (some ⟨g,0,none⟩))):=λZ hz=>(hz.cell hxb hpg 0).trans (by rw[<-hwb,World.cell?_setCell_other _ _ _ _ (λe=>hpg (congrArg Addr.block e).symm)];exact xp1)
    have HS0:Hid (∀Z:World,Below wb.heap.size wb Z->Z.cell? ⟨pv,0,none⟩=some (.pointer (some ⟨g,0,none⟩))):=λZ hz=>HPV.out Z (But.of_below hz)
    have HNL:Hid (∀a t,AO l a=some t->t.length<=1000):=λa t ht=>by
     obtain⟨y,hy,rfl⟩:=Bj ht;exact hpe.s y hy
    obtain⟨ON1,hON1⟩:∃x,AO l 2=x:=⟨_,rfl⟩;obtain⟨B3,hB3⟩:∃B,hit l 3 [70,82,79,77]=B:=⟨_,rfl⟩;obtain⟨ON2,hON2⟩:∃x,AO l 4=x:=⟨_,rfl⟩;have HN1:Hid (∀Z:World,Below wb.heap.size wb Z->Calls Tryz.prog 161 #[.pointer (some ⟨g,0,none⟩),.pointer (some ⟨g,3,none⟩)] Z (IJ ON1 3 g A c l 2 (psC A l.length c 2 ((stM [103,114,111,117,112] [] [] [] [] [] ex0).cells (pM none 0 none 0))) Z)):=λZ hz=>by
     rw[<-hON1];exact Bv g A c l 2 _ 3 [] Z (by decide) (hPb.below hz) (by decide) rfl hpe.s
    have HW3:Hid (∀(Z:World) (b:Nat) (cs:Array Value),PsS g A c l 3 cs Z->Z.cell? ⟨b,0,none⟩=some (.string ⟨([70,82,79,77]:List UInt8).toArray⟩)->b≠g->Calls Tryz.prog 160 #[.pointer (some ⟨g,0,none⟩),.slice (some ⟨b,0,none⟩) 1 1] Z (EO B3 g A c l (3+B3.toNat) (Aa cs (3+B3.toNat)) Z)):=λZ b cs h1 h2 h3=>by
     have:=CG g A c l 3 cs [70,82,79,77] b 1 Z (by decide) h1 h2 h3;rw[hB3]at this;exact this
    have HN2:Hid (∀{t:List UInt8} (Z:World),PsS g A c l 4 (psC A l.length c 4 ((stM [103,114,111,117,112] t [] [] [] [] ex0).cells (pM none 0 none 0))) Z->Calls Tryz.prog 161 #[.pointer (some ⟨g,0,none⟩),.pointer (some ⟨g,4,none⟩)] Z (IJ ON2 4 g A c l 4 (psC A l.length c 4 ((stM [103,114,111,117,112] t [] [] [] [] ex0).cells (pM none 0 none 0))) Z)):=λ{t} Z h1=>by
     rw[<-hON2];exact Bv g A c l 4 _ 4 [] Z (by decide) h1 (by decide) rfl hpe.s
    have HM4:Hid (∀{t:List UInt8} (Z:World),PsS g A c l (3+true.toNat) (Aa (Aa ((psC A l.length c 2 ((stM [103,114,111,117,112] [] [] [] [] [] ex0).cells (pM none 0 none 0))).setIfInBounds 3 (.string ⟨t.toArray⟩)) (2+1)) (3+true.toNat)) Z->PsS g A c l 4 (psC A l.length c 4 ((stM [103,114,111,117,112] t [] [] [] [] ex0).cells (pM none 0 none 0))) Z):=λ{t} Z h=>by
     rw[Iw,Ad,Ad]at h;exact h
    have hR:((ON1.bind λt=>if B3 then ON2.map λo=>(t,o)else none).bind λh=>if hit l 5 [66,89]then(AO l 6).bind λx=>if hit l 7 [83,85,77]then(AO l 8).bind λy=>(Aw l 9).map λq=>(stM [103,114,111,117,112] h.1 h.2 [x,y] [] [] q.1,q.2)else none else none)=R:=by
     rw[<-HR.out,<-hON1,<-hB3,<-hON2];rfl
    have hL1:∀t,ON1=some t->t.length<=1000:=λt ht=>HNL.out 2 t (hON1.trans ht)
    have hL2:∀t,ON2=some t->t.length<=1000/\5<=l.length:=λt ht=>⟨HNL.out 4 t (hON2.trans ht),Dz (hON2.trans ht)⟩
    have HR:=Lib.hid hR;have HL1:=Lib.hid hL1;have HL2:=Lib.hid hL2;have HBW:=Lib.hid hbwb;have HPEB:=Lib.hid hpe;clear hR hL1 hL2 hON1 hB3 hON2 hwb hPb hbwb hpe;go_upto_region 8 with fail
    rw[show World.setCell w1 _ _=wb from HWB.out];clear HWB x2 f2 xp1;refine wp_region_held_drew (S:=(λZ=>Z.cell? ⟨pv,0,none⟩=some (.pointer (some ⟨g,0,none⟩)))) (by kernel_rfl) ?_ (λhHeld=>?_)
    ·try dsimp only
     first|exact HS0.out _ (by exact bl)|exact HPV.out _ (hc5.trans (But.of_below (by exact bl)))|exact HPV.out _ (hc10.trans (But.of_below (by exact bl)))|exact HPV.out _ (hc19.trans (But.of_below (by exact bl)))
    refine tS [0,1,2,3,4] ?_;iterate 5(refine tC ?_;refine ap ?_)
    refine tN ?_;cases ON1 with
    |none=>
     have hR:R=none:=HR.out.symm;subst hR;refine rdy 5 λK hK=>?_
     go_simp;refine(HN1.out _ (by exact bl)).mono ?_<;>rintro en w5 ⟨rfl,hP5,hb5⟩<;>have hc5:But g wb w5:=But.trans (But.of_below (by exact bl)) hb5<;>have HP5:=Lib.hid hP5<;>have hg5:g<w5.heap.size:=hP5.blk.lt<;>clear hP5 hb5
     go_wp2_with fail;refine hK.out _ _ ?_ (λhHeld=>?_)
     ·try dsimp only
      first|exact HS0.out _ (by exact bl)|exact HPV.out _ (hc5.trans (But.of_below (by exact bl)))|exact HPV.out _ (hc10.trans (But.of_below (by exact bl)))|exact HPV.out _ (hc19.trans (But.of_below (by exact bl)))
     clear hK K;refine ap ?_;refine tS [6,7] ?_;iterate 2(refine tC ?_;refine ap ?_)
     refine tN ?_;refine tS [8,9,10,11] ?_;iterate 4(refine tX ?_;refine ap ?_)
     refine tN ?_;refine tS [12,13] ?_;iterate 2(refine tC ?_;refine ap ?_)
     refine tN ?_;refine tS [14,15,16,17,18,19,20] ?_;iterate 7(refine tX ?_;refine ap ?_)
     refine tN ?_;refine tS [21] (tC ?_);refine ap (tN ?_);refine wpAnyH_done (by kernel_rfl) ?_ _;go_wp2_with fail;go_ret;exact⟨rfl,HBW.out.trans hc5⟩
    |some t=>
     skip
     refine rdy 5 λK hK=>?_
     go_simp;refine(HN1.out _ (by exact bl)).mono ?_<;>rintro en w5 ⟨rfl,hP5,hb5⟩<;>have hc5:But g wb w5:=But.trans (But.of_below (by exact bl)) hb5<;>have HP5:=Lib.hid hP5<;>have hg5:g<w5.heap.size:=hP5.blk.lt<;>clear hP5 hb5
     go_wp2_with fail;refine hK.out _ _ ?_ (λhHeld=>?_)
     ·try dsimp only
      first|exact HS0.out _ (by exact bl)|exact HPV.out _ (hc5.trans (But.of_below (by exact bl)))|exact HPV.out _ (hc10.trans (But.of_below (by exact bl)))|exact HPV.out _ (hc19.trans (But.of_below (by exact bl)))
     clear hK K;refine ap ?_;refine tS [6,7,8] ?_;iterate 3(refine tC ?_;refine ap ?_)
     refine tN ?_;refine rdy 9 λK hK=>?_
     go_simp
     skip
     go_wp2_with fail;refine hK.out _ _ ?_ (λhHeld=>?_)
     ·try dsimp only
      first|exact HS0.out _ (by exact bl)|exact HPV.out _ (hc5.trans (But.of_below (by exact bl)))|exact HPV.out _ (hc10.trans (But.of_below (by exact bl)))|exact HPV.out _ (hc19.trans (But.of_below (by exact bl)))
     clear hK K;refine ap ?_;cases B3 with
     |false=>
      have hR:R=none:=HR.out.symm;subst hR;refine rdy 10 λK hK=>?_
      go_simp;refine(HW3.out _ _ _ (PsS.below HP5.out (by exact bl)) ((Blk.new' _ _ _ _ rfl).cell 0) (by omega)).mono ?_<;>rintro en w10 ⟨rfl,hP10,hb10⟩<;>have hc10:But g wb w10:=But.trans (But.trans hc5 (But.of_below (by exact bl))) hb10<;>have HP10:=Lib.hid hP10<;>have hg10:g<w10.heap.size:=hP10.blk.lt<;>clear hP10 hb10
      go_wp2_with fail;refine hK.out _ _ ?_ (λhHeld=>?_)
      ·try dsimp only
       first|exact HS0.out _ (by exact bl)|exact HPV.out _ (hc5.trans (But.of_below (by exact bl)))|exact HPV.out _ (hc10.trans (But.of_below (by exact bl)))|exact HPV.out _ (hc19.trans (But.of_below (by exact bl)))
      clear hK K;refine ap ?_;refine tS [11,12,13] ?_;iterate 3(refine tC ?_;refine ap ?_)
      refine tN ?_;refine tS [14,15,16,17,18,19,20] ?_;iterate 7(refine tX ?_;refine ap ?_)
      refine tN ?_;refine tS [21] (tC ?_);refine ap (tN ?_);refine wpAnyH_done (by kernel_rfl) ?_ _;go_wp2_with fail;go_ret;exact⟨rfl,HBW.out.trans hc10⟩
     |true=>
      skip
      refine rdy 10 λK hK=>?_
      go_simp;refine(HW3.out _ _ _ (PsS.below HP5.out (by exact bl)) ((Blk.new' _ _ _ _ rfl).cell 0) (by omega)).mono ?_<;>rintro en w10 ⟨rfl,hP10,hb10⟩<;>have hc10:But g wb w10:=But.trans (But.trans hc5 (But.of_below (by exact bl))) hb10<;>have HP10:=Lib.hid hP10<;>have hg10:g<w10.heap.size:=hP10.blk.lt<;>clear hP10 hb10
      go_wp2_with fail;refine hK.out _ _ ?_ (λhHeld=>?_)
      ·try dsimp only
       first|exact HS0.out _ (by exact bl)|exact HPV.out _ (hc5.trans (But.of_below (by exact bl)))|exact HPV.out _ (hc10.trans (But.of_below (by exact bl)))|exact HPV.out _ (hc19.trans (But.of_below (by exact bl)))
      clear hK K;refine ap ?_;refine tS [11,12,13,14,15,16,17,18] ?_;iterate 8(refine tC ?_;refine ap ?_)
      refine tN ?_;cases ON2 with
      |none=>
       have hR:R=none:=HR.out.symm;subst hR;refine rdy 19 λK hK=>?_
       go_simp;refine(HN2.out _ (HM4.out _ (PsS.below HP10.out (by exact bl)))).mono ?_<;>rintro en w19 ⟨rfl,hP19,hb19⟩<;>have hc19:But g wb w19:=But.trans (But.trans hc10 (But.of_below (by exact bl))) hb19<;>have HP19:=Lib.hid hP19<;>have hg19:g<w19.heap.size:=hP19.blk.lt<;>clear hP19 hb19
       go_wp2_with fail;refine hK.out _ _ ?_ (λhHeld=>?_)
       ·try dsimp only
        first|exact HS0.out _ (by exact bl)|exact HPV.out _ (hc5.trans (But.of_below (by exact bl)))|exact HPV.out _ (hc10.trans (But.of_below (by exact bl)))|exact HPV.out _ (hc19.trans (But.of_below (by exact bl)))
       clear hK K;refine ap ?_;refine tS [20,21] ?_;iterate 2(refine tC ?_;refine ap ?_)
       refine tN ?_;refine wpAnyH_done (by kernel_rfl) ?_ _;go_wp2_with fail;go_ret;exact⟨rfl,HBW.out.trans hc19⟩
      |some o=>
       have HR:Hid ((λh:List UInt8×List UInt8=>if hit l 5 [66,89]then(AO l 6).bind λx=>if hit l 7 [83,85,77]then(AO l 8).bind λy=>(Aw l 9).map λq=>(stM [103,114,111,117,112] h.1 h.2 [x,y] [] [] q.1,q.2)else none else none) (t,o)=R):=HR.out;refine rdy 19 λK hK=>?_
       go_simp;refine(HN2.out _ (HM4.out _ (PsS.below HP10.out (by exact bl)))).mono ?_<;>rintro en w19 ⟨rfl,hP19,hb19⟩<;>have hc19:But g wb w19:=But.trans (But.trans hc10 (But.of_below (by exact bl))) hb19<;>have HP19:=Lib.hid hP19<;>have hg19:g<w19.heap.size:=hP19.blk.lt<;>clear hP19 hb19
       go_wp2_with fail;refine hK.out _ _ ?_ (λhHeld=>?_)
       ·try dsimp only
        first|exact HS0.out _ (by exact bl)|exact HPV.out _ (hc5.trans (But.of_below (by exact bl)))|exact HPV.out _ (hc10.trans (But.of_below (by exact bl)))|exact HPV.out _ (hc19.trans (But.of_below (by exact bl)))
       clear hK K;refine ap ?_;refine tS [20,21] ?_;iterate 2(refine tC ?_;refine ap ?_)
       refine tN ?_;refine wpAnyH_done (by kernel_rfl) ?_ _;have hP:PsS g A c l 5 (psC A l.length c 5 ((stM [103,114,111,117,112] t o [] [] [] ex0).cells (pM none 0 none 0))) w19:=by
        have:=HP19.out;rw[Tt,Ad]at this;exact this
       have x2:w19.cell? ⟨g,2,none⟩=some (.string ⟨([103,114,111,117,112]:List UInt8).toArray⟩):=hP.blk.cell 2;have xp:w19.cell? ⟨pv,0,none⟩=some (.pointer (some ⟨g,0,none⟩)):=HPV.out _ hc19;have hct:t.length<=1000:=HL1.out _ rfl;have hco:=(HL2.out _ rfl).1;have h5l:=(HL2.out _ rfl).2;have hB19:=HBW.out.trans hc19;have hcw:=hc19;have hpe:=HPEB.out.but hc19;have HP:=Lib.hid hP;have HB19:=Lib.hid hB19;have HPE9:=Lib.hid hpe;clear hP hB19 hpe HP19 HP10 HP5 HN1 HW3 HN2 HM4 hHeld hc5 hc10;obtain⟨w20,hw20⟩:∃x,w19.alloc (.cells #[.string ⟨([66,89]:List UInt8).toArray⟩] 9)=x:=⟨_,rfl⟩;have k20:Blk w20 w19.heap.size 9 #[.string ⟨([66,89]:List UInt8).toArray⟩]:=by rw[<-hw20];exact Blk.new _ _ _
       have hb20:Below w19.heap.size w19 w20:=by rw[<-hw20];exact bl
       have HW5:=Lib.hid (CG g A c l 5 _ [66,89] w19.heap.size 1 w20 (by decide) (HP.out.below hb20) (k20.cell 0) (by omega));rw[Ad]at HW5;obtain⟨B5,hB5⟩:∃B,hit l 5 [66,89]=B:=⟨_,rfl⟩;obtain⟨B7,hB7⟩:∃B,hit l 7 [83,85,77]=B:=⟨_,rfl⟩;have hR:(if B5 then(AO l 6).bind λx=>if B7 then(AO l 8).bind λy=>(Aw l 9).map λq=>(stM [103,114,111,117,112] t o [x,y] [] [] q.1,q.2)else none else none)=R:=by
        rw[<-HR.out,<-hB5,<-hB7]
       have H6:Hid (B5=true->6<=l.length):=λh=>DZ (hB5.trans h)
       have H8:Hid (B7=true->8<=l.length):=λh=>DZ (hB7.trans h)
       rw[hB5]at HW5;have HR:=Lib.hid hR;have HW20:=Lib.hid hw20;have HB20:=Lib.hid (But.of_below (p:=g) hb20);have hn:=HPE9.out.n;clear hR hB5 hw20 k20 hb20;go_wp2_with fail;rw[show World.alloc w19 _=w20 from HW20.out];refine HW5.out.mono ?_;rintro en w21 ⟨rfl,hP21,hb21⟩;have HB21:=Lib.hid (HB20.out.trans hb21);have xp21:w21.cell? ⟨pv,0,none⟩=some (.pointer (some ⟨g,0,none⟩)):=HPV.out _ (hcw.trans HB21.out);clear hb21 HW5 xp x2;cases B5 with
       |false=>
        have hR:R=none:=HR.out.symm;subst hR;clear hP21;have HBN:=Lib.hid (HB19.out.trans HB21.out);go_wp2_with fail;go_ret;exact⟨rfl,HBN.out⟩
       |true=>
        have hP21':PsS g A c l 6 (psC A l.length c 6 ((stM [103,114,111,117,112] t o [] [] [] ex0).cells (pM none 0 none 0))) w21:=hP21;have hg21:=hP21.blk.lt;have HK1:=Lib.hid (Jr g A c l 6 (psC A l.length c 6 ((stM [103,114,111,117,112] t o [] [] [] ex0).cells (pM none 0 none 0))) _ [] w21 w21 (HPE9.out.but HB21.out) (H6.out rfl) hP21' hg21 (But.refl _ _) (by decide) (by show 5<25;decide) ⟨none,0,6,by rw[JX,Ad];rfl,World.ownsRow_nil _ _ _ _,(λv hv=>by cases hv),Nat.le_refl _⟩);have HR:Hid (((AO l 6).bind λx=>if B7 then(AO l 8).bind λy=>(Aw l 9).map λq=>(stM [103,114,111,117,112] t o [x,y] [] [] q.1,q.2)else none)=R):=HR.out;obtain⟨ON6,hON6⟩:∃x,AO l 6=x:=⟨_,rfl⟩;rw[hON6]at HK1 HR;have HL6:Hid (∀s,ON6=some s->7<=l.length):=λs h=>Dz (hON6.trans h)
        clear hP21 hP21' hON6;go_wp2_with fail;refine HK1.out.mono ?_;intro en w22 hr;cases ON6 with
        |none=>
         obtain⟨rfl,hb22⟩:=hr;have hR:R=none:=HR.out.symm;subst hR;have HB22:=Lib.hid (HB21.out.trans hb22);clear hb22 HK1;have HBN:=Lib.hid (HB19.out.trans HB22.out);go_wp2_with fail;go_ret;exact⟨rfl,HBN.out⟩
        |some n1=>
         obtain⟨rfl,cs22,hP22,hK22,hb22⟩:=hr;have HR:Hid ((if B7 then(AO l 8).bind λy=>(Aw l 9).map λq=>(stM [103,114,111,117,112] t o [n1,y] [] [] q.1,q.2)else none)=R):=HR.out;have HB22:=Lib.hid (HB21.out.trans hb22);have xp22:w22.cell? ⟨pv,0,none⟩=some (.pointer (some ⟨g,0,none⟩)):=HPV.out _ (hcw.trans HB22.out);obtain⟨w23,hw23⟩:∃x,w22.alloc (.cells #[.string ⟨([83,85,77]:List UInt8).toArray⟩] 9)=x:=⟨_,rfl⟩;have k23:Blk w23 w22.heap.size 9 #[.string ⟨([83,85,77]:List UInt8).toArray⟩]:=by rw[<-hw23];exact Blk.new _ _ _
         have hb23:Below w22.heap.size w22 w23:=by rw[<-hw23];exact bl
         have hg22:=hP22.blk.lt;have HW7:=Lib.hid (CG g A c l 7 cs22 [83,85,77] w22.heap.size 1 w23 (by decide) (hP22.below hb23) (k23.cell 0) (by omega));rw[hB7]at HW7;have HW23:=Lib.hid hw23;have HB23:=Lib.hid (But.of_below (p:=g) hb23);have HB2122:=Lib.hid hb22;have HK22:=Lib.hid hK22;clear hw23 k23 hb23 hb22 hP22 hK22 HK1 xp21;go_wp2_with fail;rw[show World.alloc w22 _=w23 from HW23.out];refine HW7.out.mono ?_;rintro en w24 ⟨rfl,hP24,hb24⟩;have HB2224:=Lib.hid (HB23.out.trans hb24);have HB24:=Lib.hid (HB2122.out.trans HB2224.out);have xp24:w24.cell? ⟨pv,0,none⟩=some (.pointer (some ⟨g,0,none⟩)):=HPV.out _ (hcw.trans (HB21.out.trans HB24.out));clear hb24 HW7 xp22;cases B7 with
         |false=>
          have hR:R=none:=HR.out.symm;subst hR;clear hP24;have HBN:=Lib.hid (HB19.out.trans (HB21.out.trans HB24.out));go_wp2_with fail;go_ret;exact⟨rfl,HBN.out⟩
         |true=>
          have HR:Hid (((AO l 8).bind λy=>(Aw l 9).map λq=>(stM [103,114,111,117,112] t o [n1,y] [] [] q.1,q.2))=R):=HR.out;have hP24':PsS g A c l 8 (Aa cs22 8) w24:=hP24;have HK2:=Lib.hid (Jr g A c l 8 (psC A l.length c 6 ((stM [103,114,111,117,112] t o [] [] [] ex0).cells (pM none 0 none 0))) _ [n1] w21 w24 (HPE9.out.but (HB21.out.trans HB24.out)) (H8.out rfl) hP24' hg21 HB24.out (by show 1<=990;decide) (by show 5<25;decide) (KL.stay hg21 _ _ _ _ 8 HK22.out HB2224.out));obtain⟨ON8,hON8⟩:∃x,AO l 8=x:=⟨_,rfl⟩;rw[hON8]at HK2 HR;have HL8:Hid (∀s,ON8=some s->9<=l.length):=λs h=>Dz (hON8.trans h)
          clear hP24 hP24' hON8;go_wp2_with fail;refine HK2.out.mono ?_;intro en w25 hr;cases ON8 with
          |none=>
           obtain⟨rfl,hb25⟩:=hr;have hR:R=none:=HR.out.symm;subst hR;have HB25:=Lib.hid (HB21.out.trans hb25);clear hb25 HK2;have HBN:=Lib.hid (HB19.out.trans HB25.out);go_wp2_with fail;go_ret;exact⟨rfl,HBN.out⟩
          |some n2=>
           obtain⟨rfl,cs25,hP25,⟨A7,c7,b7,hcs,hown,hfit,hsz⟩,hb25⟩:=hr;have HRC:Hid (((Aw l 9).map λq=>(stM [103,114,111,117,112] t o [n1,n2] [] [] q.1,q.2))=R):=HR.out;have hP25':PsS g A c l 9 (psC A l.length c 9 ((stM [103,114,111,117,112] t o [n1,n2] [] [] ex0).cells (pM A7 c7 none 0))) w25:=by
            have h1:=hP25.self;rw[<-h1,hcs,AQ,JX,Ad]at hP25;exact hP25
           have hc25:=HB21.out.trans hb25;have HCK:=Lib.hid (Gn g A c l 9 _ w25 (HPE9.out.but hc25) (HL8.out _ rfl) hP25' (by show 16<=25;decide) (by rw[Fb];rfl));have HBX:=Lib.hid (HB19.out.trans hc25);obtain⟨A8,c8,he,-,-,hsq⟩:=SQ.own hown
           injection he with e1 e2 e3
           subst e1;have HSQ:=Lib.hid (hsq.keep (Q':=λk=>w21.heap.size<=k/\k<w25.heap.size) (w':=w25) λk hk=>⟨hk,λ_=>rfl⟩);have HFIT:=Lib.hid hfit;have xp25:w25.cell? ⟨pv,0,none⟩=some (.pointer (some ⟨g,0,none⟩)):=HPV.out _ (hcw.trans hc25);have h21:w.heap.size<=w21.heap.size:=Nat.le_trans HB19.out.size HB21.out.size;clear hP25 hP25' hown hsq hcs hfit hb25 hc25 HK2 HR xp24 e2 e3;go_wp2_with fail;refine HCK.out.mono ?_;obtain⟨OC,hOC⟩:∃x,Aw l 9=x:=⟨_,rfl⟩;have hR:=HRC.out;rw[hOC]at hR ⊢;have HRD:=Lib.hid hR;clear hOC hR;intro en w30 hr;cases OC with
           |none=>
            obtain⟨rfl,hb30⟩:=hr;have hR:R=none:=HRD.out.symm;subst hR;have HB30:=Lib.hid (HBX.out.trans hb30);clear hb30 HCK;go_wp2_with fail;go_ret;exact⟨rfl,HB30.out⟩
           |some q=>
            obtain⟨A9,c9,rfl,hP30,hE30,hb30⟩:=hr;have hR:R=some _:=HRD.out.symm;subst hR;have HB30:=Lib.hid (HBX.out.trans hb30);rw[Fb,Ad]at hP30;have HP30:=Lib.hid hP30;have HE30:=Lib.hid (hE30.keep (Q':=λk=>w.heap.size<=k/\k<w30.heap.size) (w':=w30) λk hk=>⟨⟨Nat.le_trans HBX.out.size hk.1,hk.2⟩,λ_=>rfl⟩);have HQ30:=Lib.hid (HSQ.out.keep (Q':=λk=>w.heap.size<=k/\k<w30.heap.size) (w':=w30) λk hk=>⟨⟨Nat.le_trans h21 hk.1,Nat.lt_of_lt_of_le hk.2 hb30.size⟩,λo=>hb30.cell hk.2 (Nat.ne_of_gt (Nat.lt_of_lt_of_le hg21 hk.1)) o⟩);clear hb30 HCK hP30 hE30;go_wp2_with fail;go_ret;exact⟨pM A7 c7 A9 c9,rfl,HP30.out,Pq HQ30.out HE30.out,TU HE30.out (by decide) hct hco (by decide) (by decide) (show 2<=1000 by decide) HFIT.out,HB30.out⟩
   |false=>
    have hR:R=none:=HR.out.symm;subst hR;clear hP1;go_wp2_with fail;go_ret;exact⟨rfl,HB1.out⟩
end Go.Proofs.YtchilcchogcibaaGreatDoor
