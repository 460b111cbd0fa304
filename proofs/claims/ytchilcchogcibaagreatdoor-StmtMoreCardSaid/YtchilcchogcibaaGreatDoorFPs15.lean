/- The statement parser's unique and refers, as plain functions. -/
import Derived.Test.YtchilcchogcibaaGreatDoorFPs14
set_option maxRecDepth 100000
set_option maxHeartbeats 8000000
namespace Go.Proofs.YtchilcchogcibaaGreatDoor
open Go.RowKit
attribute [local go_sem] ByteArray.extract_mk Ak AY
attribute [local go_sem ↓] Go.wp_at_zero Go.wp_at_succ
def Wq{α:Type}(o:Option (α×Nat))(g:Nat)(A:Option Addr)(c:Nat)(l:List Tok)(K:α->Array Value->World->Prop)(F:World->Prop)(cs1:Array Value)(ws:World)(en:Ending)(w':World):Prop:=
 match o with
 |none=>en=.returned (.bool false)/\But g ws w'/\F w'/\∃a',PsS g A c l a' (Aa cs1 a') w'
 |some r=>en=.returned (.bool true)/\∃cs,PsS g A c l r.2 cs w'/\K r.1 cs w'/\But g ws w'
def KC(cs1:Array Value)(g pv vb:Nat)(t:TypeId)(r:List Value)(s:List UInt8)(cs:Array Value)(w:World):Prop:=∃b,cs=Aa cs1 b/\Blk w vb t (.string ⟨s.toArray⟩::r).toArray/\s.length<=1000/\Blk w pv 97 #[.pointer (some ⟨g,0,none⟩)]
def FC(g pv vb:Nat)(t:TypeId)(r:List Value)(w:World):Prop:=(∃s:List UInt8,Blk w vb t (.string ⟨s.toArray⟩::r).toArray)/\Blk w pv 97 #[.pointer (some ⟨g,0,none⟩)]
theorem KC.stay{cs1:Array Value}{pv vb g:Nat}{t:TypeId}{r:List Value}(hv:vb≠g)(hp:pv≠g):Gs g (KC cs1 g pv vb t r):=λs cs W W' b ⟨b0,h1,h2,h3,h4⟩ hb=>⟨b,by rw[h1,AQ],hb.blk h2 hv,h3,hb.blk h4 hp⟩
theorem FC.stay{pv vb g:Nat}{t:TypeId}{r:List Value}(hv:vb≠g)(hp:pv≠g)(W W':World)(h:FC g pv vb t r W)(hb:But g W W'):FC g pv vb t r W':=by
 obtain⟨⟨s,h1⟩,h2⟩:=h;exact⟨⟨s,hb.blk h1 hv⟩,hb.blk h2 hp⟩
theorem KC.c{cs1:Array Value}{pv vb g:Nat}{t:TypeId}{r:List Value}(s:List UInt8)(cs:Array Value)(W:World)(h:KC cs1 g pv vb t r s cs W):∃b,cs=Aa cs1 b:=by
 obtain⟨b,h1,_⟩:=h;exact⟨b,h1⟩
theorem KC.f{cs1:Array Value}{pv vb g:Nat}{t:TypeId}{r:List Value}(s:List UInt8)(cs:Array Value)(W:World)(h:KC cs1 g pv vb t r s cs W):FC g pv vb t r W:=by
 obtain⟨b,h1,h2,h3,h4⟩:=h;exact⟨⟨s,h2⟩,h4⟩
theorem VJ(g pv vb:Nat)(A:Option Addr)(c:Nat)(l:List Tok)(a:Nat)(cs1:Array Value)(ws w:World)(hp:PsE g c l w)(ha:a<=l.length)(hP:PsS g A c l a (Aa cs1 a) w)(hbs:But g ws w)(hsv:ws.heap.size<=vb)(hgv:g<vb)(hpg:pv≠g)(hpv:pv≠vb)(hF:FC g pv vb 9 [] w):
  Calls Tryz.prog 209 #[.pointer (some ⟨pv,0,none⟩),.pointer (some ⟨vb,0,none⟩)] w (Wq (Az l a) g A c l (KC cs1 g pv vb 9 []) (FC g pv vb 9 []) cs1 ws):=by
 have hl:=hp.n;obtain⟨⟨s0,hk⟩,hkp⟩:=hF;have hv:=hkp.cell 0;have HKP:=Lib.hid hkp;have HPG:=Lib.hid hpg;have HPV:=Lib.hid hpv;have HNC:=Lib.hid (Gf g A c l a _ vb 0 s0 w (by omega) hP (Nat.le_of_lt hgv) (.inl (Nat.ne_of_gt hgv)) (hk.cell 0) (hk.frozen 0) hp.s);obtain⟨R,hR⟩:∃R,Az l a=R:=⟨_,rfl⟩;rw[hR];unfold Az at hR;have HNL:Hid (∀s,AO l a=some s->s.length<=1000):=λs h=>by
  obtain⟨t,ht,rfl⟩:=Bj h;exact hp.s t ht
 obtain⟨o,ho⟩:∃o,AO l a=o:=⟨_,rfl⟩;rw[ho]at HNC HNL hR;have HR:=Lib.hid hR;have HK:=Lib.hid hk;have HP:=Lib.hid hP;have HB:=Lib.hid hbs;have HSV:=Lib.hid hsv;have HGV:=Lib.hid hgv;clear ho hR hk hP hbs hsv hgv hp ha hkp hpg hpv;go_in
 go_wp2_with fail;refine HNC.out.mono ?_;cases o with
 |none=>
  rintro en w2 ⟨rfl,hb2⟩;have hR:R=none:=HR.out.symm;subst hR;have HB2:=Lib.hid hb2;clear hb2 HNC;go_wp2_with fail;go_ret;exact⟨rfl,HB.out.trans (But.of_below HB2.out),⟨⟨s0,HK.out.below HB2.out HK.out.lt⟩,HKP.out.below HB2.out HKP.out.lt⟩,a,HP.out.below HB2.out⟩
 |some s=>
  have hR:R=some (s,a+1):=HR.out.symm;subst hR;rintro en w2 ⟨rfl,w1,hb1,hw2⟩;have hgv:=HGV.out;have hP1:=HP.out.below hb1;have hP2:PsS g A c l (a+1) (Aa cs1 (a+1)) w2:=by
   have h1:=((show PsS g A c l a _ _ from⟨hP1.blk.far (p:=⟨vb,0,none⟩) (Nat.ne_of_lt hgv) (.string ⟨s.toArray⟩),hP1.c0,hP1.c1,hP1.tk.below (bwS bwR (Nat.le_of_lt hgv))⟩).below (Below.drew (Below.refl _ _))).move (a+1);rw[AQ]at h1;rw[hw2];exact h1
  have kv2:Blk w2 vb 9 (.string ⟨s.toArray⟩::[]).toArray:=by
   rw[hw2];exact(((HK.out.below hb1 HK.out.lt).set_ 0 (.string ⟨s.toArray⟩)).drew).far (p:=⟨g,1,none⟩) (Nat.ne_of_gt hgv) _
  have hbut2:But g ws w2:=by
   rw[hw2];exact(((HB.out.trans (But.of_below (p:=g) hb1)).own (g:=vb) HSV.out 0 (.string ⟨s.toArray⟩)).drew).set 1 _
  have kp2:Blk w2 pv 97 #[.pointer (some ⟨g,0,none⟩)]:=by
   rw[hw2];exact(((HKP.out.below hb1 HKP.out.lt).far (p:=⟨vb,0,none⟩) HPV.out (.string ⟨s.toArray⟩)).drew).far (p:=⟨g,1,none⟩) HPG.out _
  have HP2:=Lib.hid hP2;have HK2:=Lib.hid kv2;have HKP2:=Lib.hid kp2;have HB2:=Lib.hid hbut2;clear hw2 hb1 hP1 hP2 kv2 kp2 hbut2 HNC hgv hv;go_wp2_with fail;go_ret;exact⟨rfl,_,HP2.out,⟨_,rfl,HK2.out,HNL.out _ rfl,HKP2.out⟩,HB2.out⟩
theorem Vh(g pv vb:Nat)(A:Option Addr)(c:Nat)(l:List Tok)(a:Nat)(cs1:Array Value)(ws w:World)(hp:PsE g c l w)(ha:a<=l.length)(hP:PsS g A c l a (Aa cs1 a) w)(hbs:But g ws w)(hsv:ws.heap.size<=vb)(hgv:g<vb)(hpg:pv≠g)(hpv:pv≠vb)(hF:FC g pv vb 74 [.string ⟨#[]⟩] w):
  Calls Tryz.prog 210 #[.pointer (some ⟨pv,0,none⟩),.pointer (some ⟨vb,0,none⟩)] w (Wq (Az l a) g A c l (KC cs1 g pv vb 74 [.string ⟨#[]⟩]) (FC g pv vb 74 [.string ⟨#[]⟩]) cs1 ws):=by
 have hl:=hp.n;obtain⟨⟨s0,hk⟩,hkp⟩:=hF;have hv:=hkp.cell 0;have HKP:=Lib.hid hkp;have HPG:=Lib.hid hpg;have HPV:=Lib.hid hpv;have HNC:=Lib.hid (Gf g A c l a _ vb 0 s0 w (by omega) hP (Nat.le_of_lt hgv) (.inl (Nat.ne_of_gt hgv)) (hk.cell 0) (hk.frozen 0) hp.s);obtain⟨R,hR⟩:∃R,Az l a=R:=⟨_,rfl⟩;rw[hR];unfold Az at hR;have HNL:Hid (∀s,AO l a=some s->s.length<=1000):=λs h=>by
  obtain⟨t,ht,rfl⟩:=Bj h;exact hp.s t ht
 obtain⟨o,ho⟩:∃o,AO l a=o:=⟨_,rfl⟩;rw[ho]at HNC HNL hR;have HR:=Lib.hid hR;have HK:=Lib.hid hk;have HP:=Lib.hid hP;have HB:=Lib.hid hbs;have HSV:=Lib.hid hsv;have HGV:=Lib.hid hgv;clear ho hR hk hP hbs hsv hgv hp ha hkp hpg hpv;go_in
 go_wp2_with fail;refine HNC.out.mono ?_;cases o with
 |none=>
  rintro en w2 ⟨rfl,hb2⟩;have hR:R=none:=HR.out.symm;subst hR;have HB2:=Lib.hid hb2;clear hb2 HNC;go_wp2_with fail;go_ret;exact⟨rfl,HB.out.trans (But.of_below HB2.out),⟨⟨s0,HK.out.below HB2.out HK.out.lt⟩,HKP.out.below HB2.out HKP.out.lt⟩,a,HP.out.below HB2.out⟩
 |some s=>
  have hR:R=some (s,a+1):=HR.out.symm;subst hR;rintro en w2 ⟨rfl,w1,hb1,hw2⟩;have hgv:=HGV.out;have hP1:=HP.out.below hb1;have hP2:PsS g A c l (a+1) (Aa cs1 (a+1)) w2:=by
   have h1:=((show PsS g A c l a _ _ from⟨hP1.blk.far (p:=⟨vb,0,none⟩) (Nat.ne_of_lt hgv) (.string ⟨s.toArray⟩),hP1.c0,hP1.c1,hP1.tk.below (bwS bwR (Nat.le_of_lt hgv))⟩).below (Below.drew (Below.refl _ _))).move (a+1);rw[AQ]at h1;rw[hw2];exact h1
  have kv2:Blk w2 vb 74 (.string ⟨s.toArray⟩::[.string ⟨#[]⟩]).toArray:=by
   rw[hw2];exact(((HK.out.below hb1 HK.out.lt).set_ 0 (.string ⟨s.toArray⟩)).drew).far (p:=⟨g,1,none⟩) (Nat.ne_of_gt hgv) _
  have hbut2:But g ws w2:=by
   rw[hw2];exact(((HB.out.trans (But.of_below (p:=g) hb1)).own (g:=vb) HSV.out 0 (.string ⟨s.toArray⟩)).drew).set 1 _
  have kp2:Blk w2 pv 97 #[.pointer (some ⟨g,0,none⟩)]:=by
   rw[hw2];exact(((HKP.out.below hb1 HKP.out.lt).far (p:=⟨vb,0,none⟩) HPV.out (.string ⟨s.toArray⟩)).drew).far (p:=⟨g,1,none⟩) HPG.out _
  have HP2:=Lib.hid hP2;have HK2:=Lib.hid kv2;have HKP2:=Lib.hid kp2;have HB2:=Lib.hid hbut2;clear hw2 hb1 hP1 hP2 kv2 kp2 hbut2 HNC hgv hv;go_wp2_with fail;go_ret;exact⟨rfl,_,HP2.out,⟨_,rfl,HK2.out,HNL.out _ rfl,HKP2.out⟩,HB2.out⟩
theorem Qo{α:Type}(pv vb:Nat)(o:Option (α×Nat))(K:α->Array Value->World->Prop)(F:World->Prop)(g:Nat)(A:Option Addr)(c:Nat)(l:List Tok)(a:Nat)(cs1 cs:Array Value)(ws w:World)(hl:l.length<=990)(ha:a<=l.length)(hcs:∃b,cs=Aa cs1 b)(hKc:∀x cs W,K x cs W->∃b,cs=Aa cs1 b)(h:PsS g A c l a cs w)(hbs:But g ws w)(hF:F w)(hFs:∀W W',F W->But g W W'->F W')(hKF:∀x cs W,K x cs W->F W)(hK:Gs g K)(ho:a+1<=l.length->∀r,o=some r->r.2<=l.length)
 (hI:∀W,But g ws W->F W->a+1<=l.length->PsS g A c l (a+1) (Aa cs (a+1)) W->Calls Tryz.prog 209 #[.pointer (some ⟨pv,0,none⟩),.pointer (some ⟨vb,0,none⟩)] W (Wq o g A c l K F cs1 ws)):
  Calls Tryz.prog 164 #[.pointer (some ⟨g,0,none⟩),.func (.func 209) #[] #[.pointer (some ⟨pv,0,none⟩),.pointer (some ⟨vb,0,none⟩)]] w (Wq (Ae l a o) g A c l K F cs1 ws):=by
 have HT:=Lib.hid (Ac g A c l a cs [40] w (by omega) h);obtain⟨R,hR⟩:∃R,Ae l a o=R:=⟨_,rfl⟩;rw[hR];unfold Ae at hR;have HA:Hid (hit l a [40]=true->a+1<=l.length):=λh=>DZ h
 obtain⟨B,hB⟩:∃B,hit l a [40]=B:=⟨_,rfl⟩;rw[hB]at HT hR HA;have HR:=Lib.hid hR;have HI:=Lib.hid hI;have HK:=Lib.hid hK;have HO:=Lib.hid ho;have HB0:=Lib.hid hbs;have HF0:=Lib.hid hF;have HFS:=Lib.hid hFs;have HKF:=Lib.hid hKF;have HCS:=Lib.hid hcs;have HKC:=Lib.hid hKc;clear hR hB h hI hK ho ha hbs hF hFs hKF hcs hKc;go_in
 go_wp2_with fail;refine HT.out.mono ?_;rintro en w1 ⟨rfl,hP1,hb1⟩;have HB1:=Lib.hid (HB0.out.trans hb1);have HF1:=Lib.hid (HFS.out _ _ HF0.out hb1);cases B with
 |false=>
  have hR:R=none:=HR.out.symm;subst hR;have HP1:Hid (PsS g A c l a (Aa cs a) w1):=hP1;clear hP1 hb1;go_wp2_with fail;go_ret;refine⟨rfl,HB1.out,HF1.out,a, ?_⟩;obtain⟨b0,h0⟩:=HCS.out;have h1:=HP1.out;rw[h0,AQ]at h1;exact h1
 |true=>
  have HR:Hid ((o.bind λr=>if hit l r.2 [41]then some (r.1,r.2+1)else none)=R):=HR.out;have hP1':PsS g A c l (a+1) (Aa cs (a+1)) w1:=hP1;have HX:=Lib.hid (HI.out w1 HB1.out HF1.out (HA.out rfl) hP1');have HAL:=Lib.hid (HA.out rfl);clear hP1 hP1' hb1 HI HT;go_wp2_with fail;refine HX.out.mono ?_;cases o with
  |none=>
   have hR:R=none:=HR.out.symm;subst hR;rintro en w2 ⟨rfl,hb2⟩;have HB2:=Lib.hid hb2;clear hb2;go_wp2_with fail;go_ret;exact⟨rfl,HB2.out⟩
  |some r=>
   obtain⟨x,b⟩:=r;have hR:(if hit l b [41]then some (x,b+1)else none)=R:=HR.out;rintro en w2 ⟨rfl,cs2,hP2,hK2,hb2⟩;have hbl:b<=l.length:=HO.out HAL.out (x,b) rfl;have HT2:=Lib.hid (Ac g A c l b cs2 [41] w2 (by omega) hP2);have HB2:=Lib.hid hb2;have HK2:=Lib.hid hK2;obtain⟨D,hD⟩:∃D,hit l b [41]=D:=⟨_,rfl⟩;rw[hD]at HT2 hR;have HR2:=Lib.hid hR;clear hP2 hK2 hb2 hD hR HR HX hbl;go_wp2_with fail;refine HT2.out.mono ?_;rintro en w3 ⟨rfl,hP3,hb3⟩;have HP3:=Lib.hid hP3;have HB3:=Lib.hid hb3;clear hP3 hb3;cases D with
   |false=>
    have hR:R=none:=HR2.out.symm;subst hR;go_wp2_with fail;go_ret;refine⟨rfl,HB2.out.trans HB3.out,HFS.out _ _ (HKF.out _ _ _ HK2.out) HB3.out,b, ?_⟩;obtain⟨b0,h0⟩:=HKC.out _ _ _ HK2.out;have h1:=HP3.out;rw[h0,AQ]at h1;exact h1
   |true=>
    have hR:R=some (x,b+1):=HR2.out.symm;subst hR;go_wp2_with fail;go_ret;exact⟨rfl,_,HP3.out,HK.out _ _ _ _ _ HK2.out HB3.out,HB2.out.trans HB3.out⟩
theorem Qp{α:Type}(pv vb:Nat)(o:Option (α×Nat))(K:α->Array Value->World->Prop)(F:World->Prop)(g:Nat)(A:Option Addr)(c:Nat)(l:List Tok)(a:Nat)(cs1 cs:Array Value)(ws w:World)(hl:l.length<=990)(ha:a<=l.length)(hcs:∃b,cs=Aa cs1 b)(hKc:∀x cs W,K x cs W->∃b,cs=Aa cs1 b)(h:PsS g A c l a cs w)(hbs:But g ws w)(hF:F w)(hFs:∀W W',F W->But g W W'->F W')(hKF:∀x cs W,K x cs W->F W)(hK:Gs g K)(ho:a+1<=l.length->∀r,o=some r->r.2<=l.length)
 (hI:∀W,But g ws W->F W->a+1<=l.length->PsS g A c l (a+1) (Aa cs (a+1)) W->Calls Tryz.prog 210 #[.pointer (some ⟨pv,0,none⟩),.pointer (some ⟨vb,0,none⟩)] W (Wq o g A c l K F cs1 ws)):
  Calls Tryz.prog 164 #[.pointer (some ⟨g,0,none⟩),.func (.func 210) #[] #[.pointer (some ⟨pv,0,none⟩),.pointer (some ⟨vb,0,none⟩)]] w (Wq (Ae l a o) g A c l K F cs1 ws):=by
 have HT:=Lib.hid (Ac g A c l a cs [40] w (by omega) h);obtain⟨R,hR⟩:∃R,Ae l a o=R:=⟨_,rfl⟩;rw[hR];unfold Ae at hR;have HA:Hid (hit l a [40]=true->a+1<=l.length):=λh=>DZ h
 obtain⟨B,hB⟩:∃B,hit l a [40]=B:=⟨_,rfl⟩;rw[hB]at HT hR HA;have HR:=Lib.hid hR;have HI:=Lib.hid hI;have HK:=Lib.hid hK;have HO:=Lib.hid ho;have HB0:=Lib.hid hbs;have HF0:=Lib.hid hF;have HFS:=Lib.hid hFs;have HKF:=Lib.hid hKF;have HCS:=Lib.hid hcs;have HKC:=Lib.hid hKc;clear hR hB h hI hK ho ha hbs hF hFs hKF hcs hKc;go_in
 go_wp2_with fail;refine HT.out.mono ?_;rintro en w1 ⟨rfl,hP1,hb1⟩;have HB1:=Lib.hid (HB0.out.trans hb1);have HF1:=Lib.hid (HFS.out _ _ HF0.out hb1);cases B with
 |false=>
  have hR:R=none:=HR.out.symm;subst hR;have HP1:Hid (PsS g A c l a (Aa cs a) w1):=hP1;clear hP1 hb1;go_wp2_with fail;go_ret;refine⟨rfl,HB1.out,HF1.out,a, ?_⟩;obtain⟨b0,h0⟩:=HCS.out;have h1:=HP1.out;rw[h0,AQ]at h1;exact h1
 |true=>
  have HR:Hid ((o.bind λr=>if hit l r.2 [41]then some (r.1,r.2+1)else none)=R):=HR.out;have hP1':PsS g A c l (a+1) (Aa cs (a+1)) w1:=hP1;have HX:=Lib.hid (HI.out w1 HB1.out HF1.out (HA.out rfl) hP1');have HAL:=Lib.hid (HA.out rfl);clear hP1 hP1' hb1 HI HT;go_wp2_with fail;refine HX.out.mono ?_;cases o with
  |none=>
   have hR:R=none:=HR.out.symm;subst hR;rintro en w2 ⟨rfl,hb2⟩;have HB2:=Lib.hid hb2;clear hb2;go_wp2_with fail;go_ret;exact⟨rfl,HB2.out⟩
  |some r=>
   obtain⟨x,b⟩:=r;have hR:(if hit l b [41]then some (x,b+1)else none)=R:=HR.out;rintro en w2 ⟨rfl,cs2,hP2,hK2,hb2⟩;have hbl:b<=l.length:=HO.out HAL.out (x,b) rfl;have HT2:=Lib.hid (Ac g A c l b cs2 [41] w2 (by omega) hP2);have HB2:=Lib.hid hb2;have HK2:=Lib.hid hK2;obtain⟨D,hD⟩:∃D,hit l b [41]=D:=⟨_,rfl⟩;rw[hD]at HT2 hR;have HR2:=Lib.hid hR;clear hP2 hK2 hb2 hD hR HR HX hbl;go_wp2_with fail;refine HT2.out.mono ?_;rintro en w3 ⟨rfl,hP3,hb3⟩;have HP3:=Lib.hid hP3;have HB3:=Lib.hid hb3;clear hP3 hb3;cases D with
   |false=>
    have hR:R=none:=HR2.out.symm;subst hR;go_wp2_with fail;go_ret;refine⟨rfl,HB2.out.trans HB3.out,HFS.out _ _ (HKF.out _ _ _ HK2.out) HB3.out,b, ?_⟩;obtain⟨b0,h0⟩:=HKC.out _ _ _ HK2.out;have h1:=HP3.out;rw[h0,AQ]at h1;exact h1
   |true=>
    have hR:R=some (x,b+1):=HR2.out.symm;subst hR;go_wp2_with fail;go_ret;exact⟨rfl,_,HP3.out,HK.out _ _ _ _ _ HK2.out HB3.out,HB2.out.trans HB3.out⟩
theorem Qj(g:Nat)(A:Option Addr)(c:Nat)(l:List Tok)(a:Nat)(cs0 cs:Array Value)(xs:List (List UInt8))(ws w:World)(hp:PsE g c l w)(ha:a<=l.length)(hP:PsS g A c l a cs w)(hg:g<ws.heap.size)(hbs:But g ws w)(hn:xs.length<=990)(h8:8<cs0.size)(hK:KL 8 9 1 (·.map IR) J9 cs0 ws.heap.size xs cs w):
  Calls Tryz.prog 166 #[.pointer (some ⟨g,0,none⟩)] w (FP ((Ae l a (Az l (a+1))).map λr=>(xs++[r.1],r.2)) g A c l (KL 8 9 1 (·.map IR) J9 cs0 ws.heap.size) ws):=by
 have hl:=hp.n;obtain⟨A',c',b0,rfl,hown,hfit,-⟩:=hK;obtain⟨sv,hsv⟩:∃v,Value.slice A' xs.length c'=v:=⟨_,rfl⟩;rw[hsv]at hown hP;have HC0:Hid (∀b,(Aa (cs0.setIfInBounds 8 sv) b)[8]? = some sv):=λb=>by rw[JE _ _ _ (by decide),Array.getElem?_setIfInBounds_self_of_lt h8]
 have HCS:Hid (∀b u,(Aa (cs0.setIfInBounds 8 sv) b).setIfInBounds 8 u=Aa (cs0.setIfInBounds 8 u) b):=λb u=>JW _ _ _ _ _ (by decide)
 have hgw0:g<w.heap.size:=hP.blk.lt;obtain⟨pv,hpv⟩:∃v,w.heap.size=v:=⟨_,rfl⟩;obtain⟨wa,hwa⟩:∃x,w.alloc (.cells #[.pointer (some ⟨g,0,none⟩)] 97)=x:=⟨_,rfl⟩;have kpa:Blk wa pv 97 #[.pointer (some ⟨g,0,none⟩)]:=by rw[<-hwa,<-hpv];exact Blk.new _ _ _
 have hba:Below w.heap.size w wa:=by rw[<-hwa];exact bl
 obtain⟨vb,hvb⟩:∃v,wa.heap.size=v:=⟨_,rfl⟩;obtain⟨w0,hw0⟩:∃x,wa.alloc (.cells #[.string ⟨#[]⟩] 9)=x:=⟨_,rfl⟩;have k0:Blk w0 vb 9 #[.string ⟨#[]⟩]:=by rw[<-hw0,<-hvb];exact Blk.new _ _ _
 have hb0:Below wa.heap.size wa w0:=by rw[<-hw0];exact bl
 have kp0:=kpa.below hb0 kpa.lt;have hw00:Below w.heap.size w w0:=hba.trans (hb0.mono hba.size);have hP0:=hP.below hw00;have hpvb:pv<vb:=by rw[<-hvb];exact kpa.lt
 have hgv:g<vb:=by omega
 have hpg:pv≠g:=by omega
 have hxp:wa.cell? ⟨pv,0,none⟩=some (.pointer (some ⟨g,0,none⟩)):=kpa.cell 0;have hx0:w0.cell? ⟨pv,0,none⟩=some (.pointer (some ⟨g,0,none⟩)):=kp0.cell 0;have HIC:=Lib.hid (Qo pv vb (Az l (a+1)) (KC (cs0.setIfInBounds 8 sv) g pv vb 9 []) (FC g pv vb 9 []) g A c l a (cs0.setIfInBounds 8 sv) _ w w0 hl ha ⟨b0,rfl⟩ KC.c hP0 (But.of_below hw00) ⟨⟨[],k0⟩,kp0⟩ (FC.stay (by omega) hpg) KC.f (KC.stay (by omega) hpg) (λ_ r hr=>(Ey hr).2)
  (λW hW hF h2 hPW=>VJ g pv vb A c l (a+1) (cs0.setIfInBounds 8 sv) w W (hp.but hW) h2 (by rw[AQ]at hPW;exact hPW) hW (by omega) hgv hpg (by omega) hF))
 have HVN:Hid (∀k,sv.ownBlock=some k->k≠vb):=λk hk=>by have:=(hown.lt k hk).2;omega
 have HPN:Hid (∀k,sv.ownBlock=some k->k≠pv):=λk hk=>by have:=(hown.lt k hk).2;omega
 have HFV:=Lib.hid hfit;have HBS:=Lib.hid hbs;have HGW:=Lib.hid hg;have HW:=Lib.hid hwa;have HW0:=Lib.hid hw0;have HO:=Lib.hid hown;have HG0:=Lib.hid hgw0;have HPV:=Lib.hid hpv;obtain⟨n,hN⟩:∃n,xs.length=n:=⟨_,rfl⟩;rw[hN]at hn;have HN:=Lib.hid hN;obtain⟨o,ho⟩:∃o,Ae l a (Az l (a+1))=o:=⟨_,rfl⟩;rw[ho]at HIC ⊢;clear ho hwa hw0 k0 kp0 kpa hP0 hown hN hsv hfit hP hbs hp hb0 hba hw00 hg h8 hgw0;go_in
 go_upto_region 1 with fail
 rw[show w.alloc _=wa from HW.out];go_upto_region 2 with fail
 rw[show World.alloc wa _=w0 from HW0.out]
 try rw[hpv]
 try rw[hvb]
 clear HW HW0 hxp;go_wp2_with fail;refine HIC.out.mono ?_;intro en w2 hr;obtain⟨s,a2,B,rfl,hP2,kv2,kp2,hb2,hres⟩:∃(s:List UInt8) (a2:Nat) (B:Bool),en=.returned (.bool B)/\PsS g A c l a2 (Aa (cs0.setIfInBounds 8 sv) a2) w2/\Blk w2 vb 9 #[.string ⟨s.toArray⟩]/\Blk w2 pv 97 #[.pointer (some ⟨g,0,none⟩)]/\But g w w2/\(o=none/\B=false\/o=some (s,a2)/\B=true/\s.length<=1000):=by
  cases o with
  |none=>
   obtain⟨rfl,hb2,⟨⟨s,kv2⟩,kp2⟩,a',hP2⟩:=hr;exact⟨s,a',false,rfl,hP2,kv2,kp2,hb2,.inl ⟨rfl,rfl⟩⟩
  |some r=>
   obtain⟨s,b'⟩:=r;obtain⟨rfl,cs2,hP2,⟨b2,rfl,kv2,hsl,kp2⟩,hb2⟩:=hr;have hP2':=hP2.self;rw[AQ]at hP2';exact⟨s,b',true,rfl,by rw[hP2'];exact hP2,kv2,kp2,hb2,.inr ⟨rfl,rfl,hsl⟩⟩
 have hcO:=HC0.out a2;have hbut2:=HBS.out.trans hb2;have hown2:w2.ownsRow ws.heap.size 9 1 sv n (xs.map IR):=by rw[<-HN.out];exact DD HO.out hb2 HGW.out
 have HKP:=Lib.hid kp2;have HRES:=Lib.hid hres;clear hb2 HIC hx0 kp2 hr hres;have xO:w2.cell? ⟨g,8,none⟩=some sv:=(hP2.blk.cell 8).trans hcO;have fO:=hP2.blk.frozen 8;have hgw2:g<w2.heap.size:=hP2.blk.lt;have hws2:ws.heap.size<=w2.heap.size:=hbut2.size;have HS2:Hid (∀Z:World,Below w2.heap.size w2 Z->(Z.cell? ⟨vb,0,none⟩=some (.string ⟨s.toArray⟩)/\Z.cell? ⟨pv,0,none⟩=some (.pointer (some ⟨g,0,none⟩)))/\Z.cell? ⟨g,8,none⟩=some sv):=λZ hz=>⟨⟨(kv2.below hz kv2.lt).cell 0,(HKP.out.below hz HKP.out.lt).cell 0⟩,(hz.cell (p:=⟨g,8,none⟩) hgw2).trans xO⟩
 have HCO:=Lib.hid hcO;have HP2:=Lib.hid hP2;have HOW:=Lib.hid hown2;have HOL:=Lib.hid hown2.lt;have HKV:=Lib.hid kv2;have HB2:=Lib.hid hbut2;have hgws:g<ws.heap.size:=HGW.out;obtain⟨i0,hi0,zi0,zi1,zi2⟩:=info_parts Xw;clear hP2 hown2 kv2 hbut2 hcO;go_upto_region 3 with fail
 clear xO;refine Bl [12] (λZ=>(Z.cell? ⟨vb,0,none⟩=some (.string ⟨s.toArray⟩)/\Z.cell? ⟨pv,0,none⟩=some (.pointer (some ⟨g,0,none⟩)))/\Z.cell? ⟨g,8,none⟩=some sv) (by kernel_rfl) ?_ (λhHeld=>?_)
 ·try dsimp only
  first|exact HS5.out|exact HS2.out _ (by exact bl)
 refine tI 0 12 [12] ?_;refine ap ?_;refine tI 1 12 [12] ?_;refine ap ?_;refine tI 2 12 [12] ?_;refine ap ?_;refine tI 3 12 [12] ?_;refine ap ?_;refine tI 4 12 [12] ?_;refine ap ?_;refine tI 5 12 [12] ?_;refine ap ?_;refine tI 6 12 [12] ?_;refine ap ?_;refine AV (rs:=[7]) (by kernel_rfl) (by simp) ?_;refine AC.consT rfl (λK hK=>?_) AC.nil;go_simp
 skip
 go_wp2_with fail;refine hK.out _ _ ?_ (λhHeld=>?_)
 ·try dsimp only
  first|exact HS5.out|exact HS2.out _ (by exact bl)
 clear hK K;refine ap ?_;refine AV (rs:=[8]) (by kernel_rfl) (by simp) ?_;refine AC.consT rfl (λK hK=>?_) AC.nil;refine step_append_lies _ rfl (.tmp 13) (.tmp 15) 23 rfl ws.heap.size 9 i0 _ 1 16 Tryz.underlying23 hi0 zi0 zi1 zi2 rfl (by decide) sv n (xs.map IR) (by simp[Act.eval]) (HOW.out.drew.alloc _) ⟨w2.heap.size,0,none⟩ 1 1 ([.string ⟨s.toArray⟩]:List Value) (by simp[Act.eval]) rfl (World.news_of_block (cs:=(([.string ⟨s.toArray⟩]:List Value)).toArray) (t:=9) (fr:=(0,0)) (heap_alloc_new w2.drew _)) (by simp[Value.oneCell']) (by omega) (by unfold maxLen;omega) (by omega) (by simp;omega) _ rfl ?_;intro g5 cap w5 hown5 hg5 hor5 hl5;replace hg5:World.grownBy (w2.drew.alloc (.cells (([.string ⟨s.toArray⟩]:List Value)).toArray 9)) w5 sv.ownBlock:=hg5;have hkv5:=(HKV.out.drew.alloc (.cells (([.string ⟨s.toArray⟩]:List Value)).toArray 9)).grown hg5 (λe=>HVN.out _ e.symm rfl);have hP5:=(HP2.out.below (show Below w2.heap.size w2 (w2.drew.alloc (.cells (([.string ⟨s.toArray⟩]:List Value)).toArray 9)) by exact bl)).grown hg5 (λk hk=>(by have:=(HOL.out k hk).1;omega));have hbut5:But g ws w5:=FL (HB2.out.drew.alloc (.cells (([.string ⟨s.toArray⟩]:List Value)).toArray 9)) hg5 (λk hk=>(HOL.out k hk).1);have HS5:Hid (((λZ:World=>Z.cell? ⟨vb,0,none⟩=some (.string ⟨s.toArray⟩)/\Z.cell? ⟨pv,0,none⟩=some (.pointer (some ⟨g,0,none⟩))) w5)/\w5.cell? ⟨g,8,none⟩=some sv):=⟨⟨hkv5.cell 0,((HKP.out.drew.alloc (.cells (([.string ⟨s.toArray⟩]:List Value)).toArray 9)).grown hg5 (λe=>HPN.out _ e.symm rfl)).cell 0⟩,(hP5.blk.cell 8).trans HCO.out⟩;have fO:=hP5.blk.frozen 8;have HP5:=Lib.hid hP5;have HB5:=Lib.hid hbut5;have HO5:=Lib.hid hown5;have HG5:=Lib.hid hg5;have HR5:=Lib.hid hor5;clear hP5 hbut5 hown5 hkv5 hg5 hor5;refine hK.out _ _ ?_ (λhHeld=>?_)
 ·try dsimp only
  first|exact HS5.out|exact HS2.out _ (by exact bl)
 clear hK K;refine ap ?_;refine tI 9 12 [10,11,12] ?_;refine ap ?_;refine tI 10 12 [11,12] ?_;refine ap ?_;refine tI 11 12 [12] ?_;refine ap ?_;refine AV (rs:=[12]) (by kernel_rfl) (by simp) ?_;refine AC.consD rfl (by decide) (λK hK=>?_) AC.nil
 skip
 go_simp;go_wp2_with fail;refine hK.out _ _ ?_;clear hK K;refine ap ?_;refine DI (by kernel_rfl) ?_ _;go_wp2_with fail;go_ret;rcases HRES.out with⟨ho,hB⟩|⟨ho,hB,hsl⟩
 ·subst hB ho;exact⟨rfl,HB5.out.set 8 _⟩
 ·subst hB ho;have hN:=HN.out;subst hN;refine⟨rfl,_,HP5.out.set 8 (by decide) _,⟨some ⟨g5,0,none⟩,cap,a2,by rw[HCS.out];simp,by simpa[IR]using I7 HO5.out (p:=⟨g,8,none⟩) (λk hk _ e=>by simp at e;omega) (.slice (some ⟨g5,0,none⟩) (xs.length+1) cap),λy hy=>?_,by simp;exact HB5.out.size⟩,HB5.out.set 8 _⟩;rcases List.mem_append.1 hy with h|h
  ·exact HFV.out y h
  ·rw[List.mem_singleton]at h;subst h;exact hsl
def XW(x:Rf):Prop:=x.c.length<=1000/\x.t.length<=1000
def Je(l:List Tok)(a:Nat):Option (Rf×Nat):=(Ae l a (Az l (a+1))).bind λr=>(AO l r.2).map λt=>(⟨r.1,t⟩,r.2+1)
theorem UJ:(Tryz.prog.info? 74).map (λi=>(i.zero,i.size,i.bytes))=some (some (.agg #[.string ⟨#[]⟩,.string ⟨#[]⟩]),2,32):=by kernel_rfl
theorem Ll(g:Nat)(A:Option Addr)(c:Nat)(l:List Tok)(a:Nat)(cs0 cs:Array Value)(xs:List Rf)(ws w:World)(hp:PsE g c l w)(ha:a<=l.length)(hP:PsS g A c l a cs w)(hg:g<ws.heap.size)(hbs:But g ws w)(hn:xs.length<=990)(h8:9<cs0.size)(hK:KL 9 74 2 (·.flatMap Rf.cells) XW cs0 ws.heap.size xs cs w):
  Calls Tryz.prog 167 #[.pointer (some ⟨g,0,none⟩)] w (FP ((Je l a).map λr=>(xs++[r.1],r.2)) g A c l (KL 9 74 2 (·.flatMap Rf.cells) XW cs0 ws.heap.size) ws):=by
 have hl:=hp.n;obtain⟨A',c',b0,rfl,hown,hfit,-⟩:=hK;obtain⟨sv,hsv⟩:∃v,Value.slice A' xs.length c'=v:=⟨_,rfl⟩;rw[hsv]at hown hP;have HC0:Hid (∀b,(Aa (cs0.setIfInBounds 9 sv) b)[9]? = some sv):=λb=>by rw[JE _ _ _ (by decide),Array.getElem?_setIfInBounds_self_of_lt h8]
 have HCS:Hid (∀b u,(Aa (cs0.setIfInBounds 9 sv) b).setIfInBounds 9 u=Aa (cs0.setIfInBounds 9 u) b):=λb u=>JW _ _ _ _ _ (by decide)
 have hgw0:g<w.heap.size:=hP.blk.lt;obtain⟨pv,hpv⟩:∃v,w.heap.size=v:=⟨_,rfl⟩;obtain⟨wa,hwa⟩:∃x,w.alloc (.cells #[.pointer (some ⟨g,0,none⟩)] 97)=x:=⟨_,rfl⟩;have kpa:Blk wa pv 97 #[.pointer (some ⟨g,0,none⟩)]:=by rw[<-hwa,<-hpv];exact Blk.new _ _ _
 have hba:Below w.heap.size w wa:=by rw[<-hwa];exact bl
 obtain⟨vb,hvb⟩:∃v,wa.heap.size=v:=⟨_,rfl⟩;obtain⟨w0,hw0⟩:∃x,wa.alloc (.cells #[.string ⟨#[]⟩,.string ⟨#[]⟩] 74)=x:=⟨_,rfl⟩;have k0:Blk w0 vb 74 #[.string ⟨#[]⟩,.string ⟨#[]⟩]:=by rw[<-hw0,<-hvb];exact Blk.new _ _ _
 have hb0:Below wa.heap.size wa w0:=by rw[<-hw0];exact bl
 have kp0:=kpa.below hb0 kpa.lt;have hw00:Below w.heap.size w w0:=hba.trans (hb0.mono hba.size);have hP0:=hP.below hw00;have hpvb:pv<vb:=by rw[<-hvb];exact kpa.lt
 have hgv:g<vb:=by omega
 have hpg:pv≠g:=by omega
 have hxp:wa.cell? ⟨pv,0,none⟩=some (.pointer (some ⟨g,0,none⟩)):=kpa.cell 0;have hx0:w0.cell? ⟨pv,0,none⟩=some (.pointer (some ⟨g,0,none⟩)):=kp0.cell 0;have HIC:=Lib.hid (Qp pv vb (Az l (a+1)) (KC (cs0.setIfInBounds 9 sv) g pv vb 74 [.string ⟨#[]⟩]) (FC g pv vb 74 [.string ⟨#[]⟩]) g A c l a (cs0.setIfInBounds 9 sv) _ w w0 hl ha ⟨b0,rfl⟩ KC.c hP0 (But.of_below hw00) ⟨⟨[],k0⟩,kp0⟩ (FC.stay (by omega) hpg) KC.f (KC.stay (by omega) hpg) (λ_ r hr=>(Ey hr).2)
  (λW hW hF h2 hPW=>Vh g pv vb A c l (a+1) (cs0.setIfInBounds 9 sv) w W (hp.but hW) h2 (by rw[AQ]at hPW;exact hPW) hW (by omega) hgv hpg (by omega) hF))
 have HVN:Hid (∀k,sv.ownBlock=some k->k≠vb):=λk hk=>by have:=(hown.lt k hk).2;omega
 have HPN:Hid (∀k,sv.ownBlock=some k->k≠pv):=λk hk=>by have:=(hown.lt k hk).2;omega
 have HFV:=Lib.hid hfit;have HBS:=Lib.hid hbs;have HGW:=Lib.hid hg;have HW:=Lib.hid hwa;have HW0:=Lib.hid hw0;have HO:=Lib.hid hown;have HG0:=Lib.hid hgw0;have HPV:=Lib.hid hpv;obtain⟨n,hN⟩:∃n,xs.length=n:=⟨_,rfl⟩;rw[hN]at hn;have HN:=Lib.hid hN;obtain⟨R,hR⟩:∃R,Je l a=R:=⟨_,rfl⟩;rw[hR];unfold Je at hR;have HLI:Hid (∀r,Ae l a (Az l (a+1))=some r->r.2<=l.length):=λr hr=>by
  unfold Ae at hr;split at hr
  ·cases hz:Az l (a+1)with
   |none=>rw[hz]at hr;cases hr
   |some z=>
    rw[hz]at hr;simp only[Option.bind_some]at hr;split at hr
    ·rename_i h3
     injection hr with hr
     subst hr;exact DZ h3
    ·cases hr
  ·cases hr
 obtain⟨o,ho⟩:∃o,Ae l a (Az l (a+1))=o:=⟨_,rfl⟩;rw[ho]at HIC hR HLI;have HR:=Lib.hid hR;have HPE:=Lib.hid (hp.but (But.of_below (p:=g) hw00));have HPEW:=Lib.hid hp;clear ho hR hwa hw0 k0 kp0 kpa hP0 hown hN hsv hfit hP hbs hp hb0 hba hw00 hg h8 hgw0;go_in
 go_upto_region 1 with fail
 rw[show w.alloc _=wa from HW.out];go_upto_region 2 with fail
 rw[show World.alloc wa _=w0 from HW0.out]
 try rw[hpv]
 try rw[hvb]
 clear HW HW0 hxp;go_wp2_with fail;refine HIC.out.mono ?_;cases o with
 |none=>
  have hR:R=none:=HR.out.symm;subst hR;rintro en w2 ⟨rfl,hbw2,⟨⟨s,kv2⟩,kp2⟩,a',hP2⟩;have hcO:=HC0.out a';have hbut2:=HBS.out.trans hbw2;have hown2:w2.ownsRow ws.heap.size 74 2 sv n (xs.flatMap Rf.cells):=by rw[<-HN.out];exact DD HO.out hbw2 HGW.out
  have HKP:=Lib.hid kp2;have hd0:=kp2.cell 0;clear hbw2 HIC hx0 kp2;go_wp2_with fail;clear hd0;have xO:w2.cell? ⟨g,9,none⟩=some sv:=(hP2.blk.cell 9).trans hcO;have fO:=hP2.blk.frozen 9;have hgw2:g<w2.heap.size:=hP2.blk.lt;have hws2:ws.heap.size<=w2.heap.size:=hbut2.size;have HS2:Hid (∀Z:World,Below w2.heap.size w2 Z->((Z.cell? ⟨vb,0,none⟩=some (.string ⟨s.toArray⟩)/\Z.cell? ⟨vb,1,none⟩=some (.string ⟨([]:List UInt8).toArray⟩))/\Z.cell? ⟨pv,0,none⟩=some (.pointer (some ⟨g,0,none⟩)))/\Z.cell? ⟨g,9,none⟩=some sv):=λZ hz=>⟨⟨⟨(kv2.below hz kv2.lt).cell 0,(kv2.below hz kv2.lt).cell 1⟩,(HKP.out.below hz HKP.out.lt).cell 0⟩,(hz.cell (p:=⟨g,9,none⟩) hgw2).trans xO⟩
  have HCO:=Lib.hid hcO;have HP2:=Lib.hid hP2;have HOW:=Lib.hid hown2;have HOL:=Lib.hid hown2.lt;have HKV:=Lib.hid kv2;have HB2:=Lib.hid hbut2;have hgws:g<ws.heap.size:=HGW.out;obtain⟨i0,hi0,zi0,zi1,zi2⟩:=info_parts UJ;clear hP2 hown2 kv2 hbut2 hcO;go_upto_region 3 with fail
  clear xO;refine Bl [12] (λZ=>((Z.cell? ⟨vb,0,none⟩=some (.string ⟨s.toArray⟩)/\Z.cell? ⟨vb,1,none⟩=some (.string ⟨([]:List UInt8).toArray⟩))/\Z.cell? ⟨pv,0,none⟩=some (.pointer (some ⟨g,0,none⟩)))/\Z.cell? ⟨g,9,none⟩=some sv) (by kernel_rfl) ?_ (λhHeld=>?_)
  ·try dsimp only
   first|exact HS5.out|exact HS2.out _ (by exact bl)
  refine tI 0 12 [12] ?_;refine ap ?_;refine tI 1 12 [12] ?_;refine ap ?_;refine tI 2 12 [12] ?_;refine ap ?_;refine tI 3 12 [12] ?_;refine ap ?_;refine tI 4 12 [12] ?_;refine ap ?_;refine tI 5 12 [12] ?_;refine ap ?_;refine tI 6 12 [12] ?_;refine ap ?_;refine AV (rs:=[7]) (by kernel_rfl) (by simp) ?_;refine AC.consT rfl (λK hK=>?_) AC.nil;go_simp
  skip
  go_wp2_with fail;refine hK.out _ _ ?_ (λhHeld=>?_)
  ·try dsimp only
   first|exact HS5.out|exact HS2.out _ (by exact bl)
  clear hK K;refine ap ?_;refine AV (rs:=[8]) (by kernel_rfl) (by simp) ?_;refine AC.consT rfl (λK hK=>?_) AC.nil;refine step_append_lies _ rfl (.tmp 18) (.tmp 20) 25 rfl ws.heap.size 74 i0 _ 2 32 Tryz.underlying25 hi0 zi0 zi1 zi2 rfl (by decide) sv n (xs.flatMap Rf.cells) (by simp[Act.eval]) (HOW.out.drew.alloc _) ⟨w2.heap.size,0,none⟩ 1 1 ([.string ⟨s.toArray⟩,.string ⟨([]:List UInt8).toArray⟩]:List Value) (by simp[Act.eval]) rfl (World.news_of_block (cs:=(([.string ⟨s.toArray⟩,.string ⟨([]:List UInt8).toArray⟩]:List Value)).toArray) (t:=74) (fr:=(0,0)) (heap_alloc_new w2.drew _)) (by simp[Value.oneCell']) (by omega) (by unfold maxLen;omega) (by omega) (by simp;omega) _ rfl ?_;intro g5 cap w5 hown5 hg5 hor5 hl5;replace hg5:World.grownBy (w2.drew.alloc (.cells (([.string ⟨s.toArray⟩,.string ⟨([]:List UInt8).toArray⟩]:List Value)).toArray 74)) w5 sv.ownBlock:=hg5;have hkv5:=(HKV.out.drew.alloc (.cells (([.string ⟨s.toArray⟩,.string ⟨([]:List UInt8).toArray⟩]:List Value)).toArray 74)).grown hg5 (λe=>HVN.out _ e.symm rfl);have hP5:=(HP2.out.below (show Below w2.heap.size w2 (w2.drew.alloc (.cells (([.string ⟨s.toArray⟩,.string ⟨([]:List UInt8).toArray⟩]:List Value)).toArray 74)) by exact bl)).grown hg5 (λk hk=>(by have:=(HOL.out k hk).1;omega));have hbut5:But g ws w5:=FL (HB2.out.drew.alloc (.cells (([.string ⟨s.toArray⟩,.string ⟨([]:List UInt8).toArray⟩]:List Value)).toArray 74)) hg5 (λk hk=>(HOL.out k hk).1);have HS5:Hid (((λZ:World=>(Z.cell? ⟨vb,0,none⟩=some (.string ⟨s.toArray⟩)/\Z.cell? ⟨vb,1,none⟩=some (.string ⟨([]:List UInt8).toArray⟩))/\Z.cell? ⟨pv,0,none⟩=some (.pointer (some ⟨g,0,none⟩))) w5)/\w5.cell? ⟨g,9,none⟩=some sv):=⟨⟨⟨hkv5.cell 0,hkv5.cell 1⟩,((HKP.out.drew.alloc (.cells (([.string ⟨s.toArray⟩,.string ⟨([]:List UInt8).toArray⟩]:List Value)).toArray 74)).grown hg5 (λe=>HPN.out _ e.symm rfl)).cell 0⟩,(hP5.blk.cell 9).trans HCO.out⟩;have fO:=hP5.blk.frozen 9;have HP5:=Lib.hid hP5;have HB5:=Lib.hid hbut5;have HO5:=Lib.hid hown5;have HG5:=Lib.hid hg5;have HR5:=Lib.hid hor5;clear hP5 hbut5 hown5 hkv5 hg5 hor5;refine hK.out _ _ ?_ (λhHeld=>?_)
  ·try dsimp only
   first|exact HS5.out|exact HS2.out _ (by exact bl)
  clear hK K;refine ap ?_;refine tI 9 12 [10,11,12] ?_;refine ap ?_;refine tI 10 12 [11,12] ?_;refine ap ?_;refine tI 11 12 [12] ?_;refine ap ?_;refine AV (rs:=[12]) (by kernel_rfl) (by simp) ?_;refine AC.consD rfl (by decide) (λK hK=>?_) AC.nil
  skip
  go_simp;go_wp2_with fail;refine hK.out _ _ ?_;clear hK K;refine ap ?_;refine DI (by kernel_rfl) ?_ _;go_wp2_with fail;go_ret;exact⟨rfl,HB5.out.set 9 _⟩
 |some r=>
  obtain⟨s,b'⟩:=r;have HR:Hid (((AO l b').map λt=>((⟨s,t⟩:Rf),b'+1))=R):=HR.out;rintro en w3 ⟨rfl,cs2,hP3,⟨b2,rfl,kv3,hsl,kp3⟩,hb3⟩;have hP3':=hP3.self;rw[AQ]at hP3';have hP3:PsS g A c l b' (Aa (cs0.setIfInBounds 9 sv) b') w3:=by rw[hP3'];exact hP3
  have hbl:=HLI.out _ rfl;have hpe3:=HPEW.out.but hb3;have HNC:=Lib.hid (Gf g A c l b' _ vb 1 [] w3 (by omega) hP3 (Nat.le_of_lt hgv) (.inl (Nat.ne_of_gt hgv)) (kv3.cell 1) (kv3.frozen 1) hpe3.s);have HNL:Hid (∀t,AO l b'=some t->t.length<=1000):=λt h=>by
   obtain⟨y,hy,rfl⟩:=Bj h;exact hpe3.s y hy
  obtain⟨ON,hON⟩:∃x,AO l b'=x:=⟨_,rfl⟩;rw[hON]at HNC HR HNL;have HP3:=Lib.hid hP3;have HB3:=Lib.hid hb3;have HK3:=Lib.hid kv3;have HKP3:=Lib.hid kp3;have hd3:=kp3.cell 0;clear hb3 HIC hx0 kp3 hP3' hP3 kv3 hpe3 hON;go_wp2_with fail;refine HNC.out.mono ?_;clear hd3;cases ON with
  |none=>
   rintro en w2 ⟨rfl,hb2⟩;have hR:R=none:=HR.out.symm;subst hR;have hP2:=HP3.out.below hb2;have kv2:=HK3.out.below hb2 HK3.out.lt;have hcO:=HC0.out b';have hbw2:=HB3.out.trans (But.of_below hb2);have hbut2:=HBS.out.trans hbw2;have hown2:w2.ownsRow ws.heap.size 74 2 sv n (xs.flatMap Rf.cells):=by rw[<-HN.out];exact DD HO.out hbw2 HGW.out
   have HKP:=Lib.hid (HKP3.out.below hb2 HKP3.out.lt);clear hb2 hbw2 HNC;have xO:w2.cell? ⟨g,9,none⟩=some sv:=(hP2.blk.cell 9).trans hcO;have fO:=hP2.blk.frozen 9;have hgw2:g<w2.heap.size:=hP2.blk.lt;have hws2:ws.heap.size<=w2.heap.size:=hbut2.size;have HS2:Hid (∀Z:World,Below w2.heap.size w2 Z->((Z.cell? ⟨vb,0,none⟩=some (.string ⟨s.toArray⟩)/\Z.cell? ⟨vb,1,none⟩=some (.string ⟨([]:List UInt8).toArray⟩))/\Z.cell? ⟨pv,0,none⟩=some (.pointer (some ⟨g,0,none⟩)))/\Z.cell? ⟨g,9,none⟩=some sv):=λZ hz=>⟨⟨⟨(kv2.below hz kv2.lt).cell 0,(kv2.below hz kv2.lt).cell 1⟩,(HKP.out.below hz HKP.out.lt).cell 0⟩,(hz.cell (p:=⟨g,9,none⟩) hgw2).trans xO⟩
   have HCO:=Lib.hid hcO;have HP2:=Lib.hid hP2;have HOW:=Lib.hid hown2;have HOL:=Lib.hid hown2.lt;have HKV:=Lib.hid kv2;have HB2:=Lib.hid hbut2;have hgws:g<ws.heap.size:=HGW.out;obtain⟨i0,hi0,zi0,zi1,zi2⟩:=info_parts UJ;clear hP2 hown2 kv2 hbut2 hcO;go_upto_region 3 with fail
   clear xO;refine Bl [12] (λZ=>((Z.cell? ⟨vb,0,none⟩=some (.string ⟨s.toArray⟩)/\Z.cell? ⟨vb,1,none⟩=some (.string ⟨([]:List UInt8).toArray⟩))/\Z.cell? ⟨pv,0,none⟩=some (.pointer (some ⟨g,0,none⟩)))/\Z.cell? ⟨g,9,none⟩=some sv) (by kernel_rfl) ?_ (λhHeld=>?_)
   ·try dsimp only
    first|exact HS5.out|exact HS2.out _ (by exact bl)
   refine tI 0 12 [12] ?_;refine ap ?_;refine tI 1 12 [12] ?_;refine ap ?_;refine tI 2 12 [12] ?_;refine ap ?_;refine tI 3 12 [12] ?_;refine ap ?_;refine tI 4 12 [12] ?_;refine ap ?_;refine tI 5 12 [12] ?_;refine ap ?_;refine tI 6 12 [12] ?_;refine ap ?_;refine AV (rs:=[7]) (by kernel_rfl) (by simp) ?_;refine AC.consT rfl (λK hK=>?_) AC.nil;go_simp
   skip
   go_wp2_with fail;refine hK.out _ _ ?_ (λhHeld=>?_)
   ·try dsimp only
    first|exact HS5.out|exact HS2.out _ (by exact bl)
   clear hK K;refine ap ?_;refine AV (rs:=[8]) (by kernel_rfl) (by simp) ?_;refine AC.consT rfl (λK hK=>?_) AC.nil;refine step_append_lies _ rfl (.tmp 18) (.tmp 20) 25 rfl ws.heap.size 74 i0 _ 2 32 Tryz.underlying25 hi0 zi0 zi1 zi2 rfl (by decide) sv n (xs.flatMap Rf.cells) (by simp[Act.eval]) (HOW.out.drew.alloc _) ⟨w2.heap.size,0,none⟩ 1 1 ([.string ⟨s.toArray⟩,.string ⟨([]:List UInt8).toArray⟩]:List Value) (by simp[Act.eval]) rfl (World.news_of_block (cs:=(([.string ⟨s.toArray⟩,.string ⟨([]:List UInt8).toArray⟩]:List Value)).toArray) (t:=74) (fr:=(0,0)) (heap_alloc_new w2.drew _)) (by simp[Value.oneCell']) (by omega) (by unfold maxLen;omega) (by omega) (by simp;omega) _ rfl ?_;intro g5 cap w5 hown5 hg5 hor5 hl5;replace hg5:World.grownBy (w2.drew.alloc (.cells (([.string ⟨s.toArray⟩,.string ⟨([]:List UInt8).toArray⟩]:List Value)).toArray 74)) w5 sv.ownBlock:=hg5;have hkv5:=(HKV.out.drew.alloc (.cells (([.string ⟨s.toArray⟩,.string ⟨([]:List UInt8).toArray⟩]:List Value)).toArray 74)).grown hg5 (λe=>HVN.out _ e.symm rfl);have hP5:=(HP2.out.below (show Below w2.heap.size w2 (w2.drew.alloc (.cells (([.string ⟨s.toArray⟩,.string ⟨([]:List UInt8).toArray⟩]:List Value)).toArray 74)) by exact bl)).grown hg5 (λk hk=>(by have:=(HOL.out k hk).1;omega));have hbut5:But g ws w5:=FL (HB2.out.drew.alloc (.cells (([.string ⟨s.toArray⟩,.string ⟨([]:List UInt8).toArray⟩]:List Value)).toArray 74)) hg5 (λk hk=>(HOL.out k hk).1);have HS5:Hid (((λZ:World=>(Z.cell? ⟨vb,0,none⟩=some (.string ⟨s.toArray⟩)/\Z.cell? ⟨vb,1,none⟩=some (.string ⟨([]:List UInt8).toArray⟩))/\Z.cell? ⟨pv,0,none⟩=some (.pointer (some ⟨g,0,none⟩))) w5)/\w5.cell? ⟨g,9,none⟩=some sv):=⟨⟨⟨hkv5.cell 0,hkv5.cell 1⟩,((HKP.out.drew.alloc (.cells (([.string ⟨s.toArray⟩,.string ⟨([]:List UInt8).toArray⟩]:List Value)).toArray 74)).grown hg5 (λe=>HPN.out _ e.symm rfl)).cell 0⟩,(hP5.blk.cell 9).trans HCO.out⟩;have fO:=hP5.blk.frozen 9;have HP5:=Lib.hid hP5;have HB5:=Lib.hid hbut5;have HO5:=Lib.hid hown5;have HG5:=Lib.hid hg5;have HR5:=Lib.hid hor5;clear hP5 hbut5 hown5 hkv5 hg5 hor5;refine hK.out _ _ ?_ (λhHeld=>?_)
   ·try dsimp only
    first|exact HS5.out|exact HS2.out _ (by exact bl)
   clear hK K;refine ap ?_;refine tI 9 12 [10,11,12] ?_;refine ap ?_;refine tI 10 12 [11,12] ?_;refine ap ?_;refine tI 11 12 [12] ?_;refine ap ?_;refine AV (rs:=[12]) (by kernel_rfl) (by simp) ?_;refine AC.consD rfl (by decide) (λK hK=>?_) AC.nil
   skip
   go_simp;go_wp2_with fail;refine hK.out _ _ ?_;clear hK K;refine ap ?_;refine DI (by kernel_rfl) ?_ _;go_wp2_with fail;go_ret;exact⟨rfl,HB5.out.set 9 _⟩
  |some t=>
   have hR:R=some (⟨s,t⟩,b'+1):=HR.out.symm;subst hR;rintro en w2 ⟨rfl,w1,hb1,hw2⟩;have hP1:=HP3.out.below hb1;have hP2:PsS g A c l (b'+1) (Aa (cs0.setIfInBounds 9 sv) (b'+1)) w2:=by
    have h1:=((show PsS g A c l b' _ _ from⟨hP1.blk.far (p:=⟨vb,1,none⟩) (Nat.ne_of_lt hgv) (.string ⟨t.toArray⟩),hP1.c0,hP1.c1,hP1.tk.below (bwS bwR (Nat.le_of_lt hgv))⟩).below (Below.drew (Below.refl _ _))).move (b'+1);rw[AQ]at h1;rw[hw2];exact h1
   have kv2:Blk w2 vb 74 #[.string ⟨s.toArray⟩,.string ⟨t.toArray⟩]:=by
    rw[hw2];exact(((HK3.out.below hb1 HK3.out.lt).set_ 1 (.string ⟨t.toArray⟩)).drew).far (p:=⟨g,1,none⟩) (Nat.ne_of_gt hgv) _
   have kp2:Blk w2 pv 97 #[.pointer (some ⟨g,0,none⟩)]:=by
    rw[hw2];exact(((HKP3.out.below hb1 HKP3.out.lt).far (p:=⟨vb,1,none⟩) (Nat.ne_of_lt hpvb) (.string ⟨t.toArray⟩)).drew).far (p:=⟨g,1,none⟩) hpg _
   have hcO:=HC0.out (b'+1);have hwv:w.heap.size<=vb:=by have:=HPV.out;omega
   have hbw2:But g w w2:=by
    rw[hw2];exact(((HB3.out.trans (But.of_below (p:=g) hb1)).own (g:=vb) hwv 1 (.string ⟨t.toArray⟩)).drew).set 1 _
   have hbut2:=HBS.out.trans hbw2;have hown2:w2.ownsRow ws.heap.size 74 2 sv n (xs.flatMap Rf.cells):=by rw[<-HN.out];exact DD HO.out hbw2 HGW.out
   have HKP:=Lib.hid kp2;have HFT:Hid (∀y∈xs++[(⟨s,t⟩:Rf)],XW y):=λy hy=>by
    rcases List.mem_append.1 hy with h|h
    ·exact HFV.out y h
    ·rw[List.mem_singleton]at h;subst h;exact⟨hsl,HNL.out _ rfl⟩
   clear hw2 hb1 hP1 hbw2 HNC kp2;have xO:w2.cell? ⟨g,9,none⟩=some sv:=(hP2.blk.cell 9).trans hcO;have fO:=hP2.blk.frozen 9;have hgw2:g<w2.heap.size:=hP2.blk.lt;have hws2:ws.heap.size<=w2.heap.size:=hbut2.size;have HS2:Hid (∀Z:World,Below w2.heap.size w2 Z->((Z.cell? ⟨vb,0,none⟩=some (.string ⟨s.toArray⟩)/\Z.cell? ⟨vb,1,none⟩=some (.string ⟨(t:List UInt8).toArray⟩))/\Z.cell? ⟨pv,0,none⟩=some (.pointer (some ⟨g,0,none⟩)))/\Z.cell? ⟨g,9,none⟩=some sv):=λZ hz=>⟨⟨⟨(kv2.below hz kv2.lt).cell 0,(kv2.below hz kv2.lt).cell 1⟩,(HKP.out.below hz HKP.out.lt).cell 0⟩,(hz.cell (p:=⟨g,9,none⟩) hgw2).trans xO⟩
   have HCO:=Lib.hid hcO;have HP2:=Lib.hid hP2;have HOW:=Lib.hid hown2;have HOL:=Lib.hid hown2.lt;have HKV:=Lib.hid kv2;have HB2:=Lib.hid hbut2;have hgws:g<ws.heap.size:=HGW.out;obtain⟨i0,hi0,zi0,zi1,zi2⟩:=info_parts UJ;clear hP2 hown2 kv2 hbut2 hcO;go_upto_region 3 with fail
   clear xO;refine Bl [12] (λZ=>((Z.cell? ⟨vb,0,none⟩=some (.string ⟨s.toArray⟩)/\Z.cell? ⟨vb,1,none⟩=some (.string ⟨(t:List UInt8).toArray⟩))/\Z.cell? ⟨pv,0,none⟩=some (.pointer (some ⟨g,0,none⟩)))/\Z.cell? ⟨g,9,none⟩=some sv) (by kernel_rfl) ?_ (λhHeld=>?_)
   ·try dsimp only
    first|exact HS5.out|exact HS2.out _ (by exact bl)
   refine tI 0 12 [12] ?_;refine ap ?_;refine tI 1 12 [12] ?_;refine ap ?_;refine tI 2 12 [12] ?_;refine ap ?_;refine tI 3 12 [12] ?_;refine ap ?_;refine tI 4 12 [12] ?_;refine ap ?_;refine tI 5 12 [12] ?_;refine ap ?_;refine tI 6 12 [12] ?_;refine ap ?_;refine AV (rs:=[7]) (by kernel_rfl) (by simp) ?_;refine AC.consT rfl (λK hK=>?_) AC.nil;go_simp
   skip
   go_wp2_with fail;refine hK.out _ _ ?_ (λhHeld=>?_)
   ·try dsimp only
    first|exact HS5.out|exact HS2.out _ (by exact bl)
   clear hK K;refine ap ?_;refine AV (rs:=[8]) (by kernel_rfl) (by simp) ?_;refine AC.consT rfl (λK hK=>?_) AC.nil;refine step_append_lies _ rfl (.tmp 18) (.tmp 20) 25 rfl ws.heap.size 74 i0 _ 2 32 Tryz.underlying25 hi0 zi0 zi1 zi2 rfl (by decide) sv n (xs.flatMap Rf.cells) (by simp[Act.eval]) (HOW.out.drew.alloc _) ⟨w2.heap.size,0,none⟩ 1 1 ([.string ⟨s.toArray⟩,.string ⟨(t:List UInt8).toArray⟩]:List Value) (by simp[Act.eval]) rfl (World.news_of_block (cs:=(([.string ⟨s.toArray⟩,.string ⟨(t:List UInt8).toArray⟩]:List Value)).toArray) (t:=74) (fr:=(0,0)) (heap_alloc_new w2.drew _)) (by simp[Value.oneCell']) (by omega) (by unfold maxLen;omega) (by omega) (by simp;omega) _ rfl ?_;intro g5 cap w5 hown5 hg5 hor5 hl5;replace hg5:World.grownBy (w2.drew.alloc (.cells (([.string ⟨s.toArray⟩,.string ⟨(t:List UInt8).toArray⟩]:List Value)).toArray 74)) w5 sv.ownBlock:=hg5;have hkv5:=(HKV.out.drew.alloc (.cells (([.string ⟨s.toArray⟩,.string ⟨(t:List UInt8).toArray⟩]:List Value)).toArray 74)).grown hg5 (λe=>HVN.out _ e.symm rfl);have hP5:=(HP2.out.below (show Below w2.heap.size w2 (w2.drew.alloc (.cells (([.string ⟨s.toArray⟩,.string ⟨(t:List UInt8).toArray⟩]:List Value)).toArray 74)) by exact bl)).grown hg5 (λk hk=>(by have:=(HOL.out k hk).1;omega));have hbut5:But g ws w5:=FL (HB2.out.drew.alloc (.cells (([.string ⟨s.toArray⟩,.string ⟨(t:List UInt8).toArray⟩]:List Value)).toArray 74)) hg5 (λk hk=>(HOL.out k hk).1);have HS5:Hid (((λZ:World=>(Z.cell? ⟨vb,0,none⟩=some (.string ⟨s.toArray⟩)/\Z.cell? ⟨vb,1,none⟩=some (.string ⟨(t:List UInt8).toArray⟩))/\Z.cell? ⟨pv,0,none⟩=some (.pointer (some ⟨g,0,none⟩))) w5)/\w5.cell? ⟨g,9,none⟩=some sv):=⟨⟨⟨hkv5.cell 0,hkv5.cell 1⟩,((HKP.out.drew.alloc (.cells (([.string ⟨s.toArray⟩,.string ⟨(t:List UInt8).toArray⟩]:List Value)).toArray 74)).grown hg5 (λe=>HPN.out _ e.symm rfl)).cell 0⟩,(hP5.blk.cell 9).trans HCO.out⟩;have fO:=hP5.blk.frozen 9;have HP5:=Lib.hid hP5;have HB5:=Lib.hid hbut5;have HO5:=Lib.hid hown5;have HG5:=Lib.hid hg5;have HR5:=Lib.hid hor5;clear hP5 hbut5 hown5 hkv5 hg5 hor5;refine hK.out _ _ ?_ (λhHeld=>?_)
   ·try dsimp only
    first|exact HS5.out|exact HS2.out _ (by exact bl)
   clear hK K;refine ap ?_;refine tI 9 12 [10,11,12] ?_;refine ap ?_;refine tI 10 12 [11,12] ?_;refine ap ?_;refine tI 11 12 [12] ?_;refine ap ?_;refine AV (rs:=[12]) (by kernel_rfl) (by simp) ?_;refine AC.consD rfl (by decide) (λK hK=>?_) AC.nil
   skip
   go_simp;go_wp2_with fail;refine hK.out _ _ ?_;clear hK K;refine ap ?_;refine DI (by kernel_rfl) ?_ _;go_wp2_with fail;go_ret;exact⟨rfl,_,HP5.out.set 9 (by decide) _,⟨some ⟨g5,0,none⟩,cap,b'+1,by have hN:=HN.out;subst hN;rw[HCS.out];simp,by have hN:=HN.out;subst hN;simpa[Rf.cells]using I7 HO5.out (p:=⟨g,9,none⟩) (λk hk _ e=>by simp at e;omega) (.slice (some ⟨g5,0,none⟩) (xs.length+1) cap),HFT.out,by simp;exact HB5.out.size⟩,HB5.out.set 9 _⟩
end Go.Proofs.YtchilcchogcibaaGreatDoor
