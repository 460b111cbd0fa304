/- What stands behind UPDATE, as a plain function. -/
import Derived.Test.YtchilcchogcibaaGreatDoorFFew5
import Derived.Test.YtchilcchogcibaaGreatDoorFPs13
set_option maxRecDepth 100000
set_option maxHeartbeats 8000000
namespace Go.Proofs.YtchilcchogcibaaGreatDoor
open Go.RowKit
attribute [local go_sem] ByteArray.extract_mk Ak AY
attribute [local go_sem ↓] Go.wp_at_zero Go.wp_at_succ
def QX(l:List Tok)(a:Nat):Option (Se×Nat):=(AO l a).bind λn=>if hit l (a+1) [61]then(Dc l (a+2)).map λr=>(⟨n,r.1⟩,r.2)else none
def stU(tb:List UInt8)(sets:List Se)(e:Ex):St:=⟨[117,112,100,97,116,101],tb,[],[],[],[],[],[],ex0,[],sets,e,[]⟩
def pU(A:Option Addr)(c:Nat)(B:Option Addr)(d:Nat):StP:=⟨slZ,slZ,slZ,slZ,slZ,slZ,⟨A,c⟩,⟨B,d⟩⟩
def J4(l:List Tok):Option (St×Nat):=(AO l 1).bind λt=>if hit l 2 [83,69,84]then(Bd l (QX l) (l.length+1) 3).bind λq=>(Dn l q.2).map λr=>(stU t q.1 r.1,r.2)else none
theorem WW{l:List Tok}{a:Nat}{r:Ex×Nat}(h:Dc l a=some r):a<=r.2:=by
 unfold Dc at h;split at h
 ·injection h with h
  subst h;exact Nat.le_add_right _ _
 ·cases h
theorem Ul{l:List Tok}(hl:l.length<=990)(hs:∀t∈l,t.s.length<=1000){b:Nat}{r:Se×Nat}(h:QX l b=some r):b<r.2/\r.2<=l.length:=by
 unfold QX at h;cases hn:AO l b with
 |none=>rw[hn]at h;cases h
 |some n=>
  rw[hn]at h;simp only[Option.bind_some]at h;split at h
  ·rename_i h1
   cases he:Dc l (b+2)with
   |none=>rw[he]at h;cases h
   |some e=>
    rw[he]at h
    injection h with h
    subst h;have h2:=DZ h1;have:=PX hl hs (by omega) he;have:=WW he;simp only;omega
  ·cases h
def QY(x:Se):Prop:=x.n.length<=1000/\x.e.fit 1000
def KU(t:List UInt8)(n:Nat)(A:Option Addr)(c base:Nat)(xs:List Se)(cs:Array Value)(w:World):Prop:=
 ∃A' c' b,cs=psC A n c b ((stU t xs ex0).cells (pU A' c' none 0))/\BP w 76 base (.slice A' xs.length c') xs/\(∀x∈xs,QY x)/\base<=w.heap.size
theorem BP.but'{p:Nat}{w w':World}{e:TypeId}{lo:Nat}{sv:Value}{l:List Se}(h:BP w e lo sv l)(hb:But p w w')(hp:p<lo):BP w' e lo sv l:=by
 obtain⟨recs,h1,h2,h3⟩:=h;exact⟨recs,h1,DD h2 hb hp,λq hq=>(h3 q hq).keep λb hb'=>⟨⟨hb'.1,Nat.lt_of_lt_of_le hb'.2.1 hb.size,hb'.2.2⟩,λo=>hb.cell hb'.2.1 (by omega) o⟩⟩
theorem BP.from{w:World}{e:TypeId}{lo lo':Nat}{sv:Value}{l:List Se}(h:BP w e lo sv l)(hB:lo'<=lo):BP w e lo' sv l:=by
 obtain⟨recs,h1,h2,h3⟩:=h;exact⟨recs,h1,⟨h2.1,h2.2.imp id λ⟨k,cap,cur,hv,hk,r⟩=>⟨k,cap,cur,hv,Nat.le_trans hB hk,r⟩⟩,λq hq=>(h3 q hq).keep λb hb'=>⟨⟨Nat.le_trans hB hb'.1,hb'.2⟩,λo=>rfl⟩⟩
theorem KU.stay{t:List UInt8}{n:Nat}{A:Option Addr}{c base g:Nat}(hg:g<base):Gs g (KU t n A c base):=λxs cs W W' b ⟨A',c',b0,h1,h2,h3,h4⟩ hb=>
 ⟨A',c',b,by rw[h1,Ad],h2.but' hb hg,h3,Nat.le_trans h4 hb.size⟩
theorem But.ownL{g b:Nat}{a:World}(hb:a.heap.size<=b):∀(vs:List Value) (o:Nat) {w':World},But g a w'->But g a (w'.setCells b o vs)
 |[],_,_,h=>h
 |v::r,o,_,h=>But.ownL hb r (o+1) (h.own (g:=b) hb o v)
theorem aJ(q:SeC):∀u∈q.cells,u.oneCell'=true:=by
 intro u hu;simp only[SeC.cells,Ex.cells,List.mem_cons,List.not_mem_nil,or_false]at hu;rcases hu with rfl|rfl|rfl|rfl|rfl|rfl|rfl<;>rfl
theorem XU(nm:List UInt8)(e e':Ex)(A A':Option Addr)(c c':Nat):Gm ((SeC.mk nm e A c).cells).toArray 1 (e'.cells A' c')=((SeC.mk nm e' A' c').cells).toArray:=by
 simp only[SeC.cells,Ex.cells,Gm,List.setIfInBounds_toArray];rfl
theorem ai:(Tryz.prog.info? 76).map (λi=>(i.zero,i.size,i.bytes))=some (some (.agg #[.string ⟨#[]⟩,.string ⟨#[]⟩,.int .i64 0,.int .i64 0,.string ⟨#[]⟩,.string ⟨#[]⟩,.slice none 0 0]),7,104):=by kernel_rfl
theorem aj:(Tryz.prog.info? 76).map (·.size)=some 7:=by kernel_rfl
theorem QZ(g pv:Nat)(A:Option Addr)(c:Nat)(l:List Tok)(a:Nat)(cs:Array Value)(t:List UInt8)(xs:List Se)(ws w:World)(hp:PsE g c l w)(ha:a<=l.length)(hP:PsS g A c l a cs w)(hv:ws.cell? ⟨pv,0,none⟩=some (.pointer (some ⟨g,0,none⟩)))(hpg:pv≠g)(hg:g<ws.heap.size)(hbs:But g ws w)(hn:xs.length<=990)(hK:KU t l.length A c ws.heap.size xs cs w):
  Calls Tryz.prog 174 #[.pointer (some ⟨pv,0,none⟩)] w (FP ((QX l a).map λr=>(xs++[r.1],r.2)) g A c l (KU t l.length A c ws.heap.size) ws):=by
 have hpl:pv<ws.heap.size:=Ag hv;have hl:=hp.n;obtain⟨A',c',b0,rfl,hso,hfit,-⟩:=hK;obtain⟨sv,hsv⟩:∃v,Value.slice A' xs.length c'=v:=⟨_,rfl⟩;rw[hsv]at hso;have HC0:Hid (∀b,(Aa (psC A l.length c b0 ((stU t xs ex0).cells (pU A' c' none 0))) b)[17]? = some sv):=λb=>by rw[<-hsv,Ad];rfl
 have hc0:(psC A l.length c b0 ((stU t xs ex0).cells (pU A' c' none 0)))[17]? = some sv:=by rw[<-hsv];rfl
 have HCS:Hid (∀(b:Nat) (ys:List Se) (A7:Option Addr) (c7:Nat),(Aa (psC A l.length c b0 ((stU t xs ex0).cells (pU A' c' none 0))) b).setIfInBounds 17 (.slice A7 ys.length c7)=psC A l.length c b ((stU t ys ex0).cells (pU A7 c7 none 0))):=λb ys A7 c7=>by rw[Ad,XZ];rfl
 obtain⟨w0,hw0⟩:∃w0,w.alloc (.cells #[.string ⟨#[]⟩,.string ⟨#[]⟩,.int .i64 0,.int .i64 0,.string ⟨#[]⟩,.string ⟨#[]⟩,.slice none 0 0] 76)=w0:=⟨_,rfl⟩;have k0:Blk w0 w.heap.size 76 ((SeC.mk [] ex0 none 0).cells).toArray:=by rw[<-hw0];exact Blk.new _ _ _
 have hb0:Below w.heap.size w w0:=by rw[<-hw0];exact bl
 have hgw0:g<w.heap.size:=hP.blk.lt;have hP0:=hP.below hb0;have hbs0:=hbs.trans (But.of_below (p:=g) hb0);have HVN:Hid (∀k,sv.ownBlock=some k->k≠w.heap.size):=λk hk=>by
  obtain⟨recs,_,h2,_⟩:=hso;exact Nat.ne_of_lt (h2.lt k hk).2
 have HVL:Hid (∀k,sv.ownBlock=some k->k<w.heap.size):=λk hk=>by
  obtain⟨recs,_,h2,_⟩:=hso;exact(h2.lt k hk).2
 have hpvw:pv≠w.heap.size:=by have:=hbs.size;omega
 have d0w:w0.cell? ⟨pv,0,none⟩=some (.pointer (some ⟨g,0,none⟩)):=(hbs0.cell hpl hpg 0).trans hv;have HPVA:Hid (∀Z:World,But g ws Z->Z.cell? ⟨pv,0,none⟩=some (.pointer (some ⟨g,0,none⟩))):=λZ hz=>(hz.cell hpl hpg 0).trans hv
 have HNC:=Lib.hid (Gf g A c l a _ w.heap.size 0 [] w0 (by omega) hP0 (Nat.le_of_lt hgw0) (.inl (by omega)) (k0.cell 0) (k0.frozen 0) hp.s);obtain⟨R,hR⟩:∃R,QX l a=R:=⟨_,rfl⟩;rw[hR];unfold QX at hR;obtain⟨ON,hON⟩:∃o,AO l a=o:=⟨_,rfl⟩;obtain⟨B,hB⟩:∃o,hit l (a+1) [61]=o:=⟨_,rfl⟩;have HBL:Hid (B=true->a+2<=l.length):=λh=>DZ (hB.trans h)
 have HAL:Hid (∀s,ON=some s->a+1<=l.length):=λs h=>Dz (hON.trans h)
 have HBB:=Lib.hid hB;have HNL:Hid (∀s,ON=some s->s.length<=1000):=λs h=>by
  obtain⟨y,hy,rfl⟩:=Bj (hON.trans h);exact hp.s y hy
 rw[hON,hB]at hR;rw[hON]at HNC;have HR:=Lib.hid hR;obtain⟨n,hN⟩:∃n,xs.length=n:=⟨_,rfl⟩;rw[hN]at hn;have HN:=Lib.hid hN;have HFV:=Lib.hid hfit;have HBS:=Lib.hid hbs;have HBW0:=Lib.hid (But.of_below (p:=g) hb0);have HGW:=Lib.hid hg;have HPW:=Lib.hid hpl;have HPG:=Lib.hid hpg;have HV0:=Lib.hid hv;have HSW:=Lib.hid hbs.size;have HW:=Lib.hid hw0;have HK0:=Lib.hid k0;have HP0:=Lib.hid hP0;have HO:=Lib.hid hso;have HG0:=Lib.hid hgw0;have HPEW:=Lib.hid hp;obtain⟨cs0,hcs0⟩:∃x,psC A l.length c b0 ((stU t xs ex0).cells (pU A' c' none 0))=x:=⟨_,rfl⟩;rw[hcs0]at HC0 hc0 HP0 HCS;have HC00:=Lib.hid hc0;clear hR hON hB hw0 k0 hP0 hcs0 hc0 hN hsv hso hfit hP hv hbs hbs0 hp hb0 hpl hpg hg hgw0;go_in
 go_upto_region 2 with fail
 rw[show w.alloc _=w0 from HW.out];clear HW;go_cut [3]from 4 to 16 (λs wx=>∃(x:SeC) (b:Nat) (B:Bool),s=.bool B/\(R=some (⟨x.n,x.e⟩,b)/\B=true/\QY ⟨x.n,x.e⟩/\ExR (λk=>ws.heap.size<=k/\k<wx.heap.size/\some k≠sv.ownBlock) x.e x.A x.c wx\/R=none/\B=false)/\PsS g A c l b (Aa cs0 b) wx/\Blk wx w.heap.size 76 (x.cells).toArray/\But g w wx)
 case first=>
  go_wp2_with fail;refine HNC.out.mono ?_;cases ON with
  |none=>
   have hR:R=none:=HR.out.symm;subst hR;rintro en w2 ⟨rfl,hb2⟩;have HBM:=Lib.hid (HBW0.out.trans (But.of_below hb2));have HKM:=Lib.hid (HK0.out.below hb2 HK0.out.lt);have HPM:Hid (PsS g A c l a (Aa cs0 a) w2):=Lib.hid (by have h:=HP0.out.below hb2;rw[h.self];exact h);clear hb2 HNC d0w;go_wp2_with fail;go_meet;exact⟨⟨[],ex0,none,0⟩,a,false,rfl,.inr ⟨by first|rfl|trivial,rfl⟩,HPM.out,HKM.out,HBM.out⟩
  |some nm=>
   have HR:Hid ((if B then(Dc l (a+2)).map λr=>((⟨nm,r.1⟩:Se),r.2)else none)=R):=HR.out;have hnm:=HNL.out _ rfl;rintro en w3 ⟨rfl,w1,hb1,hw3⟩;have hlk:=HK0.out.lt;have hg0:=HG0.out;have hP1:=HP0.out.below hb1;have hP3:PsS g A c l (a+1) (Aa cs0 (a+1)) w3:=by
    rw[hw3];exact((show PsS g A c l a _ _ from⟨hP1.blk.far (p:=⟨w.heap.size,0,none⟩) (by show g≠w.heap.size;omega) (.string ⟨nm.toArray⟩),hP1.c0,hP1.c1,hP1.tk.below (bwS bwR (Nat.le_of_lt hg0))⟩).below (Below.drew (Below.refl _ _))).move (a+1)
   have kv3:Blk w3 w.heap.size 76 ((SeC.mk nm ex0 none 0).cells).toArray:=by
    rw[hw3];exact(((HK0.out.below hb1 hlk).set_ 0 (.string ⟨nm.toArray⟩)).drew).far (p:=⟨g,1,none⟩) (by show w.heap.size≠g;omega) _
   have hbw3:But g w w3:=by
    rw[hw3];exact(((HBW0.out.trans (But.of_below (p:=g) hb1)).own (g:=w.heap.size) (Nat.le_refl _) 0 (.string ⟨nm.toArray⟩)).drew).set 1 _
   obtain⟨w4,hw4⟩:∃x,w3.alloc (.cells #[.string ⟨([61]:List UInt8).toArray⟩] 9)=x:=⟨_,rfl⟩;have k4:Blk w4 w3.heap.size 9 #[.string ⟨([61]:List UInt8).toArray⟩]:=by rw[<-hw4];exact Blk.new _ _ _
   have hb34:Below w3.heap.size w3 w4:=by rw[<-hw4];exact bl
   have hg3:=hP3.blk.lt;have hat:a+1<=l.length:=HAL.out _ rfl;have HW4:=Lib.hid (CG g A c l (a+1) _ [61] w3.heap.size 1 w4 (by omega) (hP3.below hb34) (k4.cell 0) (by omega));rw[HBB.out,AQ]at HW4;have HBW4:=Lib.hid (hbw3.trans (But.of_below (p:=g) hb34));have HK4:=Lib.hid (kv3.below hb34 kv3.lt);have HWE:=Lib.hid hw4;have d3:w3.cell? ⟨pv,0,none⟩=some (.pointer (some ⟨g,0,none⟩)):=HPVA.out _ (HBS.out.trans hbw3);have d4:w4.cell? ⟨pv,0,none⟩=some (.pointer (some ⟨g,0,none⟩)):=HPVA.out _ (HBS.out.trans HBW4.out);have hvg:w.heap.size≠g:=by omega
   clear hw3 hb1 hP1 hP3 kv3 hbw3 hw4 k4 hb34 HNC d0w;go_wp2_with fail;rw[show World.alloc w3 _=w4 from HWE.out];clear d3 HWE;refine HW4.out.mono ?_;rintro en w2 ⟨rfl,hP2,hb2⟩;have hbw2:=HBW4.out.trans hb2;have hbut2:=HBS.out.trans hbw2;have d0:w2.cell? ⟨pv,0,none⟩=some (.pointer (some ⟨g,0,none⟩)):=HPVA.out _ hbut2;have kv2:=hb2.blk HK4.out hvg;clear d4 HW4;cases B with
   |false=>
    have hR:R=none:=HR.out.symm;subst hR;have HPM:Hid (PsS g A c l (a+1) (Aa cs0 (a+1)) w2):=hP2;have HKM:=Lib.hid kv2;have HBM:=Lib.hid hbw2;clear hb2 hbw2 hP2 kv2 d0 hbut2;go_wp2_with fail;go_meet;exact⟨⟨nm,ex0,none,0⟩,a+1,false,rfl,.inr ⟨by first|rfl|trivial,rfl⟩,HPM.out,HKM.out,HBM.out⟩
   |true=>
    have HR:Hid (((Dc l (a+2)).map λr=>((⟨nm,r.1⟩:Se),r.2))=R):=HR.out;have hP2':PsS g A c l (a+2) (Aa cs0 (a+2)) w2:=hP2;have hbw0:=HBW0.out.size;have hpe2:PsE g c l w2:=HPEW.out.but hbw2;have HX:=Lib.hid (PD g A c l (a+2) _ w.heap.size 1 w2 hpe2.n hpe2.s hpe2.c (HBL.out rfl) hP2' hpe2.e (.inl hvg) (Ky kv2 (by show 7<=7;decide)) kv2.lt);obtain⟨OX,hOX⟩:∃x,Dc l (a+2)=x:=⟨_,rfl⟩;rw[hOX]at HX HR;have HB2:=Lib.hid hbw2;have HK2:=Lib.hid kv2;have HP2:=Lib.hid hP2';clear hP2 hP2' hbw2 hbut2 kv2 hb2 hpe2 hOX;go_wp2_with fail;clear d0;refine HX.out.mono ?_;intro en w2 hr;cases OX with
    |none=>
     obtain⟨rfl,hb6⟩:=hr;have hR:R=none:=HR.out.symm;subst hR;have HPM:=Lib.hid (HP2.out.below hb6);have HKM:=Lib.hid (HK2.out.below hb6 HK2.out.lt);have HBM:=Lib.hid (HB2.out.trans (But.of_below (p:=g) hb6));clear hb6 HX HK2 HP2 HB2;go_wp2_with fail;go_meet;exact⟨⟨nm,ex0,none,0⟩,a+2,false,rfl,.inr ⟨by first|rfl|trivial,rfl⟩,HPM.out,HKM.out,HBM.out⟩
    |some r=>
     obtain⟨e,b'⟩:=r;have hR:R=some (⟨nm,e⟩,b'):=HR.out.symm;subst hR;obtain⟨A5,c5,w7,rfl,hb7,hE7,hw2⟩:=hr;have hz7:=hb7.size;have hvl:=HK2.out.lt;have hg2:=HP2.out.blk.lt;have hgv:g<w.heap.size:=HG0.out;have hP2:PsS g A c l b' (Aa cs0 b') w2:=by
      have h1:=((HP2.out.below hb7).farL (b:=w.heap.size) hgv (e.cells A5 c5) 1).move b';rw[AQ]at h1;rw[hw2];exact h1
     have kv2:Blk w2 w.heap.size 76 ((SeC.mk nm e A5 c5).cells).toArray:=by
      rw[hw2,<-XU nm ex0 e none A5 0 c5];exact(Blk.setL (e.cells A5 c5) 1 (HK2.out.below hb7 hvl)).far (p:=⟨g,1,none⟩) hvg _
     have hbw6:But g w w2:=by
      rw[hw2];exact(But.ownL (g:=g) (Nat.le_refl w.heap.size) (e.cells A5 c5) 1 (HB2.out.trans (But.of_below (p:=g) hb7))).set 1 _
     have hsw:=HSW.out;have hE2:ExR (λb=>ws.heap.size<=b/\b<w2.heap.size/\some b≠sv.ownBlock) e A5 c5 w2:=hE7.keep λk hk=>by
      refine⟨⟨by have:=hk.1;omega,by rw[hw2];simp[G8];exact hk.2,λe=>by have:=HVL.out k e.symm;have:=hk.1;omega⟩,λo=>?_⟩;have h1:k≠g:=by have:=hk.1;omega
      have h2:k≠w.heap.size:=by have:=hk.1;omega
      rw[hw2,World.cell?_setCell_other _ _ _ _ (λe=>h1 (congrArg Addr.block e).symm),World.cell?_setCells_out _ _ _ _ _ (λe _=>absurd e h2)]
     have HE2:=Lib.hid hE2;have HSO:Hid (QY ⟨nm,e⟩):=Lib.hid ⟨hnm,hE7.1⟩;have HPM:=Lib.hid hP2;have HKM:=Lib.hid kv2;have HBM:=Lib.hid hbw6;clear hw2 hb7 hE7 hE2 HX HK2 HP2 HB2 hbw6 hz7 hvl hsw hP2 kv2;go_wp2_with fail;go_meet;exact⟨⟨nm,e,A5,c5⟩,b',true,rfl,.inl ⟨by first|rfl|trivial,rfl,HSO.out,HE2.out⟩,HPM.out,HKM.out,HBM.out⟩
 case rest=>
  obtain⟨x,b,B,rfl,hres,hP2,kv2,hbw2⟩:=hcut;obtain⟨w2,rfl⟩:∃W,W=wc:=⟨_,rfl⟩;obtain⟨nm,e,A5,c5⟩:=x;have hbut2:=HBS.out.trans hbw2;have d0:w2.cell? ⟨pv,0,none⟩=some (.pointer (some ⟨g,0,none⟩)):=HPVA.out _ hbut2;have hc17:=HC0.out b;have hso2:=HO.out.but' hbw2 HGW.out;have HRES:=Lib.hid hres;have HCS:=Lib.hid (λ(ys:List Se) (A7:Option Addr) (c7:Nat)=>HCS.out b ys A7 c7);clear hbw2 hres HNC d0w;obtain⟨recs,hr1,hr2,hr3⟩:=hso2;have hown2:w2.ownsRow ws.heap.size 76 7 sv n (recs.flatMap SeC.cells):=by rw[<-HN.out];exact hr2
  have hcO:=hc17;have HR1:=Lib.hid hr1;have HR3:=Lib.hid hr3;have hpw:pv<ws.heap.size:=HPW.out;clear hr1 hr2 hr3 hc17;have xO:w2.cell? ⟨g,17,none⟩=some sv:=(hP2.blk.cell 17).trans hcO;have fO:=hP2.blk.frozen 17;have hgw2:g<w2.heap.size:=hP2.blk.lt;have hws2:ws.heap.size<=w2.heap.size:=hbut2.size;have HS2:Hid (∀Z:World,Below w2.heap.size w2 Z->(Z.heap[w.heap.size]? = some (.cells ((SeC.mk nm e A5 c5).cells).toArray 76 (0,0))/\Z.cell? ⟨pv,0,none⟩=some (.pointer (some ⟨g,0,none⟩)))/\Z.cell? ⟨g,17,none⟩=some sv):=λZ hz=>⟨⟨kv2.below hz kv2.lt,(hz.cell (p:=⟨pv,0,none⟩) (Ag d0)).trans d0⟩,(hz.cell (p:=⟨g,17,none⟩) hgw2).trans xO⟩
  have HCO:=Lib.hid hcO;have HP2:=Lib.hid hP2;have HOW:=Lib.hid hown2;have HOL:=Lib.hid hown2.lt;have HKV:=Lib.hid kv2;have HB2:=Lib.hid hbut2;have hgws:g<ws.heap.size:=HGW.out;obtain⟨i0,hi0,zi0,zi1,zi2⟩:=info_parts ai;clear hP2 hown2 kv2 hbut2 hcO;go_upto_region 3 with fail
  clear xO;refine Bl [12] (λZ=>(Z.heap[w.heap.size]? = some (.cells ((SeC.mk nm e A5 c5).cells).toArray 76 (0,0))/\Z.cell? ⟨pv,0,none⟩=some (.pointer (some ⟨g,0,none⟩)))/\Z.cell? ⟨g,17,none⟩=some sv) (by kernel_rfl) ?_ (λhHeld=>?_)
  ·try dsimp only
   first|exact HS5.out|exact HS2.out _ (by exact bl)
  refine tI 0 12 [12] ?_;refine ap ?_;refine tI 1 12 [12] ?_;refine ap ?_;refine tI 2 12 [12] ?_;refine ap ?_;refine tI 3 12 [12] ?_;refine ap ?_;refine tI 4 12 [12] ?_;refine ap ?_;refine tI 5 12 [12] ?_;refine ap ?_;refine tI 6 12 [12] (v:=.agg ((#[.string ⟨(nm:List UInt8).toArray⟩,.string ⟨(e).op.toArray⟩,.int .i64 (e).v.k,.int .i64 (e).v.i,.string ⟨(e).v.s.toArray⟩,.string ⟨(e).s.toArray⟩,.slice A5 (e).l.length c5]))) (hy:=Sj (76) _ rfl (by rfl) (w.heap.size) rfl (76) ((#[.string ⟨(nm:List UInt8).toArray⟩,.string ⟨(e).op.toArray⟩,.int .i64 (e).v.k,.int .i64 (e).v.i,.string ⟨(e).v.s.toArray⟩,.string ⟨(e).s.toArray⟩,.slice A5 (e).l.length c5])) _ (Tryz.underlying76) rfl (aj) (λwq hSw=>hSw.1.1)) ?_;refine ap ?_;refine AV (rs:=[7]) (by kernel_rfl) (by simp) ?_;refine AC.consT rfl (λK hK=>?_) AC.nil;go_simp
  skip
  go_wp2_with fail;refine hK.out _ _ ?_ (λhHeld=>?_)
  ·try dsimp only
   first|exact HS5.out|exact HS2.out _ (by exact bl)
  clear hK K;refine ap ?_;refine AV (rs:=[8]) (by kernel_rfl) (by simp) ?_;refine AC.consT rfl (λK hK=>?_) AC.nil;refine step_append_lies _ rfl (.tmp 22) (.tmp 24) 32 rfl ws.heap.size 76 i0 _ 7 104 Tryz.underlying32 hi0 zi0 zi1 zi2 rfl (by decide) sv n (recs.flatMap SeC.cells) (by simp[Act.eval]) (HOW.out.drew.alloc _) ⟨w2.heap.size,0,none⟩ 1 1 (SeC.mk nm e A5 c5).cells (by simp[Act.eval]) rfl (World.news_of_block (cs:=((SeC.mk nm e A5 c5).cells).toArray) (t:=76) (fr:=(0,0)) (heap_alloc_new w2.drew _)) (λu hu=>aJ (SeC.mk nm e A5 c5) u hu) (by omega) (by unfold maxLen;omega) (by omega) (by simp;omega) _ rfl ?_;intro g5 cap w5 hown5 hg5 hor5 hl5;replace hg5:World.grownBy (w2.drew.alloc (.cells ((SeC.mk nm e A5 c5).cells).toArray 76)) w5 sv.ownBlock:=hg5;have hkv5:=(HKV.out.drew.alloc (.cells ((SeC.mk nm e A5 c5).cells).toArray 76)).grown hg5 (λe=>HVN.out _ e.symm rfl);have hP5:=(HP2.out.below (show Below w2.heap.size w2 (w2.drew.alloc (.cells ((SeC.mk nm e A5 c5).cells).toArray 76)) by exact bl)).grown hg5 (λk hk=>(by have:=(HOL.out k hk).1;omega));have hbut5:But g ws w5:=FL (HB2.out.drew.alloc (.cells ((SeC.mk nm e A5 c5).cells).toArray 76)) hg5 (λk hk=>(HOL.out k hk).1);have HS5:Hid (((λZ:World=>Z.heap[w.heap.size]? = some (.cells ((SeC.mk nm e A5 c5).cells).toArray 76 (0,0))/\Z.cell? ⟨pv,0,none⟩=some (.pointer (some ⟨g,0,none⟩))) w5)/\w5.cell? ⟨g,17,none⟩=some sv):=⟨⟨hkv5,(hbut5.cell hpw HPG.out 0).trans HV0.out⟩,(hP5.blk.cell 17).trans HCO.out⟩;have fO:=hP5.blk.frozen 17;have HP5:=Lib.hid hP5;have HB5:=Lib.hid hbut5;have HO5:=Lib.hid hown5;have HG5:=Lib.hid hg5;have HR5:=Lib.hid hor5;clear hP5 hbut5 hown5 hkv5 hg5 hor5;refine hK.out _ _ ?_ (λhHeld=>?_)
  ·try dsimp only
   first|exact HS5.out|exact HS2.out _ (by exact bl)
  clear hK K;refine ap ?_;refine tI 9 12 [10,11,12] ?_;refine ap ?_;refine tI 10 12 [11,12] ?_;refine ap ?_;refine tI 11 12 [12] ?_;refine ap ?_;refine AV (rs:=[12]) (by kernel_rfl) (by simp) ?_;refine AC.consD rfl (by decide) (λK hK=>?_) AC.nil
  skip
  go_simp;go_wp2_with fail;refine hK.out _ _ ?_;clear hK K;refine ap ?_;refine DI (by kernel_rfl) ?_ _;go_wp2_with fail;go_ret;rcases HRES.out with⟨hR,hs,hok,hE2⟩|⟨hR,hs⟩
  ·subst hs;rw[hR];have HSS:BP w5 76 ws.heap.size (.slice (some ⟨g5,0,none⟩) (n+1) cap) (xs++[⟨nm,e⟩]):=BP.step (q0:=⟨nm,e,A5,c5⟩) (w:=w2) (w1:=w2.drew.alloc (.cells ((SeC.mk nm e A5 c5).cells).toArray 76)) HR1.out HR3.out hE2 HN.out.symm HO5.out (by exact bl) HG5.out HR5.out;have HFT:∀y∈xs++[(⟨nm,e⟩:Se)],QY y:=λy hy=>by
    rcases List.mem_append.1 hy with h|h
    ·exact HFV.out y h
    ·rw[List.mem_singleton]at h;subst h;exact hok
   exact⟨rfl,_,HP5.out.set 17 (by decide) _,⟨some ⟨g5,0,none⟩,cap,b,by have hN:=HN.out;subst hN;have h:=HCS.out (xs++[⟨nm,e⟩]) (some ⟨g5,0,none⟩) cap;rw[List.length_append]at h;exact h,by have hN:=HN.out;subst hN;simpa using HSS.but' ((But.refl g w5).set 17 (.slice (some ⟨g5,0,none⟩) (xs.length+1) cap)) HGW.out,HFT,by simp;exact HB5.out.size⟩,HB5.out.set 17 _⟩
  ·subst hs;rw[hR];exact⟨rfl,HB5.out.set 17 _⟩
theorem Vk{α:Type}(pv:Nat)(step:Nat->Option (α×Nat))(K:List α->Array Value->World->Prop)(g:Nat)(A:Option Addr)(c:Nat)(l:List Tok)(a:Nat)(cs:Array Value)(w:World)(hl:l.length<=990)(ha:a<=l.length)(h:PsS g A c l a cs w)(hK:Gs g K)(hK0:K [] cs w)(hs:∀b r,step b=some r->b<r.2/\r.2<=l.length)
 (hI:∀xs b cs' W,But g w W->xs.length<=b->b<=l.length->PsS g A c l b cs' W->K xs cs' W->Calls Tryz.prog 174 #[.pointer (some ⟨pv,0,none⟩)] W (FP ((step b).map λr=>(xs++[r.1],r.2)) g A c l K w)):
  Calls Tryz.prog 173 #[.pointer (some ⟨g,0,none⟩),.func (.func 174) #[] #[.pointer (some ⟨pv,0,none⟩)]] w (FP (Bd l step (l.length+1) a) g A c l K w):=by
 obtain⟨R,hR⟩:∃R,Bd l step (l.length+1) a=R:=⟨_,rfl⟩;rw[hR];have HR0:Hid ((Bd l step (l.length+1) a).map (λq=>([]++q.1,q.2))=R):=by
  show _=_
  rw[hR];cases R<;>simp
 obtain⟨N,hN⟩:∃N,l.length=N:=⟨_,rfl⟩;rw[hN]at HR0 ha hs hI hl;have HI:=Lib.hid hI;have HK:=Lib.hid hK;have HS:=Lib.hid hs;have HP0:=Lib.hid h;have HK0:=Lib.hid hK0;have HN:=Lib.hid hN;clear hR hN h hI hK hs hK0;go_in
 go_wp2_with fail;go_loopw [] (λwr=>∃(f:Nat) (xs:List α) (b:Nat) (cs':Array Value),N+1<=f+b/\xs.length<=b/\b<=N/\Hid ((Bd l step f b).map (λq=>(xs++q.1,q.2))=R)/\Hid (PsS g A c l b cs' wr)/\Hid (K xs cs' wr)/\But g w wr) (λwr=>N - Ko g wr)
 case atStart=>exact⟨N+1,[],a,cs,by omega,Nat.zero_le _,ha,HR0,HP0,HK0,But.refl _ _⟩
 case round=>
  obtain⟨f,xs,b,cs',hf,hxb,hbn,HJ,HP,HKW,hbw⟩:=hrel;obtain⟨W,rfl⟩:∃W,W=wr:=⟨_,rfl⟩;obtain⟨f,rfl⟩:∃k,f=k+1:=⟨f - 1,by omega⟩;have hJ:((step b).bind λr=>if hit l r.2 [44]then(Bd l step f (r.2+1)).map λq=>(r.1::q.1,q.2)else some ([r.1],r.2)).map (λq=>(xs++q.1,q.2))=R:=HJ.out;have HC:=Lib.hid (HI.out xs b cs' W hbw hxb hbn HP.out HKW.out);have HSB:=Lib.hid (λr=>HS.out b r);obtain⟨o,ho⟩:∃o,step b=o:=⟨_,rfl⟩;rw[ho]at HC hJ HSB;have HJ2:=Lib.hid hJ;clear ho hJ HJ;go_wp2_with fail;refine HC.out.mono ?_;cases o with
  |none=>
   have hR:R=none:=HJ2.out.symm;subst hR;rintro en w1 ⟨rfl,hb1⟩;have HB1:=Lib.hid hb1;clear hb1;go_wp2_with fail;go_ret;exact⟨rfl,HB1.out⟩
  |some r=>
   obtain⟨x,b'⟩:=r;obtain⟨hlt,hle⟩:b<b'/\b'<=N:=HSB.out _ rfl;have hJ:(if hit l b' [44]then(Bd l step f (b'+1)).map λq=>(x::q.1,q.2)else some ([x],b')).map (λq=>(xs++q.1,q.2))=R:=HJ2.out;rintro en w1 ⟨rfl,cs1,hP1,hK1,hb1⟩;have HT:=Lib.hid (Ac g A c l b' cs1 [44] w1 (by omega) hP1);have HL:Hid (hit l b' [44]=true->b'+1<=N):=λh=>by have:=DZ h;rw[HN.out]at this;omega
   obtain⟨D,hD⟩:∃D,hit l b' [44]=D:=⟨_,rfl⟩;rw[hD]at HT hJ HL;have HJ:=Lib.hid hJ;have HB1:=Lib.hid hb1;have HK1:=Lib.hid hK1;have HPA:=Lib.hid (PsS.at_ HP.out);clear hD hJ HJ2 HC hP1 hb1 hK1;go_wp2_with fail;refine HT.out.mono ?_;rintro en w2 ⟨rfl,hP2,hb2⟩;have HB2:=Lib.hid hb2;have HP2:=Lib.hid hP2;clear hP2 hb2;cases D with
   |false=>
    have hR:R=some (xs++[x],b'):=HJ.out.symm;subst hR;go_wp2_with fail;go_ret;exact⟨rfl,_,HP2.out,HK.out _ _ _ _ _ HK1.out HB2.out,HB1.out.trans HB2.out⟩
   |true=>
    have hl2:b'+1<=N:=HL.out rfl;have HF:Hid ((Bd l step f (b'+1)).map (λq=>((xs++[x])++q.1,q.2))=R):=by
     show _=_
     rw[<-HJ.out,if_pos rfl,Option.map_map];cases Bd l step f (b'+1)<;>simp
    clear HJ;go_wp2_with fail;go_roundw
    case rel=>exact⟨f,xs++[x],b'+1,_,by omega,by simp;omega,hl2,HF,HP2,Lib.hid (HK.out _ _ _ _ _ HK1.out HB2.out),HB1.out.trans HB2.out⟩
    case measure=>
     have e2:Ko g w2=b'+1:=PsS.at_ HP2.out;have e1:=HPA.out;omega
theorem Yb{t:List UInt8}{xs:List Se}{e:Ex}{A B:Option Addr}{c d:Nat}{lo:Nat}{Q:Nat->Prop}{w:World}(h:BP w 76 lo (.slice A xs.length c) xs)(hQ:∀b,lo<=b->b<w.heap.size->Q b)(he:ExR Q e B d w):StQ 1000 (stU t xs e) (pU A c B d) Q w:=by
 obtain⟨A',c',n,hv,hz⟩:=h.out
 injection hv with e1 e2 e3
 subst e1;exact⟨SQ.nil,λh=>absurd h (by simp[stU]),SQ.nil,XQ.nil,⟨0,rfl⟩,λh=>absurd h (by simp[stU]),⟨n,hz.keep λb hb=>⟨hQ b hb.1 hb.2,λ_=>rfl⟩⟩,he.2.2.2⟩
theorem XR{w:World}{e:TypeId}{lo:Nat}{sv:Value}{l:List Se}(h:BP w e lo sv l):∀x∈l,D8 13 x.e:=λx hx=>by
 obtain⟨recs,h1,_,h3⟩:=h;rw[<-h1]at hx;obtain⟨q,hq,rfl⟩:=List.mem_map.1 hx;exact Nu (h3 q hq) 13
theorem aA{t:List UInt8}{xs:List Se}{e:Ex}{B:Option Addr}{d:Nat}{Q:Nat->Prop}{w:World}(h1:t.length<=1000)(h2:∀x∈xs,QY x)(h3:xs.length<=1000)(h4:∀x∈xs,D8 13 x.e)(he:ExR Q e B d w):(stU t xs e).Ok where
 op:=by show([117,112,100,97,116,101]:List UInt8).length<=1000;decide
 tb:=h1
 ot:=Nat.zero_le _
 key:=Nat.zero_le _
 role:=Nat.zero_le _
 nN:=Nat.zero_le _
 nC:=Nat.zero_le _
 nU:=Nat.zero_le _
 nR:=Nat.zero_le _
 nW:=Nat.zero_le _
 nS:=h3
 names:=λx hx=>by cases hx
 cols:=λx hx=>by cases hx
 uniq:=λx hx=>by cases hx
 refs:=λx hx=>by cases hx
 chk:=CX
 whr:=he.1
 row:=λx hx=>by cases hx
 sets:=h2
 num:=⟨LP _,Nu he _,(λv hv=>by cases hv),h4⟩
theorem Sr(g:Nat)(A:Option Addr)(c:Nat)(l:List Tok)(w:World)(hp:PsE g c l w)(h:PsS g A c l 1 (psC A l.length c 1 ((stZ [] []).cells Cj)) w):
  Calls Tryz.prog 100 #[.pointer (some ⟨g,0,none⟩)] w (Fz (J4 l) g A c l w):=by
 have hn:=hp.n;have hgw:g<w.heap.size:=h.blk.lt;obtain⟨R,hR⟩:∃R,J4 l=R:=⟨_,rfl⟩;rw[hR];unfold J4 at hR;obtain⟨pv,hpvv⟩:∃v,w.heap.size=v:=⟨_,rfl⟩;obtain⟨wa,hwa⟩:∃x,w.alloc (.cells #[.pointer (some ⟨g,0,none⟩)] 97)=x:=⟨_,rfl⟩;have kpa:Blk wa pv 97 #[.pointer (some ⟨g,0,none⟩)]:=by rw[<-hwa,<-hpvv];exact Blk.new _ _ _
 have hba:Below w.heap.size w wa:=by rw[<-hwa];exact bl
 have hPa:=h.below hba;have hpg:pv≠g:=by omega
 have x2:wa.cell? ⟨g,2,none⟩=some (.string ⟨#[]⟩):=hPa.blk.cell 2;have f2:=hPa.blk.frozen 2;have xp:wa.cell? ⟨pv,0,none⟩=some (.pointer (some ⟨g,0,none⟩)):=kpa.cell 0;obtain⟨wb,hwb⟩:∃x,wa.setCell ⟨g,2,none⟩ (.string ⟨([117,112,100,97,116,101]:List UInt8).toArray⟩)=x:=⟨_,rfl⟩;have hPb:PsS g A c l 1 (psC A l.length c 1 ((stU [] [] ex0).cells (pU none 0 none 0))) wb:=by
  have:=hPa.set 2 (Nat.le_refl _) (.string ⟨([117,112,100,97,116,101]:List UInt8).toArray⟩);rw[hwb,Ha]at this;exact this
 have hbwb:But g w wb:=by rw[<-hwb];exact(But.of_below (p:=g) hba).set 2 _
 have hxb:pv<wb.heap.size:=by rw[<-hwb];simpa using kpa.lt
 have hgb:g<wb.heap.size:=hPb.blk.lt;have HPV:Hid (∀Z:World,But g wb Z->Z.cell? ⟨pv,0,none⟩=some (.pointer (some ⟨g,0,none⟩))):=λZ hz=>(hz.cell hxb hpg 0).trans (by rw[<-hwb,World.cell?_setCell_other _ _ _ _ (λe=>hpg (congrArg Addr.block e).symm)];exact xp)
 have HS0:Hid (∀Z:World,Below wb.heap.size wb Z->Z.cell? ⟨pv,0,none⟩=some (.pointer (some ⟨g,0,none⟩))):=λZ hz=>HPV.out Z (But.of_below hz)
 have hpe:=hp.but hbwb;obtain⟨ON1,hON1⟩:∃x,AO l 1=x:=⟨_,rfl⟩;obtain⟨B2,hB2⟩:∃B,hit l 2 [83,69,84]=B:=⟨_,rfl⟩;obtain⟨OL,hOL⟩:∃x,Bd l (QX l) (l.length+1) 3=x:=⟨_,rfl⟩;have hle:∀q,OL=some q->q.2<=l.length/\q.1.length<=1000:=λq hq=>⟨KJ (λb r h=>(Ul hn hpe.s h).2) _ _ q (hOL.trans hq),by have:=Ja _ _ q (hOL.trans hq);omega⟩
 have HN1:Hid (∀Z:World,Below wb.heap.size wb Z->Calls Tryz.prog 161 #[.pointer (some ⟨g,0,none⟩),.pointer (some ⟨g,3,none⟩)] Z (IJ ON1 3 g A c l 1 (psC A l.length c 1 ((stU [] [] ex0).cells (pU none 0 none 0))) Z)):=λZ hz=>by
  rw[<-hON1];exact Bv g A c l 1 _ 3 [] Z (by decide) (hPb.below hz) (by decide) rfl hpe.s
 have HW2:Hid (∀{t:List UInt8} (Z:World) (b:Nat),PsS g A c l (1+1) (psC A l.length c (1+1) (({stU [] [] ex0 with tb:=t}:St).cells (pU none 0 none 0))) Z->Z.cell? ⟨b,0,none⟩=some (.string ⟨([83,69,84]:List UInt8).toArray⟩)->b≠g->Calls Tryz.prog 160 #[.pointer (some ⟨g,0,none⟩),.slice (some ⟨b,0,none⟩) 1 1] Z (EO B2 g A c l (2+B2.toNat) (Aa (psC A l.length c 2 ((stU t [] ex0).cells (pU none 0 none 0))) (2+B2.toNat)) Z)):=λ{t} Z b h1 h2 h3=>by
  have:=CG g A c l 2 (psC A l.length c 2 ((stU t [] ex0).cells (pU none 0 none 0))) [83,69,84] b 1 Z (by decide) h1 h2 h3;rw[hB2]at this;exact this
 have HLS:Hid (B2=true->∀{t:List UInt8} (Z:World),But g wb Z->PsS g A c l (2+true.toNat) (psC A l.length c (2+true.toNat) ((stU t [] ex0).cells (pU none 0 none 0))) Z->Calls Tryz.prog 173 #[.pointer (some ⟨g,0,none⟩),.func (.func 174) #[] #[.pointer (some ⟨pv,0,none⟩)]] Z (FP OL g A c l (KU t l.length A c Z.heap.size) Z)):=λh2 {t} Z hz h1=>by
  rw[<-hOL];exact Vk pv (QX l) (KU t l.length A c Z.heap.size) g A c l 3 _ Z hn (DZ (hB2.trans h2)) h1 (KU.stay h1.blk.lt) ⟨none,0,3,rfl,BP.nil,(λx hx=>by cases hx),Nat.le_refl _⟩ (λb r h=>Ul hn hpe.s h)
   (λxs b cs' W hW hx hb hPW hKW=>QZ g pv A c l b cs' t xs Z W (hpe.but (hz.trans hW)) hb hPW (HPV.out Z hz) hpg h1.blk.lt hW (by omega) hKW)
 have HWH:Hid (∀{t:List UInt8} {xs:List Se} {b:Nat} (A7:Option Addr) (c7:Nat) (Z:World),But g wb Z->b<=l.length->PsS g A c l b (psC A l.length c b ((stU t xs ex0).cells (pU A7 c7 none 0))) Z->Calls Tryz.prog 176 #[.pointer (some ⟨g,0,none⟩)] Z (Si (Dn l b) 18 g A c l (psC A l.length c b ((stU t xs ex0).cells (pU A7 c7 none 0))) Z)):=λ{t xs b} A7 c7 Z hz hb h1=>
  Jq g A c l b _ Z (hpe.but hz) hb h1 (by show 24<=25;decide) (by rw[Py];rfl)
 have hR:(ON1.bind λt=>if B2 then OL.bind λq=>(Dn l q.2).map λr=>(stU t q.1 r.1,r.2)else none)=R:=by
  rw[<-hR,hON1,hB2,hOL]
 have hL1:∀t,ON1=some t->t.length<=1000:=λt ht=>by
  obtain⟨y,hy,rfl⟩:=Bj (hON1.trans ht);exact hpe.s y hy
 have HR:=Lib.hid hR;have HL1:=Lib.hid hL1;have HLE:=Lib.hid hle;have HBW:=Lib.hid hbwb;have HWA:=Lib.hid hwa;have HWB:=Lib.hid hwb;clear hR hL1 hle hON1 hB2 hOL hwa hwb hPa hPb hbwb hpe hba kpa h hp;go_in
 go_upto_region 1 with fail
 rw[show w.alloc _=wa from HWA.out]
 try rw[hpvv]
 go_upto_region 3 with fail
 rw[show World.setCell wa _ _=wb from HWB.out];clear HWA HWB x2 f2 xp;refine wp_region_held_drew (S:=(λZ=>Z.cell? ⟨pv,0,none⟩=some (.pointer (some ⟨g,0,none⟩)))) (by kernel_rfl) ?_ (λhHeld=>?_)
 ·try dsimp only
  first|exact HS0.out _ (by exact bl)|exact HPV.out _ (hc5.trans (But.of_below (by exact bl)))|exact HPV.out _ (hc9.trans (But.of_below (by exact bl)))|exact HPV.out _ (hc14.trans (But.of_below (by exact bl)))|exact HPV.out _ (hc18.trans (But.of_below (by exact bl)))
 refine tS [0,1,2,3,4] ?_;iterate 5(refine tC ?_;refine ap ?_)
 refine tN ?_;cases ON1 with
 |none=>
  have hR:R=none:=HR.out.symm;subst hR;refine rdy 5 λK hK=>?_
  go_simp;refine(HN1.out _ (by exact bl)).mono ?_<;>rintro en w5 ⟨rfl,hP5,hb5⟩<;>have hc5:But g wb w5:=But.trans (But.of_below (by exact bl)) hb5<;>(try rw[Iw,Ad]at hP5)<;>have HP5:=Lib.hid hP5<;>have hg5:g<w5.heap.size:=hP5.blk.lt<;>clear hP5 hb5
  go_wp2_with fail;refine hK.out _ _ ?_ (λhHeld=>?_)
  ·try dsimp only
   first|exact HS0.out _ (by exact bl)|exact HPV.out _ (hc5.trans (But.of_below (by exact bl)))|exact HPV.out _ (hc9.trans (But.of_below (by exact bl)))|exact HPV.out _ (hc14.trans (But.of_below (by exact bl)))|exact HPV.out _ (hc18.trans (But.of_below (by exact bl)))
  clear hK K;refine ap ?_;refine tS [6] (tC ?_);refine ap (tN ?_);refine tS [7,8,9] ?_;iterate 3(refine tX ?_;refine ap ?_)
  refine tN ?_;refine tS [10,11] ?_;iterate 2(refine tC ?_;refine ap ?_)
  refine tN ?_;refine tS [12,13,14] ?_;iterate 3(refine tX ?_;refine ap ?_)
  refine tN ?_;refine tS [15,16] ?_;iterate 2(refine tC ?_;refine ap ?_)
  refine tN ?_;refine tS [17,18] ?_;iterate 2(refine tX ?_;refine ap ?_)
  refine tN ?_;refine tS [19,20] ?_;iterate 2(refine tC ?_;refine ap ?_)
  refine tN ?_;refine wpAnyH_done (by kernel_rfl) ?_ _;go_wp2_with fail;go_ret;exact⟨rfl,HBW.out.trans hc5⟩
 |some t=>
  skip
  refine rdy 5 λK hK=>?_
  go_simp;refine(HN1.out _ (by exact bl)).mono ?_<;>rintro en w5 ⟨rfl,hP5,hb5⟩<;>have hc5:But g wb w5:=But.trans (But.of_below (by exact bl)) hb5<;>(try rw[Iw,Ad]at hP5)<;>have HP5:=Lib.hid hP5<;>have hg5:g<w5.heap.size:=hP5.blk.lt<;>clear hP5 hb5
  go_wp2_with fail;refine hK.out _ _ ?_ (λhHeld=>?_)
  ·try dsimp only
   first|exact HS0.out _ (by exact bl)|exact HPV.out _ (hc5.trans (But.of_below (by exact bl)))|exact HPV.out _ (hc9.trans (But.of_below (by exact bl)))|exact HPV.out _ (hc14.trans (But.of_below (by exact bl)))|exact HPV.out _ (hc18.trans (But.of_below (by exact bl)))
  clear hK K;refine ap ?_;refine tS [6,7] ?_;iterate 2(refine tC ?_;refine ap ?_)
  refine tN ?_;refine rdy 8 λK hK=>?_
  go_simp
  skip
  go_wp2_with fail;refine hK.out _ _ ?_ (λhHeld=>?_)
  ·try dsimp only
   first|exact HS0.out _ (by exact bl)|exact HPV.out _ (hc5.trans (But.of_below (by exact bl)))|exact HPV.out _ (hc9.trans (But.of_below (by exact bl)))|exact HPV.out _ (hc14.trans (But.of_below (by exact bl)))|exact HPV.out _ (hc18.trans (But.of_below (by exact bl)))
  clear hK K;refine ap ?_;cases B2 with
  |false=>
   have hR:R=none:=HR.out.symm;subst hR;refine rdy 9 λK hK=>?_
   go_simp;refine(HW2.out _ _ (PsS.below HP5.out (by exact bl)) ((Blk.new' _ _ _ _ rfl).cell 0) (by omega)).mono ?_<;>rintro en w9 ⟨rfl,hP9,hb9⟩<;>have hc9:But g wb w9:=But.trans (But.trans hc5 (But.of_below (by exact bl))) hb9<;>(try rw[Ad]at hP9)<;>have HP9:=Lib.hid hP9<;>have hg9:g<w9.heap.size:=hP9.blk.lt<;>clear hP9 hb9
   go_wp2_with fail;refine hK.out _ _ ?_ (λhHeld=>?_)
   ·try dsimp only
    first|exact HS0.out _ (by exact bl)|exact HPV.out _ (hc5.trans (But.of_below (by exact bl)))|exact HPV.out _ (hc9.trans (But.of_below (by exact bl)))|exact HPV.out _ (hc14.trans (But.of_below (by exact bl)))|exact HPV.out _ (hc18.trans (But.of_below (by exact bl)))
   clear hK K;refine ap ?_;refine tS [10,11] ?_;iterate 2(refine tC ?_;refine ap ?_)
   refine tN ?_;refine tS [12,13,14] ?_;iterate 3(refine tX ?_;refine ap ?_)
   refine tN ?_;refine tS [15,16] ?_;iterate 2(refine tC ?_;refine ap ?_)
   refine tN ?_;refine tS [17,18] ?_;iterate 2(refine tX ?_;refine ap ?_)
   refine tN ?_;refine tS [19,20] ?_;iterate 2(refine tC ?_;refine ap ?_)
   refine tN ?_;refine wpAnyH_done (by kernel_rfl) ?_ _;go_wp2_with fail;go_ret;exact⟨rfl,HBW.out.trans hc9⟩
  |true=>
   have HLT:=Lib.hid (HLS.out (by first|rfl|trivial) (t:=t));refine rdy 9 λK hK=>?_
   go_simp;refine(HW2.out _ _ (PsS.below HP5.out (by exact bl)) ((Blk.new' _ _ _ _ rfl).cell 0) (by omega)).mono ?_<;>rintro en w9 ⟨rfl,hP9,hb9⟩<;>have hc9:But g wb w9:=But.trans (But.trans hc5 (But.of_below (by exact bl))) hb9<;>(try rw[Ad]at hP9)<;>have HP9:=Lib.hid hP9<;>have hg9:g<w9.heap.size:=hP9.blk.lt<;>clear hP9 hb9
   go_wp2_with fail;refine hK.out _ _ ?_ (λhHeld=>?_)
   ·try dsimp only
    first|exact HS0.out _ (by exact bl)|exact HPV.out _ (hc5.trans (But.of_below (by exact bl)))|exact HPV.out _ (hc9.trans (But.of_below (by exact bl)))|exact HPV.out _ (hc14.trans (But.of_below (by exact bl)))|exact HPV.out _ (hc18.trans (But.of_below (by exact bl)))
   clear hK K;refine ap ?_;refine tS [10,11,12,13] ?_;iterate 4(refine tC ?_;refine ap ?_)
   refine tN ?_;cases OL with
   |none=>
    have hR:R=none:=HR.out.symm;subst hR;refine rdy 14 λK hK=>?_
    go_simp;refine(HLT.out _ (But.trans hc9 (But.of_below (by exact bl))) (PsS.below HP9.out (by exact bl))).mono ?_
    first|(rintro en w14 ⟨rfl,hb14⟩;have hc14:But g wb w14:=But.trans (But.trans hc9 (But.of_below (by exact bl))) hb14)|(rintro en w14 ⟨rfl,cs14,hP14,hK14,hb14⟩;have hc14:But g wb w14:=But.trans (But.trans hc9 (But.of_below (by exact bl))) hb14;obtain⟨A7,c7,b7,rfl,hso,hfit,hsz⟩:=hK14;have hbb:=Tu hP14;(try dsimp only at hP14 hbb);rw[hbb]at hP14;have HP14:=Lib.hid hP14;have HSO:Hid (BP w14 76 w9.heap.size (.slice A7 xs.length c7) xs):=Lib.hid (hso.from (by simp));have HFI:=Lib.hid hfit;have hg14:g<w14.heap.size:=hP14.blk.lt;clear hP14 hb14 hso hfit hsz hbb)
    go_wp2_with fail;refine hK.out _ _ ?_ (λhHeld=>?_)
    ·try dsimp only
     first|exact HS0.out _ (by exact bl)|exact HPV.out _ (hc5.trans (But.of_below (by exact bl)))|exact HPV.out _ (hc9.trans (But.of_below (by exact bl)))|exact HPV.out _ (hc14.trans (But.of_below (by exact bl)))|exact HPV.out _ (hc18.trans (But.of_below (by exact bl)))
    clear hK K;refine ap ?_;refine tS [15,16] ?_;iterate 2(refine tC ?_;refine ap ?_)
    refine tN ?_;refine tS [17,18] ?_;iterate 2(refine tX ?_;refine ap ?_)
    refine tN ?_;refine tS [19,20] ?_;iterate 2(refine tC ?_;refine ap ?_)
    refine tN ?_;refine wpAnyH_done (by kernel_rfl) ?_ _;go_wp2_with fail;go_ret;exact⟨rfl,HBW.out.trans hc14⟩
   |some q=>
    obtain⟨xs,b⟩:=q;have HR:Hid (((Dn l b).map λr=>(stU t xs r.1,r.2))=R):=HR.out;obtain⟨hbl,hxl⟩:=HLE.out _ rfl;have HWT:=Lib.hid (λA7 c7 Z=>HWH.out (t:=t) (xs:=xs) (b:=b) A7 c7 Z);obtain⟨OW,hOW⟩:∃x,Dn l b=x:=⟨_,rfl⟩;rw[hOW]at HR HWT;clear hOW HWH;refine rdy 14 λK hK=>?_
    go_simp;refine(HLT.out _ (But.trans hc9 (But.of_below (by exact bl))) (PsS.below HP9.out (by exact bl))).mono ?_
    first|(rintro en w14 ⟨rfl,hb14⟩;have hc14:But g wb w14:=But.trans (But.trans hc9 (But.of_below (by exact bl))) hb14)|(rintro en w14 ⟨rfl,cs14,hP14,hK14,hb14⟩;have hc14:But g wb w14:=But.trans (But.trans hc9 (But.of_below (by exact bl))) hb14;obtain⟨A7,c7,b7,rfl,hso,hfit,hsz⟩:=hK14;have hbb:=Tu hP14;(try dsimp only at hP14 hbb);rw[hbb]at hP14;have HP14:=Lib.hid hP14;have HSO:Hid (BP w14 76 w9.heap.size (.slice A7 xs.length c7) xs):=Lib.hid (hso.from (by simp));have HFI:=Lib.hid hfit;have hg14:g<w14.heap.size:=hP14.blk.lt;clear hP14 hb14 hso hfit hsz hbb)
    go_wp2_with fail;refine hK.out _ _ ?_ (λhHeld=>?_)
    ·try dsimp only
     first|exact HS0.out _ (by exact bl)|exact HPV.out _ (hc5.trans (But.of_below (by exact bl)))|exact HPV.out _ (hc9.trans (But.of_below (by exact bl)))|exact HPV.out _ (hc14.trans (But.of_below (by exact bl)))|exact HPV.out _ (hc18.trans (But.of_below (by exact bl)))
    clear hK K;refine ap ?_;refine tS [15,16,17] ?_;iterate 3(refine tC ?_;refine ap ?_)
    refine tN ?_;cases OW with
    |none=>
     have hR:R=none:=HR.out.symm;subst hR;refine rdy 18 λK hK=>?_
     go_simp;refine(HWT.out _ _ _ (But.trans hc14 (But.of_below (by exact bl))) hbl (PsS.below HP14.out (by exact bl))).mono ?_
     first|(rintro en w18 ⟨rfl,hb18⟩;have hc18:But g wb w18:=But.trans (But.trans hc14 (But.of_below (by exact bl))) hb18)|(rintro en w18 ⟨A9,c9,rfl,hP18,hE18,hb18⟩;have hb1418:But g w14 w18:=But.trans (But.of_below (by exact bl)) hb18;have hc18:But g wb w18:=But.trans hc14 hb1418;(try rw[Py,Ad]at hP18);have HP18:=Lib.hid hP18;have HE18:=Lib.hid (hE18.keep (Q':=λk=>w.heap.size<=k/\k<w18.heap.size) (w':=w18) λk hk=>⟨⟨by have h1:=hk.1;have h2:=hc14.size;have h3:=HBW.out.size;(try simp at h1);omega,hk.2⟩,λ_=>rfl⟩);clear hP18 hE18 hb18)
     go_wp2_with fail;refine hK.out _ _ ?_ (λhHeld=>?_)
     ·try dsimp only
      first|exact HS0.out _ (by exact bl)|exact HPV.out _ (hc5.trans (But.of_below (by exact bl)))|exact HPV.out _ (hc9.trans (But.of_below (by exact bl)))|exact HPV.out _ (hc14.trans (But.of_below (by exact bl)))|exact HPV.out _ (hc18.trans (But.of_below (by exact bl)))
     clear hK K;refine ap ?_;refine tS [19,20] ?_;iterate 2(refine tC ?_;refine ap ?_)
     refine tN ?_;refine wpAnyH_done (by kernel_rfl) ?_ _;go_wp2_with fail;go_ret;exact⟨rfl,HBW.out.trans hc18⟩
    |some r=>
     obtain⟨e,n⟩:=r;have hR:R=some (stU t xs e,n):=HR.out.symm;subst hR;refine rdy 18 λK hK=>?_
     go_simp;refine(HWT.out _ _ _ (But.trans hc14 (But.of_below (by exact bl))) hbl (PsS.below HP14.out (by exact bl))).mono ?_
     first|(rintro en w18 ⟨rfl,hb18⟩;have hc18:But g wb w18:=But.trans (But.trans hc14 (But.of_below (by exact bl))) hb18)|(rintro en w18 ⟨A9,c9,rfl,hP18,hE18,hb18⟩;have hb1418:But g w14 w18:=But.trans (But.of_below (by exact bl)) hb18;have hc18:But g wb w18:=But.trans hc14 hb1418;(try rw[Py,Ad]at hP18);have HP18:=Lib.hid hP18;have HE18:=Lib.hid (hE18.keep (Q':=λk=>w.heap.size<=k/\k<w18.heap.size) (w':=w18) λk hk=>⟨⟨by have h1:=hk.1;have h2:=hc14.size;have h3:=HBW.out.size;(try simp at h1);omega,hk.2⟩,λ_=>rfl⟩);clear hP18 hE18 hb18)
     go_wp2_with fail;refine hK.out _ _ ?_ (λhHeld=>?_)
     ·try dsimp only
      first|exact HS0.out _ (by exact bl)|exact HPV.out _ (hc5.trans (But.of_below (by exact bl)))|exact HPV.out _ (hc9.trans (But.of_below (by exact bl)))|exact HPV.out _ (hc14.trans (But.of_below (by exact bl)))|exact HPV.out _ (hc18.trans (But.of_below (by exact bl)))
     clear hK K;refine ap ?_;refine tS [19,20] ?_;iterate 2(refine tC ?_;refine ap ?_)
     refine tN ?_;refine wpAnyH_done (by kernel_rfl) ?_ _;have hso:=HSO.out.but' hb1418 hg9;have hnum:=XR hso;have hfit:=HFI.out;have h9:w.heap.size<=w9.heap.size:=Nat.le_trans HBW.out.size hc9.size;have hct:=HL1.out _ rfl;go_wp2_with fail;go_ret;exact⟨pU A7 c7 A9 c9,rfl,HP18.out,Yb hso (λk h1 h2=>⟨Nat.le_trans h9 h1,h2⟩) HE18.out,aA hct hfit hxl hnum HE18.out,HBW.out.trans hc18⟩
end Go.Proofs.YtchilcchogcibaaGreatDoor
