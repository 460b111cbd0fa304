/- The parser's atom as a plain function: a value, or a name. -/
import Derived.Test.YtchilcchogcibaaGreatDoorFFew5a
set_option maxRecDepth 100000
set_option maxHeartbeats 8000000
namespace Go.Proofs.YtchilcchogcibaaGreatDoor
open Go.RowKit
attribute [local go_sem] ByteArray.extract_mk Ak AY
attribute [local go_sem ↓] Go.wp_at_zero Go.wp_at_succ CY CE
def GU(s:List UInt8):Int×Bool:=match Lib.parseIntB 64 s with
 |.ok v=>(v,true)
 |.range=>(Lib.intSat 64 s,false)
 |_=>(0,false)
theorem Ut(s:List UInt8):Fq (GU s).1:=by
 unfold GU Fq;split
 ·rename_i v h
  have hnb:=Lib.parseIntB_bounds h;have n1:=hnb.1;have n2:=hnb.2;simp at n1 n2 ⊢;omega
 ·unfold Lib.intSat;split<;>simp
 ·simp
def BadN(n:Int)(w:World)(e:Ending)(w':World):Prop:=∃t p,e=.returned (.tuple #[.int .i64 n,.iface t p])/\Below w.heap.size w w'
theorem Yr(s:List UInt8)(w:World)(hs:s.length<=1000000)(hE:JP w)(h:(GU s).2=false):
  Calls Tryz.prog 264 #[.string ⟨s.toArray⟩,.int .i64 10,.int .i64 64] w (BadN (GU s).1 w):=by
 obtain⟨⟨t1,p1,h1⟩,t2,p2,h2⟩:=hE;have hl:(⟨s.toArray⟩:ByteArray).size<=281474976710656:=by show s.length<=_;omega
 cases hp:Lib.parseIntB 64 s with
 |ok v=>unfold GU at h;rw[hp]at h;cases h
 |range=>
  have e:(GU s).1=Lib.intSat 64 s:=by unfold GU;rw[hp]
  rw[e];exact(Any.strconv_ParseInt_10_at64_range_var Tryz.laysC174 ⟨s.toArray⟩ hl hp t2 p2 w h2).mono λe w' ⟨N,he,_,_,hb⟩=>⟨_,_,he,hb⟩
 |_=>
  have e:(GU s).1=0:=by unfold GU;rw[hp]
  rw[e];exact(Any.strconv_ParseInt_10_at64_syntax_var Tryz.laysC174 ⟨s.toArray⟩ hl hp t1 p1 w h1).mono λe w' ⟨N,he,_,_,hb⟩=>⟨_,_,he,hb⟩
theorem ae(s:List UInt8)(w:World)(hs:s.length<=1000000)(h:(GU s).2=true):
  Calls Tryz.prog 264 #[.string ⟨s.toArray⟩,.int .i64 10,.int .i64 64] w (Ret (.tuple #[.int .i64 (GU s).1,.nilIface]) w):=by
 cases hp:Lib.parseIntB 64 s with
 |ok v=>
  have e:(GU s).1=v:=by unfold GU;rw[hp]
  rw[e];exact Q3 s v w hs hp
 |range=>unfold GU at h;rw[hp]at h;cases h
 |_=>unfold GU at h;rw[hp]at h;cases h
def Ee(v:V):Ex:=.mk CU v [] []
def sgn(b:Bool)(s:List UInt8):List UInt8:=if b then 45::s else s
def MC(sg:Bool)(t:Tok):Ex×Bool:=
 if t.k=2 then(Ee ⟨1,(GU (sgn sg t.s)).1,[]⟩,(GU (sgn sg t.s)).2)
 else if sg then(AL,false)
 else if t.k=3 then(Ee ⟨2,0,t.s⟩,true)
 else if t.k=1 then
  (if t.s=[84,82,85,69]then(Ee ⟨3,1,[]⟩,true)else if t.s=[70,65,76,83,69]then(Ee ⟨3,0,[]⟩,true)else if t.s=[78,85,76,76]then(Ee V.zero,true)
   else(.mk DC V.zero t.s [],!CZ t.s))
 else(AL,false)
def JO(l:List Tok)(sg:Bool)(a:Nat):Ex×Bool×Nat:=
 match l[a]? with
 |none=>(AL,false,a)
 |some t=>if EG t then((MC sg t).1,(MC sg t).2,a+1)else(AL,false,a)
def EK(l:List Tok)(orI:Nat->Ex×Bool×Nat)(a:Nat):Ex×Bool×Nat:=
 if hit l a [40]then((orI (a+1)).1,(orI (a+1)).2.1&&hit l (orI (a+1)).2.2 [41],if (orI (a+1)).2.1&&hit l (orI (a+1)).2.2 [41]then(orI (a+1)).2.2+1 else(orI (a+1)).2.2)
 else JO l (hit l a [45]) (if hit l a [45]then a+1 else a)
theorem Gi(v:V)(h:Fq v.i)(hs:v.s.length<=1000):(Ee v).fit 1000:=⟨h,by simp[Ee,Ex.op,CU],by simp[Ee,Ex.s],hs⟩
theorem Xm{t:Tok}(h:EG t=true):t.s.length<=40:=by
 unfold EG at h;split at h
 ·have:=(Hy h);rcases this with⟨h2,_⟩|⟨h2,_⟩|⟨_,_,h3,_⟩|⟨h2,_⟩
  ·cases h2
  ·cases h2
  ·exact h3
  ·cases h2
 ·split at h
  ·match hs:t.s,h with
   |[c],_=>simp
  ·split at h
   ·simp only[GM,Bool.and_eq_true,decide_eq_true_eq]at h;omega
   ·split at h
    ·simp only[GM,Bool.and_eq_true,decide_eq_true_eq]at h;omega
    ·cases h
theorem EU{R:Ex×Bool×Nat}{p:Nat}{A:Option Addr}{c:Nat}{l:List Tok}{deep:Nat}{w wr:World}{e:Ex}{g a:Nat}{b:Bool}(hR:R=(e,b,a))(hl:e.l=[])(hf:e.fit 1000)(hg:w.heap.size<=g)(hpg:p<g)
 (hP:PSt p A c l a deep wr)(hb:But p w wr)(y0 y1 y2 y3 y4 y5:Value):
  G7 R p A c l deep w (.returned (.tuple #[.agg (e.cells none 0).toArray,.bool b])) ((((((wr.setCell ⟨g,0,none⟩ y0).setCell ⟨g,1,none⟩ y1).setCell ⟨g,2,none⟩ y2).setCell ⟨g,3,none⟩ y3).setCell ⟨g,4,none⟩ y4).setCell ⟨g,5,none⟩ y5):=
 DR hR hg hpg ⟨hf,by rw[hl];exact Nat.le_refl _,by unfold maxLen;omega,0,by rw[hl];exact ExQ.nil 0⟩ hP hb _ _ _ _ _ _
theorem YG(p:Nat)(A:Option Addr)(c:Nat)(l:List Tok)(deep a:Nat)(sg:Bool)(ha:a<=1000)(hh:hit l a [40]=false)(hs:hit l a [45]=sg)(hl:∀t∈l,t.s.length<=1000000):
  AtC 263 p A c l deep a (JO l sg (if sg then a+1 else a)):=by
 obtain⟨a1,hA1⟩:∃a1,(if sg then a+1 else a)=a1:=⟨_,rfl⟩;rw[hA1];have ha1:a1<=1001:=by rw[<-hA1];split<;>omega
 obtain⟨R,hR⟩:∃R:Ex×Bool×Nat,JO l sg a1=R:=⟨_,rfl⟩;rw[hR];have HR:=Lib.hid hR;have HA1:=Lib.hid hA1;have HL:=Lib.hid hl;clear hR hA1 hl;intro w hP;have lp:=hP.1.lt;have HH:=Lib.hid hh;have HS:=Lib.hid hs;obtain⟨w0,hw0⟩:∃w0,w.alloc (.cells (AL.cells none 0).toArray 30)=w0:=⟨_,rfl⟩;have kR0:Blk w0 w.heap.size 30 (AL.cells none 0).toArray:=by rw[<-hw0];exact Blk.new _ _ _
 have hb0:Below w.heap.size w w0:=by rw[<-hw0];exact bl
 have hs0:w0.heap.size=w.heap.size+1:=by rw[<-hw0];simp
 have HW:=Lib.hid hw0;have HP0:=Lib.hid (hP.but hb0);clear hw0 hP hh hs;go_in
 go_upto_region 1 with fail
 rw[show w.alloc (.cells #[.string ⟨#[]⟩,.int .i64 0,.int .i64 0,.string ⟨#[]⟩,.string ⟨#[]⟩,.slice none 0 0] 30)=w0 from HW.out];clear HW;go_wp2_with fail;refine(Fg p A c l a deep [40] w0 ha HP0.out).mono ?_;rw[HH.out];rintro en w1 ⟨rfl,hP1,hb1⟩;have hz1:=hb1.size;obtain⟨w2,hw2⟩:∃w2,w1.alloc (.cells #[.string ⟨#[45]⟩] 9)=w2:=⟨_,rfl⟩;have kg2:Blk w2 w1.heap.size 9 (([[45]]:List (List UInt8)).map MF).toArray:=by rw[<-hw2];exact Blk.new _ _ _
 have hb2:Below w1.heap.size w1 w2:=by rw[<-hw2];exact bl
 have hs2:w2.heap.size=w1.heap.size+1:=by rw[<-hw2];simp
 have HW2:=Lib.hid hw2;have HP2:Hid (PSt p A c l a deep w2):=hP1.but hb2;have kR2:=(hb1.blk kR0 (by omega)).below hb2 (by omega);have hbw2:But p w w2:=((But.of_below hb0).trans hb1).after hb2;have hgp:w1.heap.size≠p:=by omega
 clear hw2 hP1 HP0 kR0 hb0 hb1 hb2;go_wp2_with fail;rw[HW2.out];clear HW2;refine(JV p A c l a deep w1.heap.size [[45]] w2 ha (by decide) hgp HP2.out kg2 1).mono ?_;have hO:Ar l a [[45]]=if sg then some [45]else none:=by unfold Ar;rw[HS.out];cases sg<;>rfl
 rw[hO];clear hO;rintro en w3 ⟨rfl,hP3,hb3⟩;have HP3:Hid (PSt p A c l a1 deep w3):=by show PSt _ _ _ _ _ _ _;rw[<-HA1.out];cases sg<;>exact hP3
 have hz3:=hb3.size;have kR3:=hb3.blk kR2 (by omega);have lR3:=kR3.lt;have hbw3:=hbw2.trans hb3;clear hP3 hb3 hbw2 kR2 HP2 kg2 HA1;obtain⟨Z,hZ⟩:∃Z,((if sg then some [45]else none:Option (List UInt8)).getD [])=Z:=⟨_,rfl⟩;have hZ2:Z=sgn sg []:=by rw[<-hZ];cases sg<;>rfl
 rw[hZ];have HZ:=Lib.hid hZ2;clear hZ hZ2;by_cases hlt:a1<l.length
 ·obtain⟨b1,o1,t,rfl,hbB,hv,c0,c1⟩:=HP3.out.2.at_ hlt;have hlt2:=HL.out t (List.mem_of_getElem? hv);have hR2:(if EG t then((MC sg t).1,(MC sg t).2,a1+1)else(AL,false,a1))=R:=by rw[<-HR.out];unfold JO;rw[hv]
  have lp3:=HP3.out.1.lt;have HSH:Hid (∀w':World,Below w3.heap.size w3 w'->(w'.cell? ⟨p,0,none⟩=some (.slice (some ⟨b1,o1,none⟩) l.length c)/\w'.cell? ⟨p,1,none⟩=some (.int .i64 (a1:Nat))/\w'.cell? ⟨b1,o1+a1 * 2,none⟩=some (.int .i64 t.k)/\w'.cell? ⟨b1,o1+a1 * 2+1,none⟩=some (.string ⟨t.s.toArray⟩))):=
   λw' hb=>⟨(HP3.out.1.below hb lp3).cell 0,(HP3.out.1.below hb lp3).cell 1,(hb.cell (p:=⟨b1,o1+a1 * 2,none⟩) (show b1<_ by omega)).trans c0,(hb.cell (p:=⟨b1,o1+a1 * 2+1,none⟩) (show b1<_ by omega)).trans c1⟩
  have b0:decide (l.length<=a1)=false:=decide_eq_false (by omega);have i1:(0:Int)<=(a1:Int):=by omega
  have i2:(a1:Int)<(l.length:Int):=by omega
  obtain⟨M,hM⟩:∃M,EG t=M:=⟨_,rfl⟩;have HM:Hid (EG ⟨t.k,t.s⟩=M):=hM;rw[hM]at hR2;have HR2:=Lib.hid hR2;clear c0 c1 hv hR2 HR hM;go_upto_region 5 with fail
  refine rgn HSH λhHeld=>?_
  refine tS [0,1,2,3,4,5,6,7,8,9,10,11,12,13,14,15,16,17,18,19,20] ?_;iterate 21(refine tC ?_;refine ap ?_)
  refine tN ?_;refine rdy 21 λK hK=>?_
  go_simp;refine(Jt t.k t.s _ hlt2).mono ?_<;>rw[HM.out]<;>rintro en w5 ⟨rfl,hb5⟩<;>have hz5:=hb5.size<;>have hb35:Below w3.heap.size w3 w5:=(Below.drew (Below.refl _ w3)).trans hb5
  go_wp2_with fail;refine hK.out _ _ (HSH.out _ (by exact bl)) λhHeld=>?_
  clear hK K;refine ap ?_;refine tS [22,23] ?_;iterate 2(refine tC ?_;refine ap ?_)
  refine tN ?_;refine wpAnyH_done (by kernel_rfl) ?_ _;have kR5:=kR3.below hb35 lR3;have lR5:=kR5.lt;have HP5:=Lib.hid (HP3.out.but hb35);have hbw5:=hbw3.after hb35;cases M
  ·have HF:Hid (R=(AL,false,a1)):=HR2.out.symm;obtain⟨z0,z1,z2,z3,z4,z5⟩:=kR5.sixF;obtain⟨r0,r1,r2,r3,r4,r5⟩:=kR5.six;go_wp2_with fail;refine bodyPost_ret (v:=.tuple #[.agg (AL.cells none 0).toArray,.bool false]) (by simp[results,Tryz.results263,go_sem, *,Ex.cells,AL,Ex.op,Ex.v,Ex.s,Ex.l,V.zero]) rfl ?_;exact EU HF.out rfl CX (Nat.le_refl _) lp HP5.out hbw5 _ _ _ _ _ _
  ·have HF:Hid (((MC sg t).1,(MC sg t).2,a1+1)=R):=HR2.out;have htl:=Xm (t:=t) (by have:=HM.out;exact this);obtain⟨w6,hw6⟩:∃w6,w5.alloc (.cells t.cells.toArray 128)=w6:=⟨_,rfl⟩;have kT6:Blk w6 w5.heap.size 128 t.cells.toArray:=by rw[<-hw6];exact Blk.new _ _ _
   have hb6:Below w5.heap.size w5 w6:=by rw[<-hw6];exact bl
   have hs6:w6.heap.size=w5.heap.size+1:=by rw[<-hw6];simp
   have HW6:=Lib.hid hw6;have HSH5:Hid (∀w':World,Below w5.heap.size w5 w'->(w'.cell? ⟨p,0,none⟩=some (.slice (some ⟨b1,o1,none⟩) l.length c)/\w'.cell? ⟨p,1,none⟩=some (.int .i64 (a1:Nat))/\w'.cell? ⟨b1,o1+a1 * 2,none⟩=some (.int .i64 t.k)/\w'.cell? ⟨b1,o1+a1 * 2+1,none⟩=some (.string ⟨t.s.toArray⟩))):=
    λw' hb=>HSH.out w' (hb35.trans (hb.mono hb35.size))
   clear hw6;go_upto_region 7 with fail
   refine rgn HSH5 λhHeld=>?_
   refine tS [0,1,2,3,4,5,6,7,8,9] ?_;iterate 10(refine tC ?_;refine ap ?_)
   refine tN ?_;refine rdy 10 λK hK=>?_
   go_simp
   skip
   go_wp2_with fail;refine hK.out _ _ (HSH5.out _ (by exact bl)) λhHeld=>?_
   clear hK K;refine ap ?_;refine rdy 11 λK hK=>?_
   go_simp
   skip
   go_wp2_with fail;refine hK.out _ _ (HSH5.out _ (by exact bl)) λhHeld=>?_
   clear hK K;refine ap ?_;refine wpAnyH_done (by kernel_rfl) ?_ _;rw[show w5.alloc (.cells #[.int .i64 t.k,.string ⟨t.s.toArray⟩] 128)=w6 from HW6.out];clear HW6;have HP6:=Lib.hid (HP5.out.but hb6);have kR6:=kR5.below hb6 lR5;have x1:w6.cell? ⟨p,1,none⟩=some (.int .i64 (a1:Nat)):=HP6.out.1.cell 1;have y1:=HP6.out.1.frozen 1;go_upto_region 9 with fail
   refine Hl (λwx=>Blk wx w5.heap.size 128 t.cells.toArray/\Blk wx w.heap.size 30 (AL.cells none 0).toArray/\Hid (PSt p (some ⟨b1,o1,none⟩) c l (a1+1) deep wx)/\But p w wx)
    ⟨kT6.far (by show w5.heap.size≠p;omega) _,kR6.far (by show w.heap.size≠p;omega) _,⟨HP6.out.1.set_ 1 _,HP6.out.2.below (by exact bl)⟩,((hbw5.after hb6).set 1 _).drew⟩ ?_
   clear x1 y1 HP6 HP5 HP3 kR6 kR5 kR3 kT6 hb6 HSH HSH5 hs6 hbw5 hbw3 hb35 HM HR2;rintro X ⟨kT,kR,HPX,hbX⟩;have lT:=kT.lt;have lR:=kR.lt;obtain⟨T,hT⟩:∃T,w5.heap.size=T:=⟨_,rfl⟩;rw[hT]at kT lT ⊢;have hwT:w.heap.size<T:=by omega
   clear hT hz5 hz3 lR5 lR3 lp3;obtain⟨⟨t0,t1⟩,_⟩:=(show Blk X T 128 #[.int .i64 t.k,.string ⟨t.s.toArray⟩]from kT).two;obtain⟨z0,z1,z2,z3,z4,z5⟩:=kR.sixF;obtain⟨r0,r1,r2,r3,r4,r5⟩:=kR.six;unfold MC at HF;by_cases h2:t.k=2
   ·have e2:(t.k==2)=true:=by simpa using h2
    obtain⟨S,hS⟩:∃S,sgn sg t.s=S:=⟨_,rfl⟩;have hS2:Z++t.s=S:=by rw[HZ.out,<-hS];cases sg<;>rfl
    have hSl:S.length<=41:=by rw[<-hS];cases sg<;>simp[sgn]<;>omega
    have hZl:Z.length<=1:=by rw[HZ.out];cases sg<;>simp[sgn]
    have hF2:=HF.out;rw[if_pos h2,hS]at hF2;have HF2:Hid (R=(Ee ⟨1,(GU S).1,[]⟩,(GU S).2,a1+1)):=hF2.symm;have HS2:=Lib.hid hS2;clear h2 hS hS2 hF2 HF;go_wp2_with fail;rw[HS2.out];cases hB:(GU S).2
    ·refine(Yr S _ (by omega) HPX.out.2.2.errs hB).mono ?_;obtain⟨NN,hNN⟩:∃NN,(GU S).1=NN:=⟨_,rfl⟩;have hfit:=Ut S;rw[hB]at HF2;rw[hNN]at HF2 hfit ⊢;have HFT:=Lib.hid hfit;clear hB hNN hfit;rintro en w7 ⟨tp,pp,rfl,hb7⟩;have kR7:=kR.below hb7 lR;have lR7:=kR7.lt;have HP7:=Lib.hid (HPX.out.but hb7);have hbw7:=hbX.after hb7;clear z0 z1 z2 z3 z4 z5 r0 r1 r2 r3 r4 r5 t0 t1;obtain⟨z0,z1,z2,z3,z4,z5⟩:=kR7.sixF;obtain⟨r0,r1,r2,r3,r4,r5⟩:=kR7.six;go_upto_region 11 with fail
     refine wp_region_held_drew (S:=(λ_=>True)) (by kernel_rfl) ?_ (λhHeld=>?_)
     ·try dsimp only
      all_goals trivial
     refine tS [0,1,2,3,4] ?_;iterate 5(refine tC ?_;refine ap ?_)
     refine tN ?_;refine rdy 5 λK hK=>?_
     go_simp
     skip
     go_wp2_with fail;refine hK.out _ _ ?_ (λhHeld=>?_)
     ·try dsimp only
      all_goals trivial
     clear hK K;refine ap ?_;refine tS [6] (tC ?_);refine ap (tN ?_);refine wpAnyH_done (by kernel_rfl) ?_ _;go_wp2_with fail;refine bodyPost_ret (v:=.tuple #[.agg ((Ee ⟨1,NN,[]⟩:Ex).cells none 0).toArray,.bool false]) (by simp[results,Tryz.results263,go_sem, *,Ex.cells,Ee,CU,Ex.op,Ex.v,Ex.s,Ex.l]) rfl ?_;exact(EU HF2.out rfl (Gi _ HFT.out (by simp)) (Nat.le_refl _) lp HP7.out hbw7 _ _ _ _ _ _).drew
    ·refine(ae S _ (by omega) hB).mono ?_;obtain⟨NN,hNN⟩:∃NN,(GU S).1=NN:=⟨_,rfl⟩;have hfit:=Ut S;rw[hB]at HF2;rw[hNN]at HF2 hfit ⊢;have HFT:=Lib.hid hfit;clear hB hNN hfit;rintro en w7 ⟨rfl,hb7⟩;have kR7:=kR.below hb7 lR;have lR7:=kR7.lt;have HP7:=Lib.hid (HPX.out.but hb7);have hbw7:=hbX.after hb7;clear z0 z1 z2 z3 z4 z5 r0 r1 r2 r3 r4 r5 t0 t1;obtain⟨z0,z1,z2,z3,z4,z5⟩:=kR7.sixF;obtain⟨r0,r1,r2,r3,r4,r5⟩:=kR7.six;go_upto_region 11 with fail
     refine wp_region_held_drew (S:=(λ_=>True)) (by kernel_rfl) ?_ (λhHeld=>?_)
     ·try dsimp only
      all_goals trivial
     refine tS [0,1,2,3,4] ?_;iterate 5(refine tC ?_;refine ap ?_)
     refine tN ?_;refine rdy 5 λK hK=>?_
     go_simp
     skip
     go_wp2_with fail;refine hK.out _ _ ?_ (λhHeld=>?_)
     ·try dsimp only
      all_goals trivial
     clear hK K;refine ap ?_;refine tS [6] (tC ?_);refine ap (tN ?_);refine wpAnyH_done (by kernel_rfl) ?_ _;go_wp2_with fail;refine bodyPost_ret (v:=.tuple #[.agg ((Ee ⟨1,NN,[]⟩:Ex).cells none 0).toArray,.bool true]) (by simp[results,Tryz.results263,go_sem, *,Ex.cells,Ee,CU,Ex.op,Ex.v,Ex.s,Ex.l]) rfl ?_;exact(EU HF2.out rfl (Gi _ HFT.out (by simp)) (Nat.le_refl _) lp HP7.out hbw7 _ _ _ _ _ _).drew
   ·have e2:(t.k==2)=false:=by simpa using h2
    have hF2:=HF.out;rw[if_neg h2]at hF2;clear HF;cases sg
    ·obtain rfl:Z=[]:=HZ.out;simp only[Bool.false_eq_true,if_false]at hF2;by_cases h3:t.k=3
     ·have e3:(t.k==3)=true:=by simpa using h3
      rw[if_pos h3]at hF2;have HF2:=Lib.hid hF2.symm;clear h2 h3 hF2;go_wp2_with fail;refine bodyPost_ret (v:=.tuple #[.agg ((Ee ⟨2,0,t.s⟩:Ex).cells none 0).toArray,.bool true]) (by simp[results,Tryz.results263,go_sem, *,Ex.cells,Ee,CU,Ex.op,Ex.v,Ex.s,Ex.l]) rfl ?_;exact EU HF2.out rfl (Gi _ Uc (by show t.s.length<=_;omega)) (Nat.le_refl _) lp HPX.out hbX _ _ _ _ _ _
     ·have e3:(t.k==3)=false:=by simpa using h3
      rw[if_neg h3]at hF2;by_cases h1:t.k=1
      ·have e1:(t.k != 1)=false:=by simpa using h1
       have e1':(t.k==1)=true:=by simpa using h1
       rw[if_pos h1]at hF2;clear h1 h2 h3;by_cases hT:t.s=[84,82,85,69]
       ·rw[if_pos hT]at hF2;have HF2:=Lib.hid hF2.symm;rw[hT]at t1;clear hT hF2;go_wp2_with fail;refine(UA _).mono ?_;rintro en w7 ⟨rfl,hb7⟩;have kR7:=kR.below hb7 lR;have lR7:=kR7.lt;have HP7:=Lib.hid (HPX.out.but hb7);have hbw7:=hbX.after hb7;have hs7:=hb7.size;clear z0 z1 z2 z3 z4 z5 r0 r1 r2 r3 r4 r5 t0 t1;obtain⟨w8,hw8⟩:∃w8,w7.alloc (.cells (⟨3,1,[]⟩:V).cells.toArray 27)=w8:=⟨_,rfl⟩;have kV8:Blk w8 w7.heap.size 27 (⟨3,1,[]⟩:V).cells.toArray:=by rw[<-hw8];exact Blk.new _ _ _
        have hb8:Below w7.heap.size w7 w8:=by rw[<-hw8];exact bl
        have HW8:=Lib.hid hw8;clear hw8;have kR8:=kR7.below hb8 lR7;have lR8:=kR8.lt;obtain⟨z0,z1,z2,z3,z4,z5⟩:=kR8.sixF;obtain⟨r0,r1,r2,r3,r4,r5⟩:=kR8.six;obtain⟨⟨v0,v1,v2⟩,_⟩:=(show Blk w8 w7.heap.size 27 #[.int .i64 (⟨3,1,[]⟩:V).k,.int .i64 (⟨3,1,[]⟩:V).i,.string ⟨(⟨3,1,[]⟩:V).s.toArray⟩]from kV8).three;go_upto_region 23 with fail
        rw[show w7.alloc (.cells #[.int .i64 (⟨3,1,[]⟩:V).k,.int .i64 (⟨3,1,[]⟩:V).i,.string ⟨(⟨3,1,[]⟩:V).s.toArray⟩] 27)=w8 from HW8.out];clear HW8;go_wp2_with fail;refine bodyPost_ret (v:=.tuple #[.agg ((Ee ⟨3,1,[]⟩:Ex).cells none 0).toArray,.bool true]) (by simp[results,Tryz.results263,go_sem, *,Ex.cells,Ee,CU,Ex.op,Ex.v,Ex.s,Ex.l]) rfl ?_;exact EU HF2.out rfl (Gi _ (by constructor<;>decide) (by decide)) (Nat.le_refl _) lp (HP7.out.but hb8) (hbw7.after hb8) _ _ _ _ _ _
       by_cases hFa:t.s=[70,65,76,83,69]
       ·rw[if_neg hT,if_pos hFa]at hF2;have HF2:=Lib.hid hF2.symm;rw[hFa]at t1;clear hT hFa hF2;go_wp2_with fail;refine(Qz _).mono ?_;rintro en w7 ⟨rfl,hb7⟩;have kR7:=kR.below hb7 lR;have lR7:=kR7.lt;have HP7:=Lib.hid (HPX.out.but hb7);have hbw7:=hbX.after hb7;have hs7:=hb7.size;clear z0 z1 z2 z3 z4 z5 r0 r1 r2 r3 r4 r5 t0 t1;obtain⟨w8,hw8⟩:∃w8,w7.alloc (.cells (⟨3,0,[]⟩:V).cells.toArray 27)=w8:=⟨_,rfl⟩;have kV8:Blk w8 w7.heap.size 27 (⟨3,0,[]⟩:V).cells.toArray:=by rw[<-hw8];exact Blk.new _ _ _
        have hb8:Below w7.heap.size w7 w8:=by rw[<-hw8];exact bl
        have HW8:=Lib.hid hw8;clear hw8;have kR8:=kR7.below hb8 lR7;have lR8:=kR8.lt;obtain⟨z0,z1,z2,z3,z4,z5⟩:=kR8.sixF;obtain⟨r0,r1,r2,r3,r4,r5⟩:=kR8.six;obtain⟨⟨v0,v1,v2⟩,_⟩:=(show Blk w8 w7.heap.size 27 #[.int .i64 (⟨3,0,[]⟩:V).k,.int .i64 (⟨3,0,[]⟩:V).i,.string ⟨(⟨3,0,[]⟩:V).s.toArray⟩]from kV8).three;go_upto_region 23 with fail
        rw[show w7.alloc (.cells #[.int .i64 (⟨3,0,[]⟩:V).k,.int .i64 (⟨3,0,[]⟩:V).i,.string ⟨(⟨3,0,[]⟩:V).s.toArray⟩] 27)=w8 from HW8.out];clear HW8;go_wp2_with fail;refine bodyPost_ret (v:=.tuple #[.agg ((Ee ⟨3,0,[]⟩:Ex).cells none 0).toArray,.bool true]) (by simp[results,Tryz.results263,go_sem, *,Ex.cells,Ee,CU,Ex.op,Ex.v,Ex.s,Ex.l]) rfl ?_;exact EU HF2.out rfl (Gi _ (by constructor<;>decide) (by decide)) (Nat.le_refl _) lp (HP7.out.but hb8) (hbw7.after hb8) _ _ _ _ _ _
       by_cases hN:t.s=[78,85,76,76]
       ·rw[if_neg hT,if_neg hFa,if_pos hN]at hF2;have HF2:=Lib.hid hF2.symm;rw[hN]at t1;clear hT hFa hN hF2;go_wp2_with fail;refine(UB _).mono ?_;rintro en w7 ⟨rfl,hb7⟩;have kR7:=kR.below hb7 lR;have lR7:=kR7.lt;have HP7:=Lib.hid (HPX.out.but hb7);have hbw7:=hbX.after hb7;have hs7:=hb7.size;clear z0 z1 z2 z3 z4 z5 r0 r1 r2 r3 r4 r5 t0 t1;obtain⟨w8,hw8⟩:∃w8,w7.alloc (.cells (⟨0,0,[]⟩:V).cells.toArray 27)=w8:=⟨_,rfl⟩;have kV8:Blk w8 w7.heap.size 27 (⟨0,0,[]⟩:V).cells.toArray:=by rw[<-hw8];exact Blk.new _ _ _
        have hb8:Below w7.heap.size w7 w8:=by rw[<-hw8];exact bl
        have HW8:=Lib.hid hw8;clear hw8;have kR8:=kR7.below hb8 lR7;have lR8:=kR8.lt;obtain⟨z0,z1,z2,z3,z4,z5⟩:=kR8.sixF;obtain⟨r0,r1,r2,r3,r4,r5⟩:=kR8.six;obtain⟨⟨v0,v1,v2⟩,_⟩:=(show Blk w8 w7.heap.size 27 #[.int .i64 (⟨0,0,[]⟩:V).k,.int .i64 (⟨0,0,[]⟩:V).i,.string ⟨(⟨0,0,[]⟩:V).s.toArray⟩]from kV8).three;go_upto_region 23 with fail
        rw[show w7.alloc (.cells #[.int .i64 (⟨0,0,[]⟩:V).k,.int .i64 (⟨0,0,[]⟩:V).i,.string ⟨(⟨0,0,[]⟩:V).s.toArray⟩] 27)=w8 from HW8.out];clear HW8;go_wp2_with fail;refine bodyPost_ret (v:=.tuple #[.agg ((Ee ⟨0,0,[]⟩:Ex).cells none 0).toArray,.bool true]) (by simp[results,Tryz.results263,go_sem, *,Ex.cells,Ee,CU,Ex.op,Ex.v,Ex.s,Ex.l]) rfl ?_;exact EU HF2.out rfl (Gi _ (by constructor<;>decide) (by decide)) (Nat.le_refl _) lp (HP7.out.but hb8) (hbw7.after hb8) _ _ _ _ _ _
       rw[if_neg hT,if_neg hFa,if_neg hN]at hF2;have HF2:=Lib.hid hF2.symm;have g1:(t.s==[84,82,85,69])=false:=by simpa using hT
       have g2:(t.s==[70,65,76,83,69])=false:=by simpa using hFa
       have g3:(t.s==[78,85,76,76])=false:=by simpa using hN
       clear hT hFa hN hF2;obtain⟨B,hB⟩:∃B,CZ t.s=B:=⟨_,rfl⟩;rw[hB]at HF2;have HB:=Lib.hid hB;clear hB;have kT':Blk X T 128 #[.int .i64 t.k,.string ⟨t.s.toArray⟩]:=kT;go_upto_region 24 with fail
       refine wp_region_held_drew (S:=(λw'=>w'.cell? ⟨T,0,none⟩=some (.int .i64 t.k)/\w'.cell? ⟨T,1,none⟩=some (.string ⟨t.s.toArray⟩))) (by kernel_rfl) ?_ (λhHeld=>?_)
       ·try dsimp only
        exact(Blk.two (t:=128) (by((repeat'(first|with_reducible assumption|with_reducible refine Blk.drew ?_|with_reducible refine Blk.drewN ?_ _|with_reducible refine Blk.set3 ?_ _ _ _|with_reducible refine Blk.far ?_ ?_ _|((with_reducible refine Blk.new' _ _ _ _ ?_)<;>(first|(simp;done)|(simp;omega)|omega)<;>done)|with_reducible refine Blk.alloc ?_ _|with_reducible refine BD.drew ?_|with_reducible refine BD.drewN ?_ _|((with_reducible refine BD.new' _ _ _ _ _ _ ?_)<;>(first|(simp;done)|(simp;omega)|omega)<;>done)|with_reducible refine BD.alloc ?_ _|with_reducible refine BD.far ?_ ?_ _|with_reducible refine BD.below ?_ (by assumption) ?_|with_reducible refine Blk.below ?_ (by assumption) ?_))<;>(first|(simp;done)|(simp;omega)|omega)))).1
       refine tS [0,1,2,3,4] ?_;iterate 5(refine tC ?_;refine ap ?_)
       refine tN ?_;refine rdy 5 λK hK=>?_
       go_simp;refine(IW t.s _).mono ?_<;>rw[HB.out]<;>rintro en w7 ⟨rfl,rfl⟩
       go_wp2_with fail;refine hK.out _ _ ((Blk.two (t:=128) (by((repeat'(first|with_reducible assumption|with_reducible refine Blk.drew ?_|with_reducible refine Blk.drewN ?_ _|with_reducible refine Blk.set3 ?_ _ _ _|with_reducible refine Blk.far ?_ ?_ _|((with_reducible refine Blk.new' _ _ _ _ ?_)<;>(first|(simp;done)|(simp;omega)|omega)<;>done)|with_reducible refine Blk.alloc ?_ _|with_reducible refine BD.drew ?_|with_reducible refine BD.drewN ?_ _|((with_reducible refine BD.new' _ _ _ _ _ _ ?_)<;>(first|(simp;done)|(simp;omega)|omega)<;>done)|with_reducible refine BD.alloc ?_ _|with_reducible refine BD.far ?_ ?_ _|with_reducible refine BD.below ?_ (by assumption) ?_|with_reducible refine Blk.below ?_ (by assumption) ?_))<;>(first|(simp;done)|(simp;omega)|omega)))).1) λhHeld=>?_
       clear hK K;refine ap ?_;refine tS [6] (tC ?_);refine ap (tN ?_);refine rdy 7 λK hK=>?_
       go_simp
       skip
       go_wp2_with fail;refine hK.out _ _ ((Blk.two (t:=128) (by((repeat'(first|with_reducible assumption|with_reducible refine Blk.drew ?_|with_reducible refine Blk.drewN ?_ _|with_reducible refine Blk.set3 ?_ _ _ _|with_reducible refine Blk.far ?_ ?_ _|((with_reducible refine Blk.new' _ _ _ _ ?_)<;>(first|(simp;done)|(simp;omega)|omega)<;>done)|with_reducible refine Blk.alloc ?_ _|with_reducible refine BD.drew ?_|with_reducible refine BD.drewN ?_ _|((with_reducible refine BD.new' _ _ _ _ _ _ ?_)<;>(first|(simp;done)|(simp;omega)|omega)<;>done)|with_reducible refine BD.alloc ?_ _|with_reducible refine BD.far ?_ ?_ _|with_reducible refine BD.below ?_ (by assumption) ?_|with_reducible refine Blk.below ?_ (by assumption) ?_))<;>(first|(simp;done)|(simp;omega)|omega)))).1) λhHeld=>?_
       clear hK K;refine ap ?_;refine tS [8] (tC ?_);refine ap (tN ?_);refine wpAnyH_done (by kernel_rfl) ?_ _;go_wp2_with fail;refine bodyPost_ret (v:=.tuple #[.agg ((.mk DC V.zero t.s []:Ex).cells none 0).toArray,.bool (!B)]) (by simp[results,Tryz.results263,go_sem, *,Ex.cells,DC,V.zero,Ex.op,Ex.v,Ex.s,Ex.l]) rfl ?_;exact(EU HF2.out rfl ⟨Uc,by simp[DC,Ex.op],by show t.s.length<=_;omega,by simp[Ex.v,V.zero]⟩ (Nat.le_refl _) lp HPX.out hbX _ _ _ _ _ _).drew
      ·have e1:(t.k != 1)=true:=by simpa using h1
       have e1':(t.k==1)=false:=by simpa using h1
       rw[if_neg h1]at hF2;have HF2:=Lib.hid hF2.symm;clear h1 h2 h3 hF2;go_wp2_with fail;refine bodyPost_ret (v:=.tuple #[.agg ((AL:Ex).cells none 0).toArray,.bool false]) (by simp[results,Tryz.results263,go_sem, *,Ex.cells,AL,V.zero,Ex.op,Ex.v,Ex.s,Ex.l]) rfl ?_;exact EU HF2.out rfl CX (Nat.le_refl _) lp HPX.out hbX _ _ _ _ _ _
    ·obtain rfl:Z=[45]:=HZ.out;simp only[if_true]at hF2;have HF2:=Lib.hid hF2.symm;clear h2 hF2;go_wp2_with fail;refine bodyPost_ret (v:=.tuple #[.agg ((AL:Ex).cells none 0).toArray,.bool false]) (by simp[results,Tryz.results263,go_sem, *,Ex.cells,AL,V.zero,Ex.op,Ex.v,Ex.s,Ex.l]) rfl ?_;exact EU HF2.out rfl CX (Nat.le_refl _) lp HPX.out hbX _ _ _ _ _ _
 ·have HF:Hid (R=(AL,false,a1)):=by show _=_;rw[<-HR.out];unfold JO;rw[List.getElem?_eq_none (by omega)]
  have b0:(l.length:Int)<=(a1:Int):=by omega
  have HSH:Hid (∀w':World,Below w3.heap.size w3 w'->(w'.cell? ⟨p,0,none⟩=some (.slice A l.length c)/\w'.cell? ⟨p,1,none⟩=some (.int .i64 (a1:Nat)))):=
   λw' hb=>⟨(HP3.out.1.below hb HP3.out.1.lt).cell 0,(HP3.out.1.below hb HP3.out.1.lt).cell 1⟩
  go_upto_region 5 with fail
  refine rgn HSH λhHeld=>?_
  refine tS [0,1,2,3,4,5,6,7,8,9,10] ?_;iterate 11(refine tC ?_;refine ap ?_)
  refine tN ?_;refine tS [11,12,13,14,15,16,17,18,19,20,21,22] ?_;iterate 12(refine tX ?_;refine ap ?_)
  refine tN ?_;refine tS [23] (tC ?_);refine ap (tN ?_);refine wpAnyH_done (by kernel_rfl) ?_ _;obtain⟨z0,z1,z2,z3,z4,z5⟩:=kR3.sixF;obtain⟨r0,r1,r2,r3,r4,r5⟩:=kR3.six;go_wp2_with fail;refine bodyPost_ret (v:=.tuple #[.agg (AL.cells none 0).toArray,.bool false]) (by simp[results,Tryz.results263,go_sem, *,Ex.cells,AL,Ex.op,Ex.v,Ex.s,Ex.l,V.zero]) rfl ?_;exact(EU HF.out rfl CX (Nat.le_refl _) lp HP3.out hbw3 _ _ _ _ _ _).drew
end Go.Proofs.YtchilcchogcibaaGreatDoor
