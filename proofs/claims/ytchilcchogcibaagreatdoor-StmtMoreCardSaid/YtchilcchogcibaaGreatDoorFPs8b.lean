/- The statement parser's choose, delete and drop, as plain functions; The statement parser's list and inside, over what an item does. -/
import Derived.Test.YtchilcchogcibaaGreatDoorFPs7
set_option maxRecDepth 100000
set_option maxHeartbeats 4000000
namespace Go.Proofs.YtchilcchogcibaaGreatDoor
open Go.RowKit
attribute [local go_sem] ByteArray.extract_mk Ak AY
attribute [local go_sem ↓] Go.wp_at_zero Go.wp_at_succ
def psC(A:Option Addr)(n c a:Nat)(vs:List Value):Array Value:=(.slice A n c::.int .i64 (a:Nat)::vs).toArray
def Fz(o:Option (St×Nat))(g:Nat)(A:Option Addr)(c:Nat)(l:List Tok)(w:World)(en:Ending)(w':World):Prop:=
 match o with
 |none=>en=.returned (.bool false)/\But g w w'
 |some r=>∃p,en=.returned (.bool true)/\PsS g A c l r.2 (psC A l.length c r.2 (r.1.cells p)) w'/\StQ 1000 r.1 p (λb=>w.heap.size<=b/\b<w'.heap.size) w'/\r.1.Ok/\But g w w'
theorem Xz{Q:Nat->Prop}{w:World}:∀(m n:Nat) (A:Option Addr) (l:List Ex),ExQ 1000 n w Q A l->∀x∈l,D8 m x
 |m,0,A,l,h=>λx hx=>by rw[show l=[]from h]at hx;cases hx
 |m,n+1,A,l,h=>λx hx=>by
  obtain⟨i,hi,rfl⟩:=List.getElem_of_mem hx;obtain⟨b,off,rfl,-,hr⟩:=h (by omega);obtain⟨A',c',hf,-,-,-,hq⟩:=hr i _ (List.getElem?_eq_getElem hi);cases m with
  |zero=>exact hf.1
  |succ m=>exact⟨hf.1,Xz m n A' _ hq⟩
theorem Nu{Q:Nat->Prop}{e:Ex}{A:Option Addr}{c:Nat}{w:World}(h:ExR Q e A c w):∀m,D8 m e
 |0=>h.1.1
 |m+1=>by
  obtain⟨n,hn⟩:=h.2.2.2;exact⟨h.1.1,Xz m n A _ hn⟩
theorem LP:∀m,D8 m ex0
 |0=>⟨by decide,by decide⟩
 |m+1=>⟨⟨by decide,by decide⟩,λx hx=>by cases hx⟩
def stW(op tb:List UInt8)(e:Ex):St:=⟨op,tb,[],[],[],[],[],[],ex0,[],[],e,[]⟩
def pW(A:Option Addr)(c:Nat):StP:=⟨slZ,slZ,slZ,slZ,slZ,slZ,slZ,⟨A,c⟩⟩
theorem Pn{op tb:List UInt8}{e:Ex}{A:Option Addr}{c:Nat}{Q:Nat->Prop}{w:World}(h:ExR Q e A c w):StQ 1000 (stW op tb e) (pW A c) Q w:=
 ⟨SQ.nil,λh=>absurd h (by simp[stW]),SQ.nil,XQ.nil,⟨0,rfl⟩,λh=>absurd h (by simp[stW]),⟨0,ZQ.nil⟩,h.2.2.2⟩
theorem TM{op tb:List UInt8}{e:Ex}{A:Option Addr}{c:Nat}{Q:Nat->Prop}{w:World}(h:ExR Q e A c w)(h1:op.length<=1000)(h2:tb.length<=1000):(stW op tb e).Ok where
 op:=h1
 tb:=h2
 ot:=Nat.zero_le _
 key:=Nat.zero_le _
 role:=Nat.zero_le _
 nN:=Nat.zero_le _
 nC:=Nat.zero_le _
 nU:=Nat.zero_le _
 nR:=Nat.zero_le _
 nW:=Nat.zero_le _
 nS:=Nat.zero_le _
 names:=λx hx=>by cases hx
 cols:=λx hx=>by cases hx
 uniq:=λx hx=>by cases hx
 refs:=λx hx=>by cases hx
 chk:=CX
 whr:=h.1
 row:=λx hx=>by cases hx
 sets:=λx hx=>by cases hx
 num:=⟨LP _,Nu h _,(λx hx=>by cases hx),(λx hx=>by cases hx)⟩
theorem Ad(A:Option Addr)(n c a b:Nat)(vs:List Value):Aa (psC A n c a vs) b=psC A n c b vs:=by
 simp only[Aa,psC,List.setIfInBounds_toArray];rfl
theorem Ha(A:Option Addr)(n c a:Nat)(op:List UInt8):(psC A n c a ((stZ [] []).cells Cj)).setIfInBounds 2 (.string ⟨op.toArray⟩)=psC A n c a ((stW op [] ex0).cells (pW none 0)):=by
 simp only[psC,List.setIfInBounds_toArray];rfl
theorem Iy(A:Option Addr)(n c a:Nat)(op t u:List UInt8)(e:Ex)(A':Option Addr)(c':Nat):(psC A n c a ((stW op u e).cells (pW A' c'))).setIfInBounds 3 (.string ⟨t.toArray⟩)=psC A n c a ((stW op t e).cells (pW A' c')):=by
 simp only[psC,List.setIfInBounds_toArray];rfl
theorem P5(A:Option Addr)(n c a:Nat)(op t:List UInt8)(e e':Ex)(A' A'':Option Addr)(c' c'':Nat):Gm (psC A n c a ((stW op t e).cells (pW A' c'))) 18 (e'.cells A'' c'')=psC A n c a ((stW op t e').cells (pW A'' c'')):=by
 simp only[psC,Ex.cells,Gm,List.setIfInBounds_toArray];rfl
theorem Dz{l:List Tok}{a:Nat}{s:List UInt8}(h:AO l a=some s):a<l.length:=by
 unfold AO at h;cases hv:l[a]? with
 |none=>rw[hv]at h;cases h
 |some t=>exact(List.getElem?_eq_some_iff.1 hv).1
def strP(s:List UInt8):Value:=.string ⟨s.toArray⟩
theorem XP{w:World}{b:Nat}{t:TypeId}{ws:List (List UInt8)}{Q:Nat->Prop}(h:Blk w b t (ws.map strP).toArray)(hQ:Q b):SQ ws (some ⟨b,0,none⟩) Q w:=λ_=>
 ⟨b,0,rfl,hQ,λi x hx=>by rw[Nat.zero_add,h.cell];simp[hx,strP]⟩
def JG(l:List Tok)(op:List UInt8)(ws:List (List UInt8)):Option (St×Nat):=
 if CV l 1 ws=ws.length then(AO l (1+ws.length)).bind λt=>(Dn l (2+ws.length)).map λr=>(stW op t r.1,r.2)else none
theorem OH(g:Nat)(A:Option Addr)(c:Nat)(l:List Tok)(w:World)(hp:PsE g c l w)(h:PsS g A c l 1 (psC A l.length c 1 ((stZ [] []).cells Cj)) w):
  Calls Tryz.prog 102 #[.pointer (some ⟨g,0,none⟩)] w (Fz (JG l [115,101,108,101,99,116] [[42],[70,82,79,77]]) g A c l w):=by
 have hn:=hp.n;have HS:=Lib.hid hp.s;obtain⟨R,hR⟩:∃R,JG l [115,101,108,101,99,116] [[42],[70,82,79,77]]=R:=⟨_,rfl⟩;have hR1:(if CV l 1 [[42],[70,82,79,77]]=2 then(AO l (1+2)).bind λt=>(Dn l (2+2)).map λr=>(stW [115,101,108,101,99,116] t r.1,r.2)else none)=R:=hR;rw[hR];have x2:w.cell? ⟨g,2,none⟩=some (.string ⟨#[]⟩):=h.blk.cell 2;have f2:=h.blk.frozen 2;obtain⟨w2,hw2⟩:∃w2,w.setCell ⟨g,2,none⟩ (.string ⟨([115,101,108,101,99,116]:List UInt8).toArray⟩)=w2:=⟨_,rfl⟩;have hP2:=h.set 2 (Nat.le_refl _) (.string ⟨([115,101,108,101,99,116]:List UInt8).toArray⟩);rw[hw2]at hP2;have hb2:But g w w2:=by rw[<-hw2];exact(But.refl _ _).set 2 _
 rw[Ha]at hP2;obtain⟨cs2,hcs⟩:∃x,psC A l.length c 1 ((stW [115,101,108,101,99,116] [] ex0).cells (pW none 0))=x:=⟨_,rfl⟩;rw[hcs]at hP2;have H3:Hid (∀b,(Aa cs2 b)[3]? = some (.string ⟨#[]⟩)):=λb=>by rw[<-hcs,Ad];rfl
 have HZ:Hid (∀(t:List UInt8) b,Gm (Aa (cs2.setIfInBounds 3 (.string ⟨t.toArray⟩)) b) 18 (ex0.cells none 0)=Aa (cs2.setIfInBounds 3 (.string ⟨t.toArray⟩)) b):=λt b=>by rw[<-hcs,Iy,Ad,P5]
 have HF:Hid (∀(t:List UInt8) (e:Ex) A' c' b,Aa (Gm (cs2.setIfInBounds 3 (.string ⟨t.toArray⟩)) 18 (e.cells A' c')) b=psC A l.length c b ((stW [115,101,108,101,99,116] t e).cells (pW A' c'))):=λt e A' c' b=>by rw[<-hcs,Iy,P5,Ad]
 have HZS:Hid (∀(t:List UInt8) b,24<=(Aa (cs2.setIfInBounds 3 (.string ⟨t.toArray⟩)) b).size):=λt b=>by rw[<-hcs,Iy,Ad];exact(by decide:24<=25)
 obtain⟨w3,hw3⟩:∃w3,w2.alloc (.cells #[.string ⟨([42]:List UInt8).toArray⟩,.string ⟨([70,82,79,77]:List UInt8).toArray⟩] 9)=w3:=⟨_,rfl⟩;have k3:Blk w3 w2.heap.size 9 #[.string ⟨([42]:List UInt8).toArray⟩,.string ⟨([70,82,79,77]:List UInt8).toArray⟩]:=by rw[<-hw3];exact Blk.new _ _ _
 have hb23:Below w2.heap.size w2 w3:=by rw[<-hw3];exact bl
 have hP3:=hP2.below hb23;have hg2:g<w2.heap.size:=hP2.blk.lt;have hwd:=Jp g A c l 1 cs2 [[42],[70,82,79,77]] (some ⟨w2.heap.size,0,none⟩) 2 w3 (by decide) hP3 (XP k3 ⟨k3.lt,by omega⟩);have HB3:=Lib.hid (hb2.trans (But.of_below (p:=g) hb23));have HPE:=Lib.hid hp;have HW2:=Lib.hid hw2;have HW3:=Lib.hid hw3;obtain⟨K,hK⟩:∃K,CV l 1 [[42],[70,82,79,77]]=K:=⟨_,rfl⟩;rw[hK]at hwd hR1;obtain⟨B,hB⟩:∃B,decide (K=2)=B:=⟨_,rfl⟩;have HWD:Hid (Calls Tryz.prog 160 #[.pointer (some ⟨g,0,none⟩),.slice (some ⟨w2.heap.size,0,none⟩) 2 2] w3 (EO B g A c l (1+K) (Aa cs2 (1+K)) w3)):=by
  rw[<-hB];exact hwd
 have HR:=Lib.hid hR1;have HBK:=Lib.hid hB;clear hR hR1 hw2 hP2 hw3 k3 hP3 hK hB hb23 hb2 hwd hcs h hp;go_in
 go_upto_region 2 with fail
 rw[show World.setCell w _ _=w2 from HW2.out];clear x2 f2;go_wp2_with fail;rw[show World.alloc w2 _=w3 from HW3.out];refine HWD.out.mono ?_;rintro en w4 ⟨rfl,hP4,hb4⟩;have HB4:=Lib.hid (HB3.out.trans hb4);cases B with
 |false=>
  have hR:R=none:=by rw[<-HR.out,if_neg (of_decide_eq_false HBK.out)]
  subst hR;clear hP4 hb4 HWD;go_wp2_with fail;go_ret;exact⟨rfl,HB4.out⟩
 |true=>
  have hk:K=2:=of_decide_eq_true HBK.out;have hR:((AO l (1+2)).bind λt=>(Dn l (2+2)).map λr=>(stW [115,101,108,101,99,116] t r.1,r.2))=R:=by rw[<-HR.out,if_pos hk]
  rw[hk]at hP4;have HNM:=Lib.hid (Bv g A c l (1+2) (Aa cs2 (1+2)) 3 [] w4 (by decide) hP4 (by decide) (H3.out _) HS.out);have HNL:Hid (∀s,AO l (1+2)=some s->s.length<=1000/\2+2<=l.length):=λs h=>by
   obtain⟨t,ht,rfl⟩:=Bj h;exact⟨HS.out t ht,by have:=Dz h;omega⟩
  obtain⟨ON,hON⟩:∃x,AO l (1+2)=x:=⟨_,rfl⟩;rw[hON]at HNM hR HNL;clear hP4 hb4 hON HR HWD HBK hk;go_wp2_with fail;refine HNM.out.mono ?_;cases ON with
  |none=>
   have hR:R=none:=hR.symm;subst hR;rintro en w5 ⟨rfl,hP5,hb5⟩;have HB5:=Lib.hid (HB4.out.trans hb5);clear hP5 hb5;go_wp2_with fail;go_ret;exact⟨rfl,HB5.out⟩
  |some s=>
   have hR:((Dn l (2+2)).map λr=>(stW [115,101,108,101,99,116] s r.1,r.2))=R:=hR;rintro en w5 ⟨rfl,hP5,hb5⟩;have HB5:=Lib.hid (HB4.out.trans hb5);rw[Dp _ _ _ _ (by decide),AQ]at hP5;have hP5':PsS g A c l (2+2) (Aa (cs2.setIfInBounds 3 (.string ⟨s.toArray⟩)) (2+2)) w5:=hP5;have HWH:=Lib.hid (Jq g A c l (2+2) _ w5 (HPE.out.but HB5.out) (HNL.out s rfl).2 hP5' (HZS.out _ _) (HZ.out _ _));obtain⟨OW,hOW⟩:∃x,Dn l (2+2)=x:=⟨_,rfl⟩;rw[hOW]at HWH hR;have HR:=Lib.hid hR;clear hP5 hP5' hb5 hOW hR HNM;go_wp2_with fail;refine HWH.out.mono ?_;cases OW with
   |none=>
    have hR:R=none:=HR.out.symm;subst hR;rintro en w6 ⟨rfl,hb6⟩;have HB6:=Lib.hid (HB5.out.trans hb6);clear hb6;go_wp2_with fail;go_ret;exact⟨rfl,HB6.out⟩
   |some r=>
    have hR:R=some _:=HR.out.symm;subst hR;rintro en w6 ⟨A',c',rfl,hP6,hE6,hb6⟩;rw[Ht _ _ _ _ (by decide),AQ,HF.out]at hP6;have HP6:=Lib.hid hP6;have HE6:=Lib.hid (hE6.keep (Q':=λk=>w.heap.size<=k/\k<w6.heap.size) (w':=w6) λk hk=>⟨⟨Nat.le_trans HB5.out.size hk.1,hk.2⟩,λ_=>rfl⟩);have HB6:=Lib.hid (HB5.out.trans hb6);clear hP6 hE6 hb6 HR;go_wp2_with fail;go_ret;exact⟨pW A' c',rfl,HP6.out,Pn HE6.out,TM HE6.out (by decide) (HNL.out s rfl).1,HB6.out⟩
theorem UV(g:Nat)(A:Option Addr)(c:Nat)(l:List Tok)(w:World)(hp:PsE g c l w)(h:PsS g A c l 1 (psC A l.length c 1 ((stZ [] []).cells Cj)) w):
  Calls Tryz.prog 101 #[.pointer (some ⟨g,0,none⟩)] w (Fz (JG l [100,101,108,101,116,101] [[70,82,79,77]]) g A c l w):=by
 have hn:=hp.n;have HS:=Lib.hid hp.s;obtain⟨R,hR⟩:∃R,JG l [100,101,108,101,116,101] [[70,82,79,77]]=R:=⟨_,rfl⟩;have hR1:(if CV l 1 [[70,82,79,77]]=1 then(AO l (1+1)).bind λt=>(Dn l (2+1)).map λr=>(stW [100,101,108,101,116,101] t r.1,r.2)else none)=R:=hR;rw[hR];have x2:w.cell? ⟨g,2,none⟩=some (.string ⟨#[]⟩):=h.blk.cell 2;have f2:=h.blk.frozen 2;obtain⟨w2,hw2⟩:∃w2,w.setCell ⟨g,2,none⟩ (.string ⟨([100,101,108,101,116,101]:List UInt8).toArray⟩)=w2:=⟨_,rfl⟩;have hP2:=h.set 2 (Nat.le_refl _) (.string ⟨([100,101,108,101,116,101]:List UInt8).toArray⟩);rw[hw2]at hP2;have hb2:But g w w2:=by rw[<-hw2];exact(But.refl _ _).set 2 _
 rw[Ha]at hP2;obtain⟨cs2,hcs⟩:∃x,psC A l.length c 1 ((stW [100,101,108,101,116,101] [] ex0).cells (pW none 0))=x:=⟨_,rfl⟩;rw[hcs]at hP2;have H3:Hid (∀b,(Aa cs2 b)[3]? = some (.string ⟨#[]⟩)):=λb=>by rw[<-hcs,Ad];rfl
 have HZ:Hid (∀(t:List UInt8) b,Gm (Aa (cs2.setIfInBounds 3 (.string ⟨t.toArray⟩)) b) 18 (ex0.cells none 0)=Aa (cs2.setIfInBounds 3 (.string ⟨t.toArray⟩)) b):=λt b=>by rw[<-hcs,Iy,Ad,P5]
 have HF:Hid (∀(t:List UInt8) (e:Ex) A' c' b,Aa (Gm (cs2.setIfInBounds 3 (.string ⟨t.toArray⟩)) 18 (e.cells A' c')) b=psC A l.length c b ((stW [100,101,108,101,116,101] t e).cells (pW A' c'))):=λt e A' c' b=>by rw[<-hcs,Iy,P5,Ad]
 have HZS:Hid (∀(t:List UInt8) b,24<=(Aa (cs2.setIfInBounds 3 (.string ⟨t.toArray⟩)) b).size):=λt b=>by rw[<-hcs,Iy,Ad];exact(by decide:24<=25)
 obtain⟨w3,hw3⟩:∃w3,w2.alloc (.cells #[.string ⟨([70,82,79,77]:List UInt8).toArray⟩] 9)=w3:=⟨_,rfl⟩;have k3:Blk w3 w2.heap.size 9 #[.string ⟨([70,82,79,77]:List UInt8).toArray⟩]:=by rw[<-hw3];exact Blk.new _ _ _
 have hb23:Below w2.heap.size w2 w3:=by rw[<-hw3];exact bl
 have hP3:=hP2.below hb23;have hg2:g<w2.heap.size:=hP2.blk.lt;have hwd:=Jp g A c l 1 cs2 [[70,82,79,77]] (some ⟨w2.heap.size,0,none⟩) 1 w3 (by decide) hP3 (XP k3 ⟨k3.lt,by omega⟩);have HB3:=Lib.hid (hb2.trans (But.of_below (p:=g) hb23));have HPE:=Lib.hid hp;have HW2:=Lib.hid hw2;have HW3:=Lib.hid hw3;obtain⟨K,hK⟩:∃K,CV l 1 [[70,82,79,77]]=K:=⟨_,rfl⟩;rw[hK]at hwd hR1;obtain⟨B,hB⟩:∃B,decide (K=1)=B:=⟨_,rfl⟩;have HWD:Hid (Calls Tryz.prog 160 #[.pointer (some ⟨g,0,none⟩),.slice (some ⟨w2.heap.size,0,none⟩) 1 1] w3 (EO B g A c l (1+K) (Aa cs2 (1+K)) w3)):=by
  rw[<-hB];exact hwd
 have HR:=Lib.hid hR1;have HBK:=Lib.hid hB;clear hR hR1 hw2 hP2 hw3 k3 hP3 hK hB hb23 hb2 hwd hcs h hp;go_in
 go_upto_region 2 with fail
 rw[show World.setCell w _ _=w2 from HW2.out];clear x2 f2;go_wp2_with fail;rw[show World.alloc w2 _=w3 from HW3.out];refine HWD.out.mono ?_;rintro en w4 ⟨rfl,hP4,hb4⟩;have HB4:=Lib.hid (HB3.out.trans hb4);cases B with
 |false=>
  have hR:R=none:=by rw[<-HR.out,if_neg (of_decide_eq_false HBK.out)]
  subst hR;clear hP4 hb4 HWD;go_wp2_with fail;go_ret;exact⟨rfl,HB4.out⟩
 |true=>
  have hk:K=1:=of_decide_eq_true HBK.out;have hR:((AO l (1+1)).bind λt=>(Dn l (2+1)).map λr=>(stW [100,101,108,101,116,101] t r.1,r.2))=R:=by rw[<-HR.out,if_pos hk]
  rw[hk]at hP4;have HNM:=Lib.hid (Bv g A c l (1+1) (Aa cs2 (1+1)) 3 [] w4 (by decide) hP4 (by decide) (H3.out _) HS.out);have HNL:Hid (∀s,AO l (1+1)=some s->s.length<=1000/\2+1<=l.length):=λs h=>by
   obtain⟨t,ht,rfl⟩:=Bj h;exact⟨HS.out t ht,by have:=Dz h;omega⟩
  obtain⟨ON,hON⟩:∃x,AO l (1+1)=x:=⟨_,rfl⟩;rw[hON]at HNM hR HNL;clear hP4 hb4 hON HR HWD HBK hk;go_wp2_with fail;refine HNM.out.mono ?_;cases ON with
  |none=>
   have hR:R=none:=hR.symm;subst hR;rintro en w5 ⟨rfl,hP5,hb5⟩;have HB5:=Lib.hid (HB4.out.trans hb5);clear hP5 hb5;go_wp2_with fail;go_ret;exact⟨rfl,HB5.out⟩
  |some s=>
   have hR:((Dn l (2+1)).map λr=>(stW [100,101,108,101,116,101] s r.1,r.2))=R:=hR;rintro en w5 ⟨rfl,hP5,hb5⟩;have HB5:=Lib.hid (HB4.out.trans hb5);rw[Dp _ _ _ _ (by decide),AQ]at hP5;have hP5':PsS g A c l (2+1) (Aa (cs2.setIfInBounds 3 (.string ⟨s.toArray⟩)) (2+1)) w5:=hP5;have HWH:=Lib.hid (Jq g A c l (2+1) _ w5 (HPE.out.but HB5.out) (HNL.out s rfl).2 hP5' (HZS.out _ _) (HZ.out _ _));obtain⟨OW,hOW⟩:∃x,Dn l (2+1)=x:=⟨_,rfl⟩;rw[hOW]at HWH hR;have HR:=Lib.hid hR;clear hP5 hP5' hb5 hOW hR HNM;go_wp2_with fail;refine HWH.out.mono ?_;cases OW with
   |none=>
    have hR:R=none:=HR.out.symm;subst hR;rintro en w6 ⟨rfl,hb6⟩;have HB6:=Lib.hid (HB5.out.trans hb6);clear hb6;go_wp2_with fail;go_ret;exact⟨rfl,HB6.out⟩
   |some r=>
    have hR:R=some _:=HR.out.symm;subst hR;rintro en w6 ⟨A',c',rfl,hP6,hE6,hb6⟩;rw[Ht _ _ _ _ (by decide),AQ,HF.out]at hP6;have HP6:=Lib.hid hP6;have HE6:=Lib.hid (hE6.keep (Q':=λk=>w.heap.size<=k/\k<w6.heap.size) (w':=w6) λk hk=>⟨⟨Nat.le_trans HB5.out.size hk.1,hk.2⟩,λ_=>rfl⟩);have HB6:=Lib.hid (HB5.out.trans hb6);clear hP6 hE6 hb6 HR;go_wp2_with fail;go_ret;exact⟨pW A' c',rfl,HP6.out,Pn HE6.out,TM HE6.out (by decide) (HNL.out s rfl).1,HB6.out⟩
def N7(l:List Tok):Option (St×Nat):=if hit l 1 [84,65,66,76,69]then(AO l 2).map λt=>(stW [100,114,111,112] t ex0,3)else none
theorem SC(g:Nat)(A:Option Addr)(c:Nat)(l:List Tok)(w:World)(hp:PsE g c l w)(h:PsS g A c l 1 (psC A l.length c 1 ((stZ [] []).cells Cj)) w):
  Calls Tryz.prog 98 #[.pointer (some ⟨g,0,none⟩)] w (Fz (N7 l) g A c l w):=by
 have hn:=hp.n;have HS:=Lib.hid hp.s;obtain⟨R,hR⟩:∃R,N7 l=R:=⟨_,rfl⟩;have hR1:(if hit l 1 [84,65,66,76,69]then(AO l 2).map λt=>(stW [100,114,111,112] t ex0,3)else none)=R:=hR;rw[hR];have x2:w.cell? ⟨g,2,none⟩=some (.string ⟨#[]⟩):=h.blk.cell 2;have f2:=h.blk.frozen 2;obtain⟨w2,hw2⟩:∃w2,w.setCell ⟨g,2,none⟩ (.string ⟨([100,114,111,112]:List UInt8).toArray⟩)=w2:=⟨_,rfl⟩;have hP2:=h.set 2 (Nat.le_refl _) (.string ⟨([100,114,111,112]:List UInt8).toArray⟩);rw[hw2]at hP2;have hb2:But g w w2:=by rw[<-hw2];exact(But.refl _ _).set 2 _
 rw[Ha]at hP2;obtain⟨cs2,hcs⟩:∃x,psC A l.length c 1 ((stW [100,114,111,112] [] ex0).cells (pW none 0))=x:=⟨_,rfl⟩;rw[hcs]at hP2;have H3:Hid (∀b,(Aa cs2 b)[3]? = some (.string ⟨#[]⟩)):=λb=>by rw[<-hcs,Ad];rfl
 have HF:Hid (∀(t:List UInt8) b,Aa (cs2.setIfInBounds 3 (.string ⟨t.toArray⟩)) b=psC A l.length c b ((stW [100,114,111,112] t ex0).cells (pW none 0))):=λt b=>by rw[<-hcs,Iy,Ad]
 obtain⟨w3,hw3⟩:∃w3,w2.alloc (.cells #[.string ⟨([84,65,66,76,69]:List UInt8).toArray⟩] 9)=w3:=⟨_,rfl⟩;have k3:Blk w3 w2.heap.size 9 #[.string ⟨([84,65,66,76,69]:List UInt8).toArray⟩]:=by rw[<-hw3];exact Blk.new _ _ _
 have hb23:Below w2.heap.size w2 w3:=by rw[<-hw3];exact bl
 have hP3:=hP2.below hb23;have hg2:g<w2.heap.size:=hP2.blk.lt;have HWD:=Lib.hid (CG g A c l 1 cs2 [84,65,66,76,69] w2.heap.size 1 w3 (by decide) hP3 (k3.cell 0) (by omega));have HB3:=Lib.hid (hb2.trans (But.of_below (p:=g) hb23));have HW2:=Lib.hid hw2;have HW3:=Lib.hid hw3;obtain⟨B,hB⟩:∃B,hit l 1 [84,65,66,76,69]=B:=⟨_,rfl⟩;rw[hB]at HWD hR1;have HR:=Lib.hid hR1;clear hR hR1 hw2 hP2 hw3 k3 hP3 hB hb23 hb2 hcs h hp;go_in
 go_upto_region 2 with fail
 rw[show World.setCell w _ _=w2 from HW2.out];clear x2 f2;go_wp2_with fail;rw[show World.alloc w2 _=w3 from HW3.out];refine HWD.out.mono ?_;rintro en w4 ⟨rfl,hP4,hb4⟩;have HB4:=Lib.hid (HB3.out.trans hb4);cases B with
 |false=>
  have hR:R=none:=HR.out.symm;subst hR;clear hP4 hb4 HWD;go_wp2_with fail;go_ret;exact⟨rfl,HB4.out⟩
 |true=>
  have hR:((AO l 2).map λt=>(stW [100,114,111,112] t ex0,3))=R:=HR.out;have hP4':PsS g A c l 2 (Aa cs2 2) w4:=hP4;have HNM:=Lib.hid (Bv g A c l 2 (Aa cs2 2) 3 [] w4 (by decide) hP4' (by decide) (H3.out _) HS.out);have HNL:Hid (∀s,AO l 2=some s->s.length<=1000):=λs h=>by
   obtain⟨t,ht,rfl⟩:=Bj h;exact HS.out t ht
  obtain⟨ON,hON⟩:∃x,AO l 2=x:=⟨_,rfl⟩;rw[hON]at HNM hR HNL;clear hP4 hP4' hb4 hON HR HWD;go_wp2_with fail;refine HNM.out.mono ?_;cases ON with
  |none=>
   have hR:R=none:=hR.symm;subst hR;rintro en w5 ⟨rfl,hP5,hb5⟩;have HB5:=Lib.hid (HB4.out.trans hb5);clear hP5 hb5;go_wp2_with fail;go_ret;exact⟨rfl,HB5.out⟩
  |some s=>
   have hR:R=some _:=hR.symm;subst hR;rintro en w5 ⟨rfl,hP5,hb5⟩;have HB5:=Lib.hid (HB4.out.trans hb5);rw[Dp _ _ _ _ (by decide),AQ,HF.out]at hP5;have HP5:=Lib.hid hP5;clear hP5 hb5;go_wp2_with fail;go_ret;exact⟨pW none 0,rfl,HP5.out,Pn (Rz _ _),TM (Rz (λ_=>True) w) (by decide) (HNL.out s rfl),HB5.out⟩
def Bd{α:Type}(l:List Tok)(step:Nat->Option (α×Nat)):Nat->Nat->Option (List α×Nat)
 |0,_=>none
 |f+1,a=>(step a).bind λr=>if hit l r.2 [44]then(Bd l step f (r.2+1)).map λq=>(r.1::q.1,q.2)else some ([r.1],r.2)
def Ae{α:Type}(l:List Tok)(a:Nat)(o:Option (α×Nat)):Option (α×Nat):=if hit l a [40]then o.bind λr=>if hit l r.2 [41]then some (r.1,r.2+1)else none else none
def FP{α:Type}(o:Option (α×Nat))(g:Nat)(A:Option Addr)(c:Nat)(l:List Tok)(K:α->Array Value->World->Prop)(w:World)(en:Ending)(w':World):Prop:=
 match o with
 |none=>en=.returned (.bool false)/\But g w w'
 |some r=>en=.returned (.bool true)/\∃cs,PsS g A c l r.2 cs w'/\K r.1 cs w'/\But g w w'
def Gs{α:Type}(g:Nat)(K:α->Array Value->World->Prop):Prop:=∀x cs W W' b,K x cs W->But g W W'->K x (Aa cs b) W'
def Ko(g:Nat)(w:World):Nat:=match w.cell? ⟨g,1,none⟩with|some (.int _ i)=>i.toNat|_=>0
theorem PsS.at_{g:Nat}{A:Option Addr}{c:Nat}{l:List Tok}{a:Nat}{cs:Array Value}{w:World}(h:PsS g A c l a cs w):Ko g w=a:=by
 unfold Ko;rw[(h.blk.cell 1).trans h.c1];simp
theorem FP.imp{α:Type}{o:Option (α×Nat)}{g:Nat}{A:Option Addr}{c:Nat}{l:List Tok}{K K':α->Array Value->World->Prop}{w w0:World}{en:Ending}{w':World}(h:FP o g A c l K w en w')(hb:But g w0 w)(hK:∀x cs W,K x cs W->K' x cs W):FP o g A c l K' w0 en w':=by
 cases o with
 |none=>exact⟨h.1,hb.trans h.2⟩
 |some r=>
  obtain⟨h1,cs,h2,h3,h4⟩:=h;exact⟨h1,cs,h2,hK _ _ _ h3,hb.trans h4⟩
theorem Vl{α:Type}(pv:Nat)(step:Nat->Option (α×Nat))(K:List α->Array Value->World->Prop)(g:Nat)(A:Option Addr)(c:Nat)(l:List Tok)(a:Nat)(cs:Array Value)(w:World)(hl:l.length<=990)(ha:a<=l.length)(h:PsS g A c l a cs w)(hK:Gs g K)(hK0:K [] cs w)(hs:∀b r,step b=some r->b<r.2/\r.2<=l.length)
 (hI:∀xs b cs' W,But g w W->xs.length<=b->b<=l.length->PsS g A c l b cs' W->K xs cs' W->Calls Tryz.prog 170 #[.pointer (some ⟨pv,0,none⟩)] W (FP ((step b).map λr=>(xs++[r.1],r.2)) g A c l K w)):
  Calls Tryz.prog 173 #[.pointer (some ⟨g,0,none⟩),.func (.func 170) #[] #[.pointer (some ⟨pv,0,none⟩)]] w (FP (Bd l step (l.length+1) a) g A c l K w):=by
 obtain⟨R,hR⟩:∃R,Bd l step (l.length+1) a=R:=⟨_,rfl⟩;rw[hR];have HR0:Hid ((Bd l step (l.length+1) a).map (λq=>([]++q.1,q.2))=R):=by
  show _=_
  rw[hR];cases R<;>simp
 obtain⟨N,hN⟩:∃N,l.length=N:=⟨_,rfl⟩;rw[hN]at HR0 ha hs hI hl;have HI:=Lib.hid hI;have HK:=Lib.hid hK;have HS:=Lib.hid hs;have HP0:=Lib.hid h;have HK0:=Lib.hid hK0;have HN:=Lib.hid hN;clear hR hN h hI hK hs hK0;go_in
 go_wp2_with fail;go_loopw [] (λwr=>∃(f:Nat) (xs:List α) (b:Nat) (cs':Array Value),N+1<=f+b/\xs.length<=b/\b<=N/\Hid ((Bd l step f b).map (λq=>(xs++q.1,q.2))=R)/\Hid (PsS g A c l b cs' wr)/\Hid (K xs cs' wr)/\But g w wr) (λwr=>N - Ko g wr)
 case atStart=>exact⟨N+1,[],a,cs,by omega,Nat.zero_le _,ha,HR0,HP0,HK0,But.refl _ _⟩
 case round=>
  obtain⟨f,xs,b,cs',hf,hxb,hbn,HJ,HP,HKW,hbw⟩:=hrel;obtain⟨W,rfl⟩:∃W,W=wr:=⟨_,rfl⟩;obtain⟨f,rfl⟩:∃k,f=k+1:=⟨f - 1,by omega⟩;have hJ:((step b).bind λr=>if hit l r.2 [44]then(Bd l step f (r.2+1)).map λq=>(r.1::q.1,q.2)else some ([r.1],r.2)).map (λq=>(xs++q.1,q.2))=R:=HJ.out;have HC:=Lib.hid (HI.out xs b cs' W hbw hxb hbn HP.out HKW.out);have HSB:=Lib.hid (λr=>HS.out b r);obtain⟨o,ho⟩:∃o,step b=o:=⟨_,rfl⟩;rw[ho]at HC hJ HSB;have HJ2:=Lib.hid hJ;clear ho hJ HJ;go_wp2_with fail;refine HC.out.mono ?_;cases o with
  |none=>
   have hR:R=none:=HJ2.out.symm;subst hR;rintro en w1 ⟨rfl,hb1⟩;have HB1:=Lib.hid hb1;clear hb1;go_wp2_with fail;go_ret;exact⟨rfl,HB1.out⟩
  |some r=>
   obtain⟨x,b'⟩:=r;obtain⟨hlt,hle⟩:b<b'/\b'<=N:=HSB.out _ rfl;have hJ:(if hit l b' [44]then(Bd l step f (b'+1)).map λq=>(x::q.1,q.2)else some ([x],b')).map (λq=>(xs++q.1,q.2))=R:=HJ2.out;rintro en w1 ⟨rfl,cs1,hP1,hK1,hb1⟩;have HT:=Lib.hid (Ac g A c l b' cs1 [44] w1 (by omega) hP1);have HL:Hid (hit l b' [44]=true->b'+1<=N):=λh=>by have:=DZ h;rw[HN.out]at this;omega
   obtain⟨D,hD⟩:∃D,hit l b' [44]=D:=⟨_,rfl⟩;rw[hD]at HT hJ HL;have HJ:=Lib.hid hJ;have HB1:=Lib.hid hb1;have HK1:=Lib.hid hK1;have HPA:=Lib.hid (PsS.at_ HP.out);clear hD hJ HJ2 HC hP1 hb1 hK1;go_wp2_with fail;refine HT.out.mono ?_;rintro en w2 ⟨rfl,hP2,hb2⟩;have HB2:=Lib.hid hb2;have HP2:=Lib.hid hP2;clear hP2 hb2;cases D with
   |false=>
    have hR:R=some (xs++[x],b'):=HJ.out.symm;subst hR;go_wp2_with fail;go_ret;exact⟨rfl,_,HP2.out,HK.out _ _ _ _ _ HK1.out HB2.out,HB1.out.trans HB2.out⟩
   |true=>
    have hl2:b'+1<=N:=HL.out rfl;have HF:Hid ((Bd l step f (b'+1)).map (λq=>((xs++[x])++q.1,q.2))=R):=by
     show _=_
     rw[<-HJ.out,if_pos rfl,Option.map_map];cases Bd l step f (b'+1)<;>simp
    clear HJ;go_wp2_with fail;go_roundw
    case rel=>exact⟨f,xs++[x],b'+1,_,by omega,by simp;omega,hl2,HF,HP2,Lib.hid (HK.out _ _ _ _ _ HK1.out HB2.out),HB1.out.trans HB2.out⟩
    case measure=>
     have e2:Ko g w2=b'+1:=PsS.at_ HP2.out;have e1:=HPA.out;omega
theorem Qs{α:Type}(pv ib:Nat)(o:Option (α×Nat))(K:α->Array Value->World->Prop)(g:Nat)(A:Option Addr)(c:Nat)(l:List Tok)(a:Nat)(cs:Array Value)(w:World)(hl:l.length<=990)(ha:a<=l.length)(h:PsS g A c l a cs w)(hK:Gs g K)(ho:a+1<=l.length->∀r,o=some r->r.2<=l.length)
 (hI:∀W,But g w W->a+1<=l.length->PsS g A c l (a+1) (Aa cs (a+1)) W->Calls Tryz.prog 172 #[.pointer (some ⟨pv,0,none⟩),.pointer (some ⟨ib,0,none⟩)] W (FP o g A c l K W)):
  Calls Tryz.prog 164 #[.pointer (some ⟨g,0,none⟩),.func (.func 172) #[] #[.pointer (some ⟨pv,0,none⟩),.pointer (some ⟨ib,0,none⟩)]] w (FP (Ae l a o) g A c l K w):=by
 have HT:=Lib.hid (Ac g A c l a cs [40] w (by omega) h);obtain⟨R,hR⟩:∃R,Ae l a o=R:=⟨_,rfl⟩;rw[hR];unfold Ae at hR;have HA:Hid (hit l a [40]=true->a+1<=l.length):=λh=>DZ h
 obtain⟨B,hB⟩:∃B,hit l a [40]=B:=⟨_,rfl⟩;rw[hB]at HT hR HA;have HR:=Lib.hid hR;have HI:=Lib.hid hI;have HK:=Lib.hid hK;have HO:=Lib.hid ho;clear hR hB h hI hK ho ha;go_in
 go_wp2_with fail;refine HT.out.mono ?_;rintro en w1 ⟨rfl,hP1,hb1⟩;have HB1:=Lib.hid hb1;cases B with
 |false=>
  have hR:R=none:=HR.out.symm;subst hR;clear hP1 hb1;go_wp2_with fail;go_ret;exact⟨rfl,HB1.out⟩
 |true=>
  have HR:Hid ((o.bind λr=>if hit l r.2 [41]then some (r.1,r.2+1)else none)=R):=HR.out;have hP1':PsS g A c l (a+1) (Aa cs (a+1)) w1:=hP1;have HX:=Lib.hid (HI.out w1 hb1 (HA.out rfl) hP1');have HAL:=Lib.hid (HA.out rfl);clear hP1 hP1' hb1 HI HT;go_wp2_with fail;refine HX.out.mono ?_;cases o with
  |none=>
   have hR:R=none:=HR.out.symm;subst hR;rintro en w2 ⟨rfl,hb2⟩;have HB2:=Lib.hid (HB1.out.trans hb2);clear hb2;go_wp2_with fail;go_ret;exact⟨rfl,HB2.out⟩
  |some r=>
   obtain⟨x,b⟩:=r;have hR:(if hit l b [41]then some (x,b+1)else none)=R:=HR.out;rintro en w2 ⟨rfl,cs2,hP2,hK2,hb2⟩;have hbl:b<=l.length:=HO.out HAL.out (x,b) rfl;have HT2:=Lib.hid (Ac g A c l b cs2 [41] w2 (by omega) hP2);have HB2:=Lib.hid (HB1.out.trans hb2);have HK2:=Lib.hid hK2;obtain⟨D,hD⟩:∃D,hit l b [41]=D:=⟨_,rfl⟩;rw[hD]at HT2 hR;have HR2:=Lib.hid hR;clear hP2 hK2 hb2 hD hR HR HX hbl;go_wp2_with fail;refine HT2.out.mono ?_;rintro en w3 ⟨rfl,hP3,hb3⟩;have HP3:=Lib.hid hP3;have HB3:=Lib.hid hb3;clear hP3 hb3;cases D with
   |false=>
    have hR:R=none:=HR2.out.symm;subst hR;go_wp2_with fail;go_ret;exact⟨rfl,HB2.out.trans HB3.out⟩
   |true=>
    have hR:R=some (x,b+1):=HR2.out.symm;subst hR;go_wp2_with fail;go_ret;exact⟨rfl,_,HP3.out,HK.out _ _ _ _ _ HK2.out HB3.out,HB2.out.trans HB3.out⟩
end Go.Proofs.YtchilcchogcibaaGreatDoor
