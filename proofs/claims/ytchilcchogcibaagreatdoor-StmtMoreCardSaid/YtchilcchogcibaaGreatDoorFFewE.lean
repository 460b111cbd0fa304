/- caddislaw04.few and Few: an expression of which no more is looked at than may be. -/
import Derived.Deep.CutBlock
import Derived.Test.YtchilcchogcibaaGreatDoorFSix
set_option maxRecDepth 100000
set_option maxHeartbeats 8000000
namespace Go.Proofs.YtchilcchogcibaaGreatDoor
open Go.RowKit
attribute [local go_sem] ByteArray.extract_mk Ak AY
attribute [local go_sem ↓] Go.wp_at_zero Go.wp_at_succ CY CE
theorem infoE:(Tryz.prog.info? 30).map (λi=>(i.zero,i.size,i.bytes))=some (some (.agg #[.string ⟨#[]⟩,.int .i64 0,.int .i64 0,.string ⟨#[]⟩,.string ⟨#[]⟩,.slice none 0 0]),6,88):=by kernel_rfl
theorem Us{w w':World}{base p:Nat}{e:TypeId}{size:Nat}{v:Value}{n:Nat}{xs:List Value}(h:w.ownsRow base e size v n xs)(hb:But p w w')(hp:p<base):w'.ownsRow base e size v n xs:=by
 refine⟨h.1, ?_⟩;rcases h.2 with h2|⟨g,cap,cur,hv,hg,hh,r⟩
 ·exact Or.inl h2
 ·exact Or.inr ⟨g,cap,cur,hv,hg,(hb.block g (Array.getElem?_eq_some_iff.1 hh).1 (by omega)).trans hh,r⟩
theorem U9{Q:Nat->Prop}{w:World}:∀l:List ExC,(∀r∈l,ExR Q r.e r.A r.c w)->∃n,∀r∈l,ExQ 1000 n w Q r.A r.e.l
 |[],_=>⟨0,λr hr=>by simp at hr⟩
 |x::r,h=>by
  obtain⟨n,hn⟩:=U9 r λy hy=>h y (by simp[hy])
  obtain⟨_,_,_,m,hm⟩:=h x (by simp);refine⟨max n m,λy hy=>?_⟩;rcases List.mem_cons.1 hy with rfl|hy
  ·exact hm.ups _ (Nat.le_max_right _ _)
  ·exact(hn y hy).ups _ (Nat.le_max_left _ _)
theorem ExQ.own{Q:Nat->Prop}{w:World}{base:Nat}{e:TypeId}{sv:Value}{n:Nat}{l:List ExC}(h:w.ownsRow base e 6 sv n (l.flatMap ExC.cells))(hg:∀r∈l,ExR Q r.e r.A r.c w)(hQ:∀b,base<=b->b<w.heap.size->Q b):
  ∃A c m,sv=.slice A (l.map ExC.e).length c/\(l.map ExC.e).length<=c/\c<=maxLen/\ExQ 1000 m w Q A (l.map ExC.e):=by
 obtain⟨m,hm⟩:=U9 l hg;have hn:l.length=n:=by have:=h.1;rw[VB]at this;omega
 rw[List.length_map];rcases h.2 with⟨rfl,h0⟩|⟨g,cap,cur,rfl,hb,hgg,hnc,hcm,hcs,htk⟩
 ·have hl:l=[]:=List.eq_nil_of_length_eq_zero (by omega);subst hl;exact⟨none,0,0,rfl,Nat.le_refl _,Nat.zero_le _,ExQ.nil _⟩
 ·refine⟨some ⟨g,0,none⟩,cap,m+1,by rw[hn],by omega,hcm,λ_=>⟨g,0,rfl,hQ g hb (Array.getElem?_eq_some_iff.1 hgg).1, ?_⟩⟩;intro i x hx;rw[List.getElem?_map,Option.map_eq_some_iff]at hx;obtain⟨r,hr,rfl⟩:=hx;obtain⟨h1,h2,h3,_⟩:=hg r (List.mem_of_getElem? hr);have hc:=h.cells (g:=g) rfl;have key:∀j u,j<6->r.cells[j]? = some u->w.cell? ⟨g,0+i * 6+j,none⟩=some u:=by
   intro j u hj hu;have:=hc (i * 6+j) u (by rw[X8 l i j r hr hj];exact hu);rw[add_mid]at this;rw[Nat.add_assoc];exact this
  exact⟨r.A,r.c,h1,h2,h3,⟨key 0 _ (by omega) rfl,key 1 _ (by omega) rfl,key 2 _ (by omega) rfl,key 3 _ (by omega) rfl,key 4 _ (by omega) rfl,key 5 _ (by omega) rfl⟩,hm r (List.mem_of_getElem? hr)⟩
theorem Rx(f:Int->Ex->Ex×Int)(x:Ex)(r:List Ex)(left:Int)(h:0<left):DF f (x::r) left=((f left x).1::(DF f r (f left x).2).1,(DF f r (f left x).2).2):=by
 rw[DF,if_pos h]
def AHI(R:Ex×Int)(w:World)(en:Ending)(w':World):Prop:=
 ∃A' c',en=.returned (.tuple #[.agg (R.1.cells A' c').toArray,.int .i64 R.2])/\ExR (λb=>w.heap.size<=b/\b<w'.heap.size) R.1 A' c' w'/\Below w.heap.size w w'
def AHL(d:Nat):Prop:=∀(e:Ex) (A:Option Addr) (c n:Nat) (left:Int) (w:World),e.fit maxLen->e.l.length<=maxLen->ExS maxLen n w w.heap.size A e.l->0<left->left<=80->
 Calls Tryz.prog 58 #[.agg (e.cells A c).toArray,.int .i64 (d:Nat),.int .i64 left] w (AHI (Gt d left e) w)
def Jl(d:Nat)(l:List Ex)(left:Int):List Ex×Int:=match d with|0=>([],left)|d+1=>DF (Gt d) l left
theorem ZF(d:Nat)(left:Int)(e:Ex):Gt d left e=(.mk (e.op.take 8) (X4 e.v) (e.s.take 20) (Jl d (e.l.take 3) (left - 1)).1,(Jl d (e.l.take 3) (left - 1)).2):=by
 cases d<;>rfl
theorem Rw(d:Nat)(ih:∀m,d=m+1->AHL m)(hd:d<=14):AHL d:=by
 intro e A c n left w hf hel hA hl0 hl80;obtain⟨hfi,hf1,hf2,hf3⟩:=hf;unfold maxLen at hf1 hf2 hf3 hel;have HFI:=Lib.hid hfi;have HIH:=Lib.hid ih;have HA:=Lib.hid hA;obtain⟨R,hR⟩:∃R,Gt d left e=R:=⟨_,rfl⟩;rw[hR];rw[ZF]at hR;have HR:=Lib.hid hR;obtain⟨wa,hwa⟩:∃wa,(w.alloc (.cells (e.cells A c).toArray 30)).alloc (.cells (AL.cells none 0).toArray 30)=wa:=⟨_,rfl⟩;have kEa:Blk wa w.heap.size 30 (e.cells A c).toArray:=by rw[<-hwa];exact(Blk.new _ _ _).alloc _
 have kRa:Blk wa (w.heap.size+1) 30 (AL.cells none 0).toArray:=by rw[<-hwa];exact Blk.new' _ _ _ _ (by simp)
 have hba:Below w.heap.size w wa:=by rw[<-hwa];exact bl
 have hsa:wa.heap.size=w.heap.size+1+1:=by rw[<-hwa];simp
 have HWa:=Lib.hid hwa;clear hwa;obtain⟨w0,hw0⟩:∃w0,wa.alloc (.cells #[.string ⟨e.op.toArray⟩,.int .i64 e.v.k,.int .i64 e.v.i,.string ⟨e.v.s.toArray⟩,.string ⟨e.s.toArray⟩,.slice none 0 0] 30)=w0:=⟨_,rfl⟩;have kO0:Blk w0 (w.heap.size+1+1) 30 #[.string ⟨e.op.toArray⟩,.int .i64 e.v.k,.int .i64 e.v.i,.string ⟨e.v.s.toArray⟩,.string ⟨e.s.toArray⟩,.slice none 0 0]:=by rw[<-hw0];exact Blk.new' _ _ _ _ hsa
 have kE0:Blk w0 w.heap.size 30 (e.cells A c).toArray:=by rw[<-hw0];exact kEa.alloc _
 have kR0:Blk w0 (w.heap.size+1) 30 (AL.cells none 0).toArray:=by rw[<-hw0];exact kRa.alloc _
 have hb0:Below w.heap.size w w0:=by rw[<-hw0];exact bl
 have hs0:w0.heap.size=w.heap.size+3:=by rw[<-hw0];simp;omega
 have HW:=Lib.hid hw0;clear hw0 hR hA ih hfi;obtain⟨q0,q1,q2,q3,q4,q5⟩:=kEa.six;go_in
 go_upto_region 1 with fail
 rw[show(w.alloc (.cells (e.cells A c).toArray 30)).alloc (.cells #[.string ⟨#[]⟩,.int .i64 0,.int .i64 0,.string ⟨#[]⟩,.string ⟨#[]⟩,.slice none 0 0] 30)=wa from HWa.out];clear HWa;go_upto_region 2 with fail
 rw[HW.out];clear HW q0 q1 q2 q3 q4 q5 kEa kRa hba hsa;clear hs0;have o0:w0.cell? ⟨w.heap.size+1+1,0,none⟩=some (.string ⟨(e.op).toArray⟩):=kO0.cell 0;have f0:=kO0.frozen 0;have l0:=kO0.lt;go_upto_if 22 with fail
 go_cut [] (λwx=>Blk wx (w.heap.size+1+1) 30 #[.string ⟨(e.op.take 8).toArray⟩,.int .i64 e.v.k,.int .i64 e.v.i,.string ⟨e.v.s.toArray⟩,.string ⟨e.s.toArray⟩,.slice none 0 0]/\Blk wx w.heap.size 30 (e.cells A c).toArray/\Blk wx (w.heap.size+1) 30 (AL.cells none 0).toArray/\Below w.heap.size w wx)
 case first=>
  by_cases hk:(e.op).length<=8
  ·have HT:Hid ((e.op).take 8=e.op):=List.take_of_length_le hk;go_wp2_with fail;go_meet;rw[HT.out];exact⟨kO0,kE0,kR0,hb0⟩
  ·go_wp2_with fail;go_meet;exact⟨kO0.set_ 0 _,kE0.far (by show w.heap.size≠w.heap.size+1+1;omega) _,kR0.far (by show w.heap.size+1≠w.heap.size+1+1;omega) _,by exact bl⟩
 obtain⟨kO1,kE1,kR1,hb1⟩:=hcut;clear o0 f0 l0 kO0 kE0 kR0 hb0;obtain⟨w1,rfl⟩:∃w1,w1=wc:=⟨_,rfl⟩;have o1:w1.cell? ⟨w.heap.size+1+1,4,none⟩=some (.string ⟨(e.s).toArray⟩):=kO1.cell 4;have f1:=kO1.frozen 4;have l1:=kO1.lt;go_upto_if 30 with fail
 go_cut [] (λwx=>Blk wx (w.heap.size+1+1) 30 #[.string ⟨(e.op.take 8).toArray⟩,.int .i64 e.v.k,.int .i64 e.v.i,.string ⟨e.v.s.toArray⟩,.string ⟨(e.s.take 20).toArray⟩,.slice none 0 0]/\Blk wx w.heap.size 30 (e.cells A c).toArray/\Blk wx (w.heap.size+1) 30 (AL.cells none 0).toArray/\Below w.heap.size w wx)
 case first=>
  by_cases hk:(e.s).length<=20
  ·have HT:Hid ((e.s).take 20=e.s):=List.take_of_length_le hk;go_wp2_with fail;go_meet;rw[HT.out];exact⟨kO1,kE1,kR1,hb1⟩
  ·go_wp2_with fail;go_meet;exact⟨kO1.set_ 4 _,kE1.far (by show w.heap.size≠w.heap.size+1+1;omega) _,kR1.far (by show w.heap.size+1≠w.heap.size+1+1;omega) _,by exact bl⟩
 obtain⟨kO2,kE2,kR2,hb2⟩:=hcut;clear o1 f1 l1 kO1 kE1 kR1 hb1;obtain⟨w2,rfl⟩:∃w2,w2=wc:=⟨_,rfl⟩;have o2:w2.cell? ⟨w.heap.size+1+1,3,none⟩=some (.string ⟨(e.v.s).toArray⟩):=kO2.cell 3;have f2:=kO2.frozen 3;have l2:=kO2.lt;go_upto_if 39 with fail
 go_cut [] (λwx=>Blk wx (w.heap.size+1+1) 30 #[.string ⟨(e.op.take 8).toArray⟩,.int .i64 e.v.k,.int .i64 e.v.i,.string ⟨(e.v.s.take 45).toArray⟩,.string ⟨(e.s.take 20).toArray⟩,.slice none 0 0]/\Blk wx w.heap.size 30 (e.cells A c).toArray/\Blk wx (w.heap.size+1) 30 (AL.cells none 0).toArray/\Below w.heap.size w wx)
 case first=>
  by_cases hk:(e.v.s).length<=45
  ·have HT:Hid ((e.v.s).take 45=e.v.s):=List.take_of_length_le hk;go_wp2_with fail;go_meet;rw[HT.out];exact⟨kO2,kE2,kR2,hb2⟩
  ·go_wp2_with fail;go_meet;exact⟨kO2.set_ 3 _,kE2.far (by show w.heap.size≠w.heap.size+1+1;omega) _,kR2.far (by show w.heap.size+1≠w.heap.size+1+1;omega) _,by exact bl⟩
 obtain⟨kO3,kE3,kR3,hb3⟩:=hcut;clear o2 f2 l2 kO2 kE2 kR2 hb2;obtain⟨w3,rfl⟩:∃w3,w3=wc:=⟨_,rfl⟩;have hf5:(e.op.take 8).length<=8:=List.length_take_le _ _;obtain⟨op,hop⟩:∃op,e.op.take 8=op:=⟨_,rfl⟩;obtain⟨vs,hvs⟩:∃vs,e.v.s.take 45=vs:=⟨_,rfl⟩;obtain⟨ss,hss⟩:∃ss,e.s.take 20=ss:=⟨_,rfl⟩;rw[hop,hvs,hss]at kO3;have hR:=HR.out;rw[hop,hss]at hR;have hR2:((Ex.mk op ⟨e.v.k,e.v.i,vs⟩ ss (Jl d (e.l.take 3) (left - 1)).1,(Jl d (e.l.take 3) (left - 1)).2):Ex×Int)=R:=by rw[<-hR,<-hvs];rfl
 have HR2:=Lib.hid hR2;have hol:op.length<=8:=by rw[<-hop];exact hf5
 have hvl:vs.length<=45:=by rw[<-hvs];exact List.length_take_le _ _
 have hsl:ss.length<=20:=by rw[<-hss];exact List.length_take_le _ _
 clear HR hR hR2 hop hvs hss hf5;have hbn:Below w.heap.size w w3:=hb3;have lO3:=kO3.lt;obtain⟨e0,e1,e2,e3,e4,e5⟩:=kE3.six;obtain⟨i0,hi0,zi0,zi1,zi2⟩:=info_parts infoE;have HI0:=Lib.hid hi0;have HZ0:=Lib.hid zi0;have HZ1:=Lib.hid zi1;have HZ2:=Lib.hid zi2;clear hi0 zi0 zi1 zi2;dsimp only[Ex.cells];go_wp2_with fail;go_loopw [2,9] (λlf i wr=>∃(j:Nat) (lft:Int) (rows:List ExC) (sv:Value),i=.int .i64 j/\lf=.int .i64 lft/\j<=3/\j<=e.l.length/\0<=lft/\lft<=79 ∧
   Blk wr (w.heap.size+1+1) 30 #[.string ⟨op.toArray⟩,.int .i64 e.v.k,.int .i64 e.v.i,.string ⟨vs.toArray⟩,.string ⟨ss.toArray⟩,sv] ∧
   Blk wr w.heap.size 30 (e.cells A c).toArray/\Blk wr (w.heap.size+1) 30 (AL.cells none 0).toArray/\Below w.heap.size w wr ∧
   wr.ownsRow (w.heap.size+1+1+1) 30 6 sv j (rows.flatMap ExC.cells) ∧
   Hid ((∀r∈rows,ExR (λb=>w.heap.size+1+1<b/\b<wr.heap.size/\some b≠sv.ownBlock) r.e r.A r.c wr)/\((Ex.mk op ⟨e.v.k,e.v.i,vs⟩ ss (rows.map ExC.e++(Jl d ((e.l.take 3).drop j) lft).1),(Jl d ((e.l.take 3).drop j) lft).2):Ex×Int)=R)) (λ_ i _=>3 - (intOf i).toNat)
 case atStart=>exact⟨0,left - 1,[],.slice none 0 0,rfl,rfl,by omega,by omega,by omega,by omega,kO3,kE3,kR3,hb3,World.ownsRow_nil _ _ _ _,λr hr=>by simp at hr,HR2.out⟩
 case round=>
  obtain⟨j,lft,rows,sv,rfl,rfl,hj3,hjl,hl0',hl79,kO,kE,kR,hbr,hown,HJ⟩:=hrel;clear kO3 kE3 kR3 hb3 hbn lO3 e0 e1 e2 e3 e4 e5 HR2;have lO:=kO.lt;have lE:=kE.lt;have lR:=kR.lt;have hzr:=hbr.size;obtain⟨e0,e1,e2,e3,e4,e5⟩:=kE.six;by_cases hgo:j<e.l.length/\j<3/\0<d/\0<lft
  ·obtain⟨hlt,hlt3,hd0,hlf⟩:=hgo;obtain⟨m,hdm⟩:∃m,d=m+1:=⟨d - 1,by omega⟩;have HDM:=Lib.hid hdm;cases n with
   |zero=>rw[show e.l=[]from HA.out]at hlt;simp at hlt
   |succ n=>
    have hA3:ExS maxLen (n+1) wr w.heap.size A e.l:=HA.out.below _ hbr;obtain⟨b1,o1,x,A',c',rfl,hbB1,hv,hfx,hxc,hxm,⟨d0,d1,d2,d3,d4,d5⟩,hx⟩:=hA3.at_ hlt;have HFX:=Lib.hid hfx;have hx2:=hx.more (show w.heap.size<=wr.heap.size by omega) n;have HX:=Lib.hid hx2;have HXM:=Lib.hid (Nat.le_trans hxc hxm);have i1:(0:Int)<=(j:Int):=by omega
    have i2:(j:Int)<(e.l.length:Int):=by omega
    have m0:(1:Int)<=(d:Int):=by omega
    have i3:(j:Int)<=2:=by omega
    have m1:(d:Int)<=14:=by omega
    have HDC:Hid ((d:Int) - 1=(m:Int)):=by show _=_;omega
    have g1:decide (j<e.l.length)=true:=decide_eq_true hlt;have g2:decide ((j:Int)<3)=true:=decide_eq_true (by omega);have g3:decide ((0:Int)<(d:Int))=true:=decide_eq_true (by omega);have g4:decide (0<lft)=true:=decide_eq_true hlf;have hdr:(e.l.take 3).drop j=x::(e.l.take 3).drop (j+1):=by
     obtain⟨hj',rfl⟩:=List.getElem?_eq_some_iff.1 hv;rw[List.drop_eq_getElem_cons (by rw[List.length_take];omega)];simp
    have hJ:=HJ.out;rw[hdr,hdm]at hJ;have hJ2:((Ex.mk op ⟨e.v.k,e.v.i,vs⟩ ss (rows.map ExC.e++((Gt m lft x).1::(DF (Gt m) ((e.l.take 3).drop (j+1)) (Gt m lft x).2).1)),(DF (Gt m) ((e.l.take 3).drop (j+1)) (Gt m lft x).2).2):Ex×Int)=R:=by
     rw[<-hJ.2];show _=(Ex.mk op ⟨e.v.k,e.v.i,vs⟩ ss (rows.map ExC.e++(DF (Gt m) (x::(e.l.take 3).drop (j+1)) lft).1),(DF (Gt m) (x::(e.l.take 3).drop (j+1)) lft).2)
     rw[Rx _ _ _ _ hlf]
    have hle:=WV m lft x;have hge:=ZE m lft x hlf;obtain⟨Q,hQ⟩:∃Q,Gt m lft x=Q:=⟨_,rfl⟩;rw[hQ]at hJ2 hle hge;obtain⟨X,lf2⟩:=Q;have HQ:=Lib.hid hQ;have HJ2:=Lib.hid (And.intro hJ.1 hJ2);clear hJ hJ2 hdr hv hA3 hfx hxm hxc HJ hx hx2 hQ hlt hlt3 hd0 hd hdm;go_wp2_with fail;rw[HDC.out];refine(HIH.out m HDM.out x A' c' n lft wr HFX.out HXM.out HX.out hlf (by omega)).mono ?_;rw[HQ.out];rintro en w5 ⟨A5,c5,rfl,hE5,hb5⟩;dsimp only[Ex.cells];have hz5:=hb5.size;obtain⟨w6,hw6⟩:∃w6,w5.alloc (.cells (X.cells A5 c5).toArray 30)=w6:=⟨_,rfl⟩;have kX6:Blk w6 w5.heap.size 30 (X.cells A5 c5).toArray:=by rw[<-hw6];exact Blk.new _ _ _
    have hb6:Below w5.heap.size w5 w6:=by rw[<-hw6];exact bl
    have hs6:w6.heap.size=w5.heap.size+1:=by rw[<-hw6];simp
    have HW6:=Lib.hid hw6;have hb56:Below wr.heap.size wr w6:=hb5.trans (hb6.mono hz5);have kO6:=kO.below hb56 lO;have kE6:=kE.below hb56 lE;have kR6:=kR.below hb56 lR;have hbw6:Below w.heap.size w w6:=hbr.trans (hb56.mono (by omega));have hown6:=CJ hown hb56;have HE6:Hid (ExR (λb=>wr.heap.size<=b/\b<w5.heap.size) X A5 c5 w6):=hE5.keep λb hb=>⟨hb,λo=>hb6.cell (p:=⟨b,o,none⟩) hb.2⟩
    have HRO:Hid (∀r∈rows,ExR (λb=>w.heap.size+1+1<b/\b<wr.heap.size/\some b≠sv.ownBlock) r.e r.A r.c w6):=λr hr=>(HJ2.out.1 r hr).keep λb hb=>⟨hb,λo=>hb56.cell (p:=⟨b,o,none⟩) hb.2.1⟩
    have hol2:=hown.lt;have HOL:=Lib.hid hol2;have HS6:=Lib.hid hs6;clear hw6 hE5 hb5 hb6 hol2 hs6 d0 d1 d2 d3 d4 d5 e0 e1 e2 e3 e4 e5 hown kO kE kR;have lO6:=kO6.lt;have lR6:=kR6.lt;have lX6:=kX6.lt;have y5:w6.cell? ⟨w.heap.size+1+1,5,none⟩=some sv:=kO6.cell 5;obtain⟨q0,q1,q2,q3,q4,q5⟩:=kX6.six;go_upto_region 13 with fail
    rw[show w5.alloc (.cells #[.string ⟨X.op.toArray⟩,.int .i64 X.v.k,.int .i64 X.v.i,.string ⟨X.v.s.toArray⟩,.string ⟨X.s.toArray⟩,.slice A5 X.l.length c5] 30)=w6 from HW6.out];clear HW6;go_wp2_with (at_builtin;refine wpList_append_own_at _ rfl _ _ 28 rfl (w.heap.size+1+1+1) 30 i0 _ 6 88 Tryz.underlying28 HI0.out HZ0.out HZ1.out HZ2.out rfl (by decide) _ _ _ rfl (hown6.alloc _) ⟨w6.heap.size,0,none⟩ 1 1 (X.cells A5 c5) rfl rfl ?c1 ?c2 ?c3 ?c4 ?c5 ?_)
    case c1=>exact World.news_of_block (cs:=(X.cells A5 c5).toArray) (t:=30) (fr:=(0,0)) (heap_alloc_new w6 _)
    case c2=>exactλu hu=>ZH [⟨X,A5,c5⟩] u (by simpa[ExC.cells]using hu)
    case c3=>unfold maxLen;omega
    case c4=>omega
    case c5=>simp;omega
    intro v' w8 hown8 hg8 _ hat8;obtain⟨gv,capv,hv8⟩:∃g cap,v'=.slice (some ⟨g,0,none⟩) (j+1) cap:=by
     rcases hown8.2 with⟨_,h0⟩|⟨g,cap,_,rfl,_⟩
     ·omega
     ·exact⟨g,cap,rfl⟩
    subst hv8;obtain⟨w7,hw7⟩:∃w7,w6.alloc (.cells (X.cells A5 c5).toArray 30)=w7:=⟨_,rfl⟩;have hb7:Below w6.heap.size w6 w7:=by rw[<-hw7];exact bl
    have hs7:w7.heap.size=w6.heap.size+1:=by rw[<-hw7];simp
    rw[show w6.alloc (.cells #[.string ⟨X.op.toArray⟩,.int .i64 X.v.k,.int .i64 X.v.i,.string ⟨X.v.s.toArray⟩,.string ⟨X.s.toArray⟩,.slice A5 X.l.length c5] 30)=w7 from hw7]at hg8;clear hw7;have hrow:∀b,b<w.heap.size+1+1+1->some b≠sv.ownBlock:=λb hb e1=>by
     have:=(HOL.out b e1.symm).1;omega
    have kO8:=(kO6.below hb7 lO6).grown hg8 (hrow _ (by omega));have kE8:=(kE6.below hb7 kE6.lt).grown hg8 (hrow _ (by omega));have kR8:=(kR6.below hb7 lR6).grown hg8 (hrow _ (by omega));have hbw8:Below w.heap.size w w8:=(hbw6.trans (hb7.mono (by omega))).grown hg8 (by omega) (λk hk=>by have:=(HOL.out k hk).1;omega);have HG8:=Lib.hid hg8;have HAT:=Lib.hid hat8;have HOWN:=Lib.hid hown8;have hs6:=HS6.out;have hz8:=hg8.size;have f5:=kO8.frozen 5;have y8:w8.cell? ⟨w.heap.size+1+1,5,none⟩=some sv:=kO8.cell 5;have lO8:=kO8.lt;have HREL:Hid (∃rows':List ExC,(w8.setCell ⟨w.heap.size+1+1,5,none⟩ (.slice (some ⟨gv,0,none⟩) (j+1) capv)).ownsRow (w.heap.size+1+1+1) 30 6 (.slice (some ⟨gv,0,none⟩) (j+1) capv) (j+1) (rows'.flatMap ExC.cells) ∧
      Hid ((∀r∈rows',ExR (λb=>w.heap.size+1+1<b/\b<(w8.setCell ⟨w.heap.size+1+1,5,none⟩ (.slice (some ⟨gv,0,none⟩) (j+1) capv)).heap.size/\some b≠(Value.slice (some ⟨gv,0,none⟩) (j+1) capv).ownBlock) r.e r.A r.c (w8.setCell ⟨w.heap.size+1+1,5,none⟩ (.slice (some ⟨gv,0,none⟩) (j+1) capv))) ∧
       ((Ex.mk op ⟨e.v.k,e.v.i,vs⟩ ss (rows'.map ExC.e++(Jl d ((e.l.take 3).drop (j+1)) lf2).1),(Jl d ((e.l.take 3).drop (j+1)) lf2).2):Ex×Int)=R)):=by
     have hsz8:(w8.setCell ⟨w.heap.size+1+1,5,none⟩ (.slice (some ⟨gv,0,none⟩) (j+1) capv)).heap.size=w8.heap.size:=by simp
     have hcell:∀b,w.heap.size+1+1<b->b<w7.heap.size->some b≠sv.ownBlock->∀o,(w8.setCell ⟨w.heap.size+1+1,5,none⟩ (.slice (some ⟨gv,0,none⟩) (j+1) capv)).cell? ⟨b,o,none⟩=w7.cell? ⟨b,o,none⟩:=λb h1 h2 h3 o=>
      (World.cell?_setCell_other w8 ⟨w.heap.size+1+1,5,none⟩ ⟨b,o,none⟩ (.slice (some ⟨gv,0,none⟩) (j+1) capv) (λe=>by have:=congrArg Addr.block e;simp only at this;omega)).trans (World.cell?_of_block (a:=⟨b,o,none⟩) (HG8.out.block b h2 h3))
     have hne:∀b,b<w7.heap.size->some b≠sv.ownBlock->some b≠(Value.slice (some ⟨gv,0,none⟩) (j+1) capv).ownBlock:=λb h1 h2 e1=>by
      rcases HAT.out with h|h
      ·exact h2 (e1.trans h)
      ·have:=Option.some.inj (e1.trans h);omega
     have hold:∀b,wr.heap.size<=b->some b≠sv.ownBlock:=λb hb e1=>by
      have:=(HOL.out b e1.symm).2;omega
     have hb67:∀b o,b<w6.heap.size->w7.cell? ⟨b,o,none⟩=w6.cell? ⟨b,o,none⟩:=λb o h=>hb7.cell (p:=⟨b,o,none⟩) h
     refine⟨rows++[⟨X,A5,c5⟩], ?_,λr hr=>?_, ?_⟩
     ·have:=Us HOWN.out ((But.refl (w.heap.size+1+1) w8).set 5 (.slice (some ⟨gv,0,none⟩) (j+1) capv)) (by omega);rw[List.flatMap_append];simpa[ExC.cells]using this
     ·rw[hsz8];rcases List.mem_append.1 hr with hr|hr
      ·exact(HRO.out r hr).keep λb hb=>⟨⟨hb.1,by omega,hne b (by omega) hb.2.2⟩,λo=>(hcell b hb.1 (by omega) hb.2.2 o).trans (hb67 b o (by omega))⟩
      ·obtain rfl:r=⟨X,A5,c5⟩:=by simpa using hr
       exact HE6.out.keep λb hb=>⟨⟨by omega,by omega,hne b (by omega) (hold b hb.1)⟩,λo=>(hcell b (by omega) (by omega) (hold b hb.1) o).trans (hb67 b o (by omega))⟩
     ·rw[<-HJ2.out.2,HDM.out];simp[Jl]
    clear HRO HE6 HJ2 hs6 hrow hat8 hown8 hg8 kO6 kE6 kR6 hown6 y5 q0 q1 q2 q3 q4 q5 HG8 HAT HOWN hs7 hz8 HOL;go_wp2_with fail;go_roundw
    case rel=>
     obtain⟨rows',h1,h2⟩:=HREL.out;exact⟨j+1,lf2,rows',.slice (some ⟨gv,0,none⟩) (j+1) capv,by go_num,rfl,by omega,by omega,by omega,by omega,kO8.set_ 5 _,kE8.far (by show w.heap.size≠w.heap.size+1+1;omega) _,kR8.far (by show w.heap.size+1≠w.heap.size+1+1;omega) _,by exact bl,h1,h2⟩
    case measure=>simp[intOf];omega
  ·have hF:((Ex.mk op ⟨e.v.k,e.v.i,vs⟩ ss (rows.map ExC.e),lft):Ex×Int)=R:=by
    rw[<-HJ.out.2];have h0:Jl d ((e.l.take 3).drop j) lft=([],lft):=by
     cases d with
     |zero=>rfl
     |succ d=>
      show DF (Gt d) _ lft=_
      by_cases hd0:j<e.l.length/\j<3
      ·have hl0':¬0<lft:=λh=>hgo ⟨hd0.1,hd0.2,by omega,h⟩
       cases(e.l.take 3).drop j with
       |nil=>rfl
       |cons x r=>rw[DF,if_neg hl0']
      ·rw[List.drop_of_length_le (by rw[List.length_take];omega)];rfl
    rw[h0];simp
   obtain⟨A9,c9,m9,rfl,hc9,hcm9,hq9⟩:=ExQ.own (Q:=λb=>w.heap.size+1+1<b/\b<wr.heap.size) hown (λr hr=>(HJ.out.1 r hr).keep λb hb=>⟨⟨hb.1,hb.2.1⟩,λo=>rfl⟩) (λb h1 h2=>⟨by omega,h2⟩);obtain⟨L,hL⟩:∃L,rows.map ExC.e=L:=⟨_,rfl⟩;rw[hL]at hF hc9 hq9 kO hown;have HE9:Hid (ExR (λb=>w.heap.size+1+1<b/\b<wr.heap.size) (.mk op ⟨e.v.k,e.v.i,vs⟩ ss L) A9 c9 wr):=⟨⟨HFI.out,by show op.length<=_;omega,by show ss.length<=_;omega,by show vs.length<=_;omega⟩,hc9,hcm9,m9,hq9⟩;have HF:=Lib.hid hF;clear hF HJ hown hq9 hL hc9 hcm9;obtain⟨z0,z1,z2,z3,z4,z5⟩:=kR.sixF;obtain⟨r0,r1,r2,r3,r4,r5⟩:=kR.six;have x0:wr.cell? ⟨w.heap.size+1+1,0,none⟩=some (.string ⟨op.toArray⟩):=kO.cell 0;have x1:wr.cell? ⟨w.heap.size+1+1,1,none⟩=some (.int .i64 e.v.k):=kO.cell 1;have x2:wr.cell? ⟨w.heap.size+1+1,2,none⟩=some (.int .i64 e.v.i):=kO.cell 2;have x3:wr.cell? ⟨w.heap.size+1+1,3,none⟩=some (.string ⟨vs.toArray⟩):=kO.cell 3;have x4:wr.cell? ⟨w.heap.size+1+1,4,none⟩=some (.string ⟨ss.toArray⟩):=kO.cell 4;have x5:wr.cell? ⟨w.heap.size+1+1,5,none⟩=some (.slice A9 L.length c9):=kO.cell 5;by_cases g1:j<e.l.length
   ·by_cases g2:j<3
    ·by_cases g3:0<d
     ·have g4:¬0<lft:=λh=>hgo ⟨g1,g2,g3,h⟩
      have b1:decide (j<e.l.length)=true:=decide_eq_true g1;have b2:decide ((j:Int)<3)=true:=decide_eq_true (by omega);have b3:decide ((0:Int)<(d:Int))=true:=decide_eq_true (by omega);have b4:decide (0<lft)=false:=decide_eq_false g4;go_wp2_with fail;refine bodyPost_ret (v:=.tuple #[.agg ((Ex.mk op ⟨e.v.k,e.v.i,vs⟩ ss L).cells A9 c9).toArray,.int .i64 lft]) (by simp[results,Tryz.results58,go_sem, *,Ex.cells,Ex.op,Ex.v,Ex.s,Ex.l]) rfl ?_;rw[<-HF.out];have hB:=But.sixSet wr (w.heap.size+1) (.string ⟨op.toArray⟩) (.int .i64 e.v.k) (.int .i64 e.v.i) (.string ⟨vs.toArray⟩) (.string ⟨ss.toArray⟩) (.slice A9 L.length c9);exact⟨A9,c9,rfl,HE9.out.keep λb hb=>⟨⟨by omega,by have:=hB.size;omega⟩,λo=>hB.cell hb.2 (by omega) o⟩,by exact bl⟩
     ·have b1:decide (j<e.l.length)=true:=decide_eq_true g1;have b2:decide ((j:Int)<3)=true:=decide_eq_true (by omega);obtain rfl:d=0:=by omega
      go_wp2_with fail;refine bodyPost_ret (v:=.tuple #[.agg ((Ex.mk op ⟨e.v.k,e.v.i,vs⟩ ss L).cells A9 c9).toArray,.int .i64 lft]) (by simp[results,Tryz.results58,go_sem, *,Ex.cells,Ex.op,Ex.v,Ex.s,Ex.l]) rfl ?_;rw[<-HF.out];have hB:=But.sixSet wr (w.heap.size+1) (.string ⟨op.toArray⟩) (.int .i64 e.v.k) (.int .i64 e.v.i) (.string ⟨vs.toArray⟩) (.string ⟨ss.toArray⟩) (.slice A9 L.length c9);exact⟨A9,c9,rfl,HE9.out.keep λb hb=>⟨⟨by omega,by have:=hB.size;omega⟩,λo=>hB.cell hb.2 (by omega) o⟩,by exact bl⟩
    ·have b1:decide (j<e.l.length)=true:=decide_eq_true g1;have b2:decide ((j:Int)<3)=false:=decide_eq_false (by omega);go_wp2_with fail;refine bodyPost_ret (v:=.tuple #[.agg ((Ex.mk op ⟨e.v.k,e.v.i,vs⟩ ss L).cells A9 c9).toArray,.int .i64 lft]) (by simp[results,Tryz.results58,go_sem, *,Ex.cells,Ex.op,Ex.v,Ex.s,Ex.l]) rfl ?_;rw[<-HF.out];have hB:=But.sixSet wr (w.heap.size+1) (.string ⟨op.toArray⟩) (.int .i64 e.v.k) (.int .i64 e.v.i) (.string ⟨vs.toArray⟩) (.string ⟨ss.toArray⟩) (.slice A9 L.length c9);exact⟨A9,c9,rfl,HE9.out.keep λb hb=>⟨⟨by omega,by have:=hB.size;omega⟩,λo=>hB.cell hb.2 (by omega) o⟩,by exact bl⟩
   ·have b1:decide (j<e.l.length)=false:=decide_eq_false g1;go_wp2_with fail;refine bodyPost_ret (v:=.tuple #[.agg ((Ex.mk op ⟨e.v.k,e.v.i,vs⟩ ss L).cells A9 c9).toArray,.int .i64 lft]) (by simp[results,Tryz.results58,go_sem, *,Ex.cells,Ex.op,Ex.v,Ex.s,Ex.l]) rfl ?_;rw[<-HF.out];have hB:=But.sixSet wr (w.heap.size+1) (.string ⟨op.toArray⟩) (.int .i64 e.v.k) (.int .i64 e.v.i) (.string ⟨vs.toArray⟩) (.string ⟨ss.toArray⟩) (.slice A9 L.length c9);exact⟨A9,c9,rfl,HE9.out.keep λb hb=>⟨⟨by omega,by have:=hB.size;omega⟩,λo=>hB.cell hb.2 (by omega) o⟩,by exact bl⟩
theorem X5(d:Nat)(hd:d<=14):AHL d:=by
 induction d with
 |zero=>exact Rw 0 (λm h=>by omega) hd
 |succ d ih=>
  refine Rw (d+1) (λm h=>?_) hd;obtain rfl:d=m:=by omega
  exact ih (by omega)
def MS(E:Ex)(w:World)(en:Ending)(w':World):Prop:=
 ∃A' c',en=.returned (.agg (E.cells A' c').toArray)/\ExR (λb=>w.heap.size<=b/\b<w'.heap.size) E A' c' w'/\Below w.heap.size w w'
theorem Nw(e:Ex)(A:Option Addr)(c n:Nat)(w:World)(hf:e.fit maxLen)(hl:e.l.length<=maxLen)(hA:ExS maxLen n w w.heap.size A e.l):
  Calls Tryz.prog 34 #[.agg (e.cells A c).toArray] w (MS (UQ e) w):=by
 obtain⟨wa,hwa⟩:∃wa,(w.alloc (.cells (e.cells A c).toArray 30)).alloc (.cells (AL.cells none 0).toArray 30)=wa:=⟨_,rfl⟩;have kEa:Blk wa w.heap.size 30 (e.cells A c).toArray:=by rw[<-hwa];exact(Blk.new _ _ _).alloc _
 have kRa:Blk wa (w.heap.size+1) 30 (AL.cells none 0).toArray:=by rw[<-hwa];exact Blk.new' _ _ _ _ (by simp)
 have hba:Below w.heap.size w wa:=by rw[<-hwa];exact bl
 have hsa:wa.heap.size=w.heap.size+1+1:=by rw[<-hwa];simp
 have HWa:=Lib.hid hwa;have HC:=Lib.hid (X5 14 (Nat.le_refl _) e A c n 80 wa hf hl ((hA.below n hba).more hba.size n) (by omega) (by omega));obtain⟨R,hR⟩:∃R,Gt 14 80 e=R:=⟨_,rfl⟩;unfold UQ;rw[hR];have HR:=Lib.hid hR;clear hwa hA hR;obtain⟨q0,q1,q2,q3,q4,q5⟩:=kEa.six;go_in
 go_upto_region 1 with fail
 rw[show(w.alloc (.cells (e.cells A c).toArray 30)).alloc (.cells #[.string ⟨#[]⟩,.int .i64 0,.int .i64 0,.string ⟨#[]⟩,.string ⟨#[]⟩,.slice none 0 0] 30)=wa from HWa.out];clear HWa;go_wp2_with fail;refine(HC.out).mono ?_;rw[HR.out];obtain⟨X,lf⟩:=R;rintro en w5 ⟨A5,c5,rfl,hE5,hb5⟩;dsimp only[Ex.cells];have hz5:=hb5.size;obtain⟨w6,hw6⟩:∃w6,w5.alloc (.cells (X.cells A5 c5).toArray 30)=w6:=⟨_,rfl⟩;have kX6:Blk w6 w5.heap.size 30 (X.cells A5 c5).toArray:=by rw[<-hw6];exact Blk.new _ _ _
 have hb6:Below w5.heap.size w5 w6:=by rw[<-hw6];exact bl
 have hs6:w6.heap.size=w5.heap.size+1:=by rw[<-hw6];simp
 have HW6:=Lib.hid hw6;have kR6:=(kRa.below hb5 kRa.lt).below hb6 (by have:=kRa.lt;omega);have lR6:=kR6.lt;have lX6:=kX6.lt;have hbw6:Below w.heap.size w w6:=(hba.trans (hb5.mono hba.size)).trans (hb6.mono (by omega));have HE6:Hid (ExR (λb=>w.heap.size+1<b/\b<w5.heap.size) X A5 c5 w6):=hE5.keep λb hb=>⟨⟨by omega,hb.2⟩,λo=>hb6.cell (p:=⟨b,o,none⟩) hb.2⟩
 have hlt5:w.heap.size+1<w5.heap.size:=by omega
 have HS6:Hid (w5.heap.size<=w6.heap.size):=by show _<=_;omega
 clear hw6 hE5 hb5 hb6 hs6 hsa hz5 q0 q1 q2 q3 q4 q5;obtain⟨q0,q1,q2,q3,q4,q5⟩:=kX6.six;obtain⟨z0,z1,z2,z3,z4,z5⟩:=kR6.sixF;obtain⟨r0,r1,r2,r3,r4,r5⟩:=kR6.six;go_upto_region 2 with fail
 rw[show w5.alloc (.cells #[.string ⟨X.op.toArray⟩,.int .i64 X.v.k,.int .i64 X.v.i,.string ⟨X.v.s.toArray⟩,.string ⟨X.s.toArray⟩,.slice A5 X.l.length c5] 30)=w6 from HW6.out];clear HW6;go_wp2_with fail;refine bodyPost_ret (v:=.agg (X.cells A5 c5).toArray) (by simp[results,Tryz.results34,go_sem, *,Ex.cells]) rfl ?_;have hB:=But.sixSet w6 (w.heap.size+1) (.string ⟨X.op.toArray⟩) (.int .i64 X.v.k) (.int .i64 X.v.i) (.string ⟨X.v.s.toArray⟩) (.string ⟨X.s.toArray⟩) (.slice A5 X.l.length c5);have h6:=HS6.out;exact⟨A5,c5,rfl,HE6.out.keep λb hb=>⟨⟨by omega,by have:=hB.size;omega⟩,λo=>hB.cell (by omega) (by omega) o⟩,by exact bl⟩
end Go.Proofs.YtchilcchogcibaaGreatDoor
