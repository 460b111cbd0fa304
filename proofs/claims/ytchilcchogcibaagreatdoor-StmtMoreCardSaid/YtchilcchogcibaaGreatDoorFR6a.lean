/- The closures of created and text, as plain functions; how long texts are; The document's Same of two expressions, Place and check, as plain functions. -/
import Derived.Test.YtchilcchogcibaaGreatDoorFStG
set_option maxRecDepth 100000
set_option maxHeartbeats 8000000
namespace Go.Proofs.YtchilcchogcibaaGreatDoor
section
open Go.RowKit
attribute [local go_sem] ByteArray.extract_mk Ak AY
attribute [local go_sem ↓] Go.wp_at_zero Go.wp_at_succ
theorem QP:∀(n:Nat) (e:Ex),Cc n e=true->D8 n e->(BJ n e).length<=110 * Cm n e:=by
 intro n
 induction n with
 |zero=>intro e h;simp[Cc]at h
 |succ n ih=>
  intro e h hf;have hp:=PK (n+1) e;rcases Ew h with⟨he,hm⟩|⟨he,hn,_⟩|⟨a,rfl,ha⟩|⟨a,rfl,ha⟩|⟨op,a,b,rfl,ho,ha,hb⟩
  ·have:=JS e.v.k e.v.i e.v.s (Nr hf);rw[show BJ (n+1) e=DT e.v.k e.v.i e.v.s by rw[he];rfl];omega
  ·rw[show BJ (n+1) e=e.s by rw[he];rfl];unfold D9 GM at hn;simp only[Bool.and_eq_true,decide_eq_true_eq]at hn;omega
  ·have:=ih a ha (hf.2 a (by simp[Ex.l]));rw[LH n _ (by simp[Ex.l])];show(([40,78,79,84,32]++BJ n a)++[41]).length<=110 * (1+Cm n a)
   simp;omega
  ·have:=ih a ha (hf.2 a (by simp[Ex.l]));rw[LH n _ (by simp[Ex.l])];show(([40]++BJ n a)++[32,73,83,32,78,85,76,76,41]).length<=110 * (1+Cm n a)
   simp;omega
  ·have k1:=ih a ha (hf.2 a (by simp[Ex.l]));have k2:=ih b hb (hf.2 b (by simp[Ex.l]));obtain⟨n1,n2,n3,n4⟩:=IP ho;have:=(ND ho).1;rw[PI n _ (by simp[Ex.l]),Hr n1 n2 n3 n4];show _<=110 * (1+(Cm n a+Cm n b))
   simp[GX];omega
theorem PV:∀(n:Nat) (e:Ex),D8 (n+1) e->D8 n e
 |0,_,h=>h.1
 |n+1,_,h=>⟨h.1,λx hx=>PV n x (h.2 x hx)⟩
theorem JR{e:Ex}(h:E5 e=true)(hf:D8 13 e):(FB e).length<=6600:=by
 have h1:=IC h;have h2:=(RJ 12 1 0 e (by omega) (by omega)).1;unfold E5 may at h;rw[h2]at h;simp only[Bool.and_eq_true,decide_eq_true_eq]at h;have h3:=QP 12 e h1 (PV 12 e hf);have h4:=(Zu 12 e h1).2;unfold FB;rw[h4];omega
theorem Mc{e:Ex}(h:Aq e=true):Md e=DY e:=by
 unfold Md DY Du;unfold Aq at h;cases hn:DU e
 ·rw[hn]at h;have:E5 e=true:=by simpa using h
  simp[this]
 ·rfl
theorem KY{a:List UInt8}{e:Ex}(h:Aq e=true):OJ a e=Bz a e:=by
 unfold OJ Bz Du;unfold Aq at h;cases hn:DU e
 ·rw[hn]at h;have:E5 e=true:=by simpa using h
  simp[this]
 ·rfl
theorem Ho{e:Ex}(h:Aq e=true)(hf:D8 13 e):(DY e).length<=7000:=by
 unfold DY;unfold Aq at h;cases hn:DU e
 ·rw[hn]at h;have:=JR (e:=e) (by simpa using h) hf;simp;omega
 ·simp
theorem Ez{a:List UInt8}{e:Ex}(ha:a.length<=100)(h:Aq e=true)(hf:D8 13 e):(Bz a e).length<=7000:=by
 unfold Bz;unfold Aq at h;cases hn:DU e
 ·rw[hn]at h;have:=JR (e:=e) (by simpa using h) hf;simp;omega
 ·simp
theorem Af{s:List UInt8}(h:Ai s=true):s.length<=16:=by
 have:=Ce h;unfold D9 GM at this;simp only[Bool.and_eq_true,decide_eq_true_eq]at this;omega
theorem OD{c:Col}(h:GI c=true):(Ij c).length<=100:=by
 unfold GI at h;simp only[Bool.and_eq_true]at h;have h1:=Af h.1.1;have h2:(Ic c.t).length<=4:=by unfold Ic;split;decide;split<;>decide
 unfold Ij;cases c.b<;>simp<;>omega
theorem QW{x:Se}(h:GG x=true)(hf:D8 13 x.e):(Ih x).length<=7000:=by
 unfold GG at h;simp only[Bool.and_eq_true]at h;have h1:=Af h.1;have h2:=JR h.2 hf;unfold Ih;simp;omega
theorem XO{α:Type}(f:α->Nat)(K:Nat):∀l:List α,(∀x∈l,f x<=K)->(l.map f).sum<=l.length * K
 |[],_=>by simp
 |x::r,h=>by
  have h1:=h x (by simp);have h2:=XO f K r (λy hy=>h y (by simp[hy]));rw[List.map_cons,List.sum_cons,List.length_cons,Nat.add_mul];omega
theorem EW{α:Type}(t:α->List UInt8)(K:Nat)(l:List α)(h:∀x∈l,(t x).length<=K):(BM BB (l.map t)).length<=l.length * (K+3):=by
 have h1:=PP BB (l.map t);have h2:=XO (λx:List UInt8=>x.length+BB.length) (K+3) (l.map t) (λx hx=>by
  obtain⟨y,hy,rfl⟩:=List.mem_map.1 hx;have:=h y hy;show(t y).length+3<=_
  omega)
 rw[List.length_map]at h2;omega
theorem Vf(x:List UInt8)(w:World):Calls Tryz.prog 84 #[.string ⟨x.toArray⟩] w (Ret (.string ⟨x.toArray⟩) w):=by
 go_in
 go_wp2_with fail;go_ret;exact⟨rfl,Below.refl _ _⟩
theorem Zt{w:World}(h:OY w){t:Int}(h1:1<=t)(h2:t<=3):w.cell? ⟨0,(t - 1).toNat,none⟩=some (.string ⟨(Ic t).toArray⟩):=by
 obtain⟨a,b,c⟩:=h;have:t=1\/t=2\/t=3:=by omega
 rcases this with rfl|rfl|rfl
 ·exact a
 ·exact b
 ·exact c
theorem We(c:Col)(w:World)(h:GI c=true)(hT:OY w):Calls Tryz.prog 150 #[.agg #[.string ⟨c.n.toArray⟩,.int .i64 c.t,.bool c.b]] w (Ret (.string ⟨(Ij c).toArray⟩) w):=by
 obtain⟨n,t,b⟩:=c;have hlen:=OD h;unfold GI at h;simp only[Bool.and_eq_true,decide_eq_true_eq]at h;obtain⟨⟨h0,h1⟩,h2⟩:=h;have hn:=Af h0;dsimp only at hn h1 h2 ⊢;obtain⟨w0,hw0⟩:∃w0,w.alloc (.cells #[.string ⟨n.toArray⟩,.int .i64 t,.bool b] 96)=w0:=⟨_,rfl⟩;have kb0:Blk w0 w.heap.size 96 #[.string ⟨n.toArray⟩,.int .i64 t,.bool b]:=by rw[<-hw0];exact Blk.new _ _ _
 have hb0:Below w.heap.size w w0:=by rw[<-hw0];exact bl
 have hz0:=hb0.size;have HK:Hid (∀Z:World,Below w0.heap.size w0 Z->∀i,Z.cell? ⟨w.heap.size,i,none⟩=(#[.string ⟨n.toArray⟩,.int .i64 t,.bool b]:Array Value)[i]?):=λZ hz i=>(kb0.below hz kb0.lt).cell i
 have HW:=Lib.hid hw0;have HB:=Lib.hid hb0;clear hw0 kb0 hb0;obtain⟨m,hm⟩:∃m:Nat,(t - 1).toNat=m:=⟨_,rfl⟩;have hty:=Zt hT h1 h2;have hl2:(Ic t).length<=4:=by unfold Ic;split;decide;split<;>decide
 obtain⟨Y,hY⟩:∃Y,Ic t=Y:=⟨_,rfl⟩;obtain⟨R,hR⟩:∃R,Ij ⟨n,t,b⟩=R:=⟨_,rfl⟩;have hR2:n++[32]++Y++(if b then[32,78,79,84,32,78,85,76,76]else[])=R:=by rw[<-hR,<-hY];rfl
 rw[hR];rw[hY,hm]at hty;rw[hY]at hl2;have hg0:0<w.heap.size:=Ag hty;have HTY:Hid (∀Z:World,Below w0.heap.size w0 Z->Z.cell? ⟨0,m,none⟩=some (.string ⟨Y.toArray⟩)):=λZ hz=>((HB.out.trans (hz.mono hz0)).cell (p:=⟨0,m,none⟩) hg0).trans hty
 have HR:=Lib.hid hR2;have HSH:Hid (∀Z:World,Below w0.heap.size w0 Z->(Z.cell? ⟨w.heap.size,0,none⟩=some (.string ⟨n.toArray⟩)/\Z.cell? ⟨w.heap.size,1,none⟩=some (.int .i64 t)/\Z.cell? ⟨w.heap.size,2,none⟩=some (.bool b))/\Z.cell? ⟨0,m,none⟩=some (.string ⟨Y.toArray⟩)):=λZ hz=>⟨⟨HK.out Z hz 0,HK.out Z hz 1,HK.out Z hz 2⟩,HTY.out Z hz⟩
 have i1:IntKind.i64.wrap (t - 1)=t - 1:=IntWalk.i64_in _ (by omega);have i2:(0:Int)<=t - 1:=by omega
 have i3:t - 1<3:=by omega
 clear hR hR2 hY hty hlen;obtain⟨⟨k0,k1,k2⟩,k3⟩:=HSH.out w0 (Below.refl _ _);cases b with
 |true=>
  go_in
  go_upto_region 1 with fail
  rw[HW.out];go_wp2_with fail;refine rgn HSH λhHeld=>?_
  refine tS [0,1,2,3,4,5,6,7,8,9,10] ?_;iterate 11(refine tC ?_;refine ap ?_)
  refine tN ?_;refine wpAnyH_done (by kernel_rfl) ?_ _;have hbf:Below w.heap.size w w0.drew:=HB.out.drew;go_wp2_with fail;go_ret;exact⟨by rw[<-HR.out];simp,by first|exact hbf|exact HB.out⟩
 |false=>
  go_in
  go_upto_region 1 with fail
  rw[HW.out];go_wp2_with fail;refine rgn HSH λhHeld=>?_
  refine tS [0,1,2,3,4,5,6,7,8,9] ?_;iterate 10(refine tC ?_;refine ap ?_)
  refine tN ?_;refine wpAnyH_done (by kernel_rfl) ?_ _;have hbf:Below w.heap.size w w0.drew:=HB.out.drew;go_wp2_with fail;go_ret;exact⟨by rw[<-HR.out];simp,by first|exact hbf|exact HB.out⟩
end
section
open Go.RowKit
attribute [local go_sem] ByteArray.extract_mk Ak AY
attribute [local go_sem ↓] Go.wp_at_zero Go.wp_at_succ CY CE
def Dw:Nat->Ex->Ex->Bool
 |n,a,b=>(a.op==b.op)&&((veq a.v b.v)&&((a.s==b.s)&&(decide (a.l.length=b.l.length)&&match n with|0=>true|n+1=>(a.l.zip b.l).all λp=>Dw n p.1 p.2)))
def Iz:Nat->List (Ex×Ex)->Bool
 |0,_=>true
 |n+1,l=>l.all λp=>Dw n p.1 p.2
theorem Qc(n:Nat)(a b:Ex):Dw n a b=((a.op==b.op)&&((veq a.v b.v)&&((a.s==b.s)&&(decide (a.l.length=b.l.length)&&Iz n (a.l.zip b.l))))):=by
 cases n<;>(unfold Dw Iz;rfl)
theorem Na(n:Nat):Iz n []=true:=by cases n<;>rfl
theorem FU:∀(n:Nat) (e:Ex),Dw n e e=true
 |0,e=>by simp[Dw,veq]
 |n+1,e=>by
  rw[Dw];have h:(e.l.zip e.l).all (λp=>Dw n p.1 p.2)=true:=by
   rw[List.all_eq_true];intro p hp;have:p.1=p.2:=by
    obtain⟨i,hi,rfl⟩:=List.getElem_of_mem hp;simp
   rw[this];exact FU n p.2
  simp[h,veq]
theorem NJ(n:Nat)(ih:∀m,n=m+1->∀(a b:Ex) (A B:Option Addr) (c d:Nat) (w:World),a.l.length<=maxLen->ExS 1000 m w w.heap.size A a.l->ExS 1000 m w w.heap.size B b.l->
   Calls Tryz.prog 56 #[.agg (a.cells A c).toArray,.agg (b.cells B d).toArray] w (Ret (.bool (Dw m a b)) w))
 (a b:Ex)(A B:Option Addr)(c d:Nat)(w:World)(hal:a.l.length<=maxLen)(hA:ExS 1000 n w w.heap.size A a.l)(hB:ExS 1000 n w w.heap.size B b.l):
  Calls Tryz.prog 56 #[.agg (a.cells A c).toArray,.agg (b.cells B d).toArray] w (Ret (.bool (Dw n a b)) w):=by
 obtain⟨w0,hw0⟩:∃w0,(w.alloc (.cells (a.cells A c).toArray 30)).alloc (.cells (b.cells B d).toArray 30)=w0:=⟨_,rfl⟩;have ka0:Blk w0 w.heap.size 30 (a.cells A c).toArray:=by rw[<-hw0];exact(Blk.new _ _ _).alloc _
 have kb0:Blk w0 (w.heap.size+1) 30 (b.cells B d).toArray:=by rw[<-hw0];exact Blk.new' _ _ _ _ (by simp)
 have hb0:Below w.heap.size w w0:=by rw[<-hw0];exact bl
 have HSH:Hid (∀w':World,Below w0.heap.size w0 w'->(w'.cell? ⟨w.heap.size,0,none⟩=some (.string ⟨a.op.toArray⟩)/\w'.cell? ⟨w.heap.size,1,none⟩=some (.int .i64 a.v.k)/\w'.cell? ⟨w.heap.size,2,none⟩=some (.int .i64 a.v.i)/\w'.cell? ⟨w.heap.size,3,none⟩=some (.string ⟨a.v.s.toArray⟩)/\w'.cell? ⟨w.heap.size,4,none⟩=some (.string ⟨a.s.toArray⟩)/\w'.cell? ⟨w.heap.size,5,none⟩=some (.slice A a.l.length c)/\w'.cell? ⟨w.heap.size+1,0,none⟩=some (.string ⟨b.op.toArray⟩)/\w'.cell? ⟨w.heap.size+1,1,none⟩=some (.int .i64 b.v.k)/\w'.cell? ⟨w.heap.size+1,2,none⟩=some (.int .i64 b.v.i)/\w'.cell? ⟨w.heap.size+1,3,none⟩=some (.string ⟨b.v.s.toArray⟩)/\w'.cell? ⟨w.heap.size+1,4,none⟩=some (.string ⟨b.s.toArray⟩)/\w'.cell? ⟨w.heap.size+1,5,none⟩=some (.slice B b.l.length d))):=λw' h=>by
  obtain⟨h0,h1,h2,h3,h4,h5⟩:=(ka0.below h ka0.lt).six;obtain⟨g0,g1,g2,g3,g4,g5⟩:=(kb0.below h kb0.lt).six;exact⟨h0,h1,h2,h3,h4,h5,g0,g1,g2,g3,g4,g5⟩
 have HA:Hid (∀Y:World,Below w0.heap.size w0 Y->ExS 1000 n Y Y.heap.size A a.l):=λY h=>((hA.below n (hb0.trans (h.mono hb0.size)))).more (Nat.le_trans hb0.size h.size) n
 have HB:Hid (∀Y:World,Below w0.heap.size w0 Y->ExS 1000 n Y Y.heap.size B b.l):=λY h=>((hB.below n (hb0.trans (h.mono hb0.size)))).more (Nat.le_trans hb0.size h.size) n
 have HW:=Lib.hid hw0;have HBW:Hid (∀Y:World,Below w0.heap.size w0 Y->Below w.heap.size w Y):=λY h=>hb0.trans (h.mono hb0.size)
 have hbr0:Below w0.heap.size w0 w0:=Below.refl _ _;have HIH:=Lib.hid ih;unfold maxLen at hal;obtain⟨R,hR⟩:∃R,Dw n a b=R:=⟨_,rfl⟩;rw[hR];rw[Qc]at hR;obtain⟨ob,ho⟩:∃x,(a.op==b.op)=x:=⟨_,rfl⟩;obtain⟨vb,hv⟩:∃x,veq a.v b.v=x:=⟨_,rfl⟩;obtain⟨sb,hs⟩:∃x,(a.s==b.s)=x:=⟨_,rfl⟩;obtain⟨lb,hl⟩:∃x,decide (a.l.length=b.l.length)=x:=⟨_,rfl⟩;rw[ho,hv,hs,hl]at hR;have o1:(a.op != b.op) = !ob:=by rw[<-ho];rfl
 have v1:veq ⟨a.v.k,a.v.i,a.v.s⟩ ⟨b.v.k,b.v.i,b.v.s⟩=vb:=hv;have s1:(a.s != b.s) = !sb:=by rw[<-hs];rfl
 have l1:((a.l.length:Int) != (b.l.length:Int)) = !lb:=by rw[<-hl,Bool.eq_iff_iff];simp;omega
 have hl2:lb=true->a.l.length=b.l.length:=λh=>by rw[h]at hl;simpa using hl
 have HL2:=Lib.hid hl2;have HK:=Lib.hid hR;clear hw0 hA hB ka0 kb0 hb0 ih hR hv hl hl2;obtain⟨q0,q1,q2,q3,q4,q5,y0,y1,y2,y3,y4,y5⟩:=HSH.out w0 hbr0;go_in
 go_upto_region 1 with fail
 rw[HW.out];clear HW;cases ob
 ·have HF:Hid (R=false):=by show _=_;rw[<-HK.out];rfl
  go_wp2_with fail;go_ret;exact⟨by rw[HF.out];rfl,HBW.out _ (by exact bl)⟩
 cases vb
 ·have HF:Hid (R=false):=by show _=_;rw[<-HK.out];rfl
  go_wp2_with fail;go_ret;exact⟨by rw[HF.out];rfl,HBW.out _ (by exact bl)⟩
 cases sb
 ·have HF:Hid (R=false):=by show _=_;rw[<-HK.out];rfl
  go_wp2_with fail;go_ret;exact⟨by rw[HF.out];rfl,HBW.out _ (by exact bl)⟩
 cases lb
 ·have HF:Hid (R=false):=by show _=_;rw[<-HK.out];rfl
  go_wp2_with fail;go_ret;exact⟨by rw[HF.out];rfl,HBW.out _ (by exact bl)⟩
 have hlen:=HL2.out rfl;have HLN:=Lib.hid hlen;have HK2:Hid (Iz n ((a.l.zip b.l).drop 0)=R):=by
  show _=_
  rw[<-HK.out];rfl
 clear HK HL2 hlen;go_wp2_with fail;go_loopw [5] (λi wr=>∃j:Nat,j<=a.l.length/\i=.int .i64 j/\Hid (Iz n ((a.l.zip b.l).drop j)=R)/\Below w0.heap.size w0 wr) (λi _=>a.l.length - (intOf i).toNat)
 case atStart=>exact⟨0,by omega,rfl,HK2,hbr0⟩
 case round=>
  obtain⟨j,hj,rfl,HJ,hbr⟩:=hrel;clear q0 q1 q2 q3 q4 q5 y0 y1 y2 y3 y4 y5;obtain⟨W,rfl⟩:∃W,W=wr:=⟨_,rfl⟩;obtain⟨q0,q1,q2,q3,q4,q5,y0,y1,y2,y3,y4,y5⟩:=HSH.out W hbr;have hzr:=hbr.size;by_cases hlt:j<a.l.length
  ·obtain⟨m,b1,o1',x,A',c',hnm,rfl,hbB,hvx,_,_,hxc,hxm,⟨c0,c1,c2,c3,c4,c5⟩,hx⟩:=Vb (HA.out W hbr) hlt;obtain⟨m',b2,o2',y,B',d',hnm',rfl,hbB2,hvy,_,_,_,_,⟨d0,d1,d2,d3,d4,d5⟩,hy⟩:=Vb (HB.out W hbr) (j:=j) (by rw[<-HLN.out];exact hlt);subst hnm;obtain rfl:m=m':=by omega
   have hJ:=HJ.out;have hz:(a.l.zip b.l)[j]? = some (x,y):=by rw[List.getElem?_zip_eq_some];exact⟨hvx,hvy⟩
   have hd:(a.l.zip b.l).drop j=(x,y)::(a.l.zip b.l).drop (j+1):=by
    obtain⟨hj',e⟩:=List.getElem?_eq_some_iff.1 hz;rw[<-e];exact List.drop_eq_getElem_cons hj'
   rw[hd,Iz,List.all_cons]at hJ;have HX:Hid (∀Y:World,Below W.heap.size W Y->Calls Tryz.prog 56 #[.agg #[.string ⟨x.op.toArray⟩,.int .i64 x.v.k,.int .i64 x.v.i,.string ⟨x.v.s.toArray⟩,.string ⟨x.s.toArray⟩,.slice A' x.l.length c'],.agg #[.string ⟨y.op.toArray⟩,.int .i64 y.v.k,.int .i64 y.v.i,.string ⟨y.v.s.toArray⟩,.string ⟨y.s.toArray⟩,.slice B' y.l.length d']] Y (Ret (.bool (Dw m x y)) Y)):=λY h=>HIH.out m rfl x y A' B' c' d' Y (Nat.le_trans hxc hxm) ((hx.below m h).more h.size m) ((hy.below m h).more h.size m)
   obtain⟨T,hT⟩:∃T,Dw m x y=T:=⟨_,rfl⟩;rw[hT]at HX hJ;have HJ2:=Lib.hid hJ;have i1:(0:Int)<=(j:Int):=by omega
   have i2:(j:Int)<(a.l.length:Int):=by omega
   have i3:(j:Int)<(b.l.length:Int):=by have:=HLN.out;omega
   have lw:w.heap.size+1<W.heap.size:=Ag y0;have HSK:Hid (∀w':World,Below W.heap.size W w'->(w'.cell? ⟨w.heap.size,5,none⟩=some (.slice (some ⟨b1,o1',none⟩) a.l.length c)/\w'.cell? ⟨w.heap.size+1,5,none⟩=some (.slice (some ⟨b2,o2',none⟩) b.l.length d)/\(w'.cell? ⟨b1,o1'+j * 6,none⟩=some (.string ⟨x.op.toArray⟩)/\w'.cell? ⟨b1,o1'+j * 6+1,none⟩=some (.int .i64 x.v.k)/\w'.cell? ⟨b1,o1'+j * 6+2,none⟩=some (.int .i64 x.v.i)/\w'.cell? ⟨b1,o1'+j * 6+3,none⟩=some (.string ⟨x.v.s.toArray⟩)/\w'.cell? ⟨b1,o1'+j * 6+4,none⟩=some (.string ⟨x.s.toArray⟩)/\w'.cell? ⟨b1,o1'+j * 6+5,none⟩=some (.slice A' x.l.length c'))/\(w'.cell? ⟨b2,o2'+j * 6,none⟩=some (.string ⟨y.op.toArray⟩)/\w'.cell? ⟨b2,o2'+j * 6+1,none⟩=some (.int .i64 y.v.k)/\w'.cell? ⟨b2,o2'+j * 6+2,none⟩=some (.int .i64 y.v.i)/\w'.cell? ⟨b2,o2'+j * 6+3,none⟩=some (.string ⟨y.v.s.toArray⟩)/\w'.cell? ⟨b2,o2'+j * 6+4,none⟩=some (.string ⟨y.s.toArray⟩)/\w'.cell? ⟨b2,o2'+j * 6+5,none⟩=some (.slice B' y.l.length d')))):=λw' h=>by
    have f:∀o,w'.cell? ⟨w.heap.size,o,none⟩=W.cell? ⟨w.heap.size,o,none⟩:=λo=>h.cell (p:=⟨w.heap.size,o,none⟩) (show w.heap.size<_ by omega)
    have f':∀o,w'.cell? ⟨w.heap.size+1,o,none⟩=W.cell? ⟨w.heap.size+1,o,none⟩:=λo=>h.cell (p:=⟨w.heap.size+1,o,none⟩) lw
    have g:∀o,w'.cell? ⟨b1,o,none⟩=W.cell? ⟨b1,o,none⟩:=λo=>h.cell (p:=⟨b1,o,none⟩) hbB
    have g':∀o,w'.cell? ⟨b2,o,none⟩=W.cell? ⟨b2,o,none⟩:=λo=>h.cell (p:=⟨b2,o,none⟩) hbB2
    exact⟨(f _).trans q5,(f' _).trans y5,⟨(g _).trans c0,(g _).trans c1,(g _).trans c2,(g _).trans c3,(g _).trans c4,(g _).trans c5⟩,⟨(g' _).trans d0,(g' _).trans d1,(g' _).trans d2,(g' _).trans d3,(g' _).trans d4,(g' _).trans d5⟩⟩
   clear hJ hd hz hvx hvy HJ hx hy hT HIH hxc hxm;go_wp2_with fail
   skip
   refine rgn HSK λhHeld=>?_
   refine tS [0,1,2,3,4,5,6,7,8,9] ?_;iterate 10(refine tC ?_;refine ap ?_)
   refine tN ?_;refine rdy 10 λK hK=>?_
   go_simp
   (refine(HX.out _ (by exact bl)).mono ?_)<;>rintro en w9 ⟨rfl,hb9⟩<;>have hz9:=hb9.size<;>(try simp at hz9)
   go_wp2_with fail;refine hK.out _ _ (HSK.out _ (by exact bl)) λhHeld=>?_
   clear hK K;refine ap ?_;refine tS [11] (tC ?_);refine ap (tN ?_);refine wpAnyH_done (by kernel_rfl) ?_ _;have hb09:Below w0.heap.size w0 w9:=by exact bl
   cases T
   ·have HF:Hid (R=false):=by show _=_;rw[<-HJ2.out];rfl
    go_wp2_with fail;go_ret;exact⟨by rw[HF.out];rfl,HBW.out _ (by exact bl)⟩
   ·have HN:Hid (Iz (m+1) ((a.l.zip b.l).drop (j+1))=R):=by show _=_;rw[<-HJ2.out];rfl
    go_wp2_with fail;go_roundw
    case rel=>exact⟨j+1,by omega,by go_num,HN,by exact bl⟩
    case measure=>simp[intOf];omega
  ·obtain rfl:j=a.l.length:=by omega
   have HF:Hid (R=true):=by
    show _=_
    rw[<-HJ.out,List.drop_of_length_le (by rw[List.length_zip];omega)];exact Na n
   have b0:¬((a.l.length:Int)<(a.l.length:Int)):=by omega
   clear HJ;go_wp2_with fail;go_ret;exact⟨by rw[HF.out];rfl,HBW.out _ (by exact bl)⟩
theorem Vg:∀(n:Nat) (a b:Ex) (A B:Option Addr) (c d:Nat) (w:World),a.l.length<=maxLen->ExS 1000 n w w.heap.size A a.l->ExS 1000 n w w.heap.size B b.l->
   Calls Tryz.prog 56 #[.agg (a.cells A c).toArray,.agg (b.cells B d).toArray] w (Ret (.bool (Dw n a b)) w):=by
 intro n
 induction n with
 |zero=>exact NJ 0 (λm h=>absurd h (by omega))
 |succ n ih=>
  refine NJ (n+1) (λm h=>?_);obtain rfl:n=m:=by omega
  exact ih
end
end Go.Proofs.YtchilcchogcibaaGreatDoor
