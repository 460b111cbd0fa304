/- stmt.creates, and the closures of creates and parts, as plain functions; stmt.creates and stmt.parts as plain functions. -/
import Derived.Deep.WholeRow
import Derived.Test.YtchilcchogcibaaGreatDoorFMany
import Derived.Test.YtchilcchogcibaaGreatDoorFStB
set_option maxRecDepth 100000
set_option maxHeartbeats 4000000
namespace Go.Proofs.YtchilcchogcibaaGreatDoor
open Go.RowKit
attribute [local go_sem] ByteArray.extract_mk Ak AY
attribute [local go_sem ↓] Go.wp_at_zero Go.wp_at_succ
structure St.Ok (s:St):Prop where
 op:s.op.length<=1000
 tb:s.tb.length<=1000
 ot:s.ot.length<=1000
 key:s.key.length<=1000
 role:s.role.length<=1000
 nN:s.names.length<=1000
 nC:s.cols.length<=1000
 nU:s.uniq.length<=1000
 nR:s.refs.length<=1000
 nW:s.row.length<=1000
 nS:s.sets.length<=1000
 names:∀x∈s.names,x.length<=1000
 cols:∀c∈s.cols,c.n.length<=1000
 uniq:∀x∈s.uniq,x.length<=1000
 refs:∀x∈s.refs,x.c.length<=1000/\x.t.length<=1000
 chk:s.chk.fit 1000
 whr:s.whr.fit 1000
 row:∀v∈s.row,Fq v.i/\v.s.length<=1000
 sets:∀x∈s.sets,x.n.length<=1000/\x.e.fit 1000
 num:fitS s
theorem Di{s:List UInt8}{N:Bool}(h:Ai s=N)(hs:s.length<=1000)(Y:World):Calls Tryz.prog 74 #[.string ⟨s.toArray⟩] Y (Ret (.bool N) Y):=by
 have:=UE s Y (by omega);rw[h]at this;exact this
theorem YD(c:Col)(w:World)(hn:c.n.length<=1000):Calls Tryz.prog 130 #[.agg #[.string ⟨c.n.toArray⟩,.int .i64 c.t,.bool c.b]] w (Ret (.bool (GI c)) w):=by
 obtain⟨n,t,b⟩:=c;dsimp only at hn ⊢;obtain⟨w0,hw0⟩:∃w0,w.alloc (.cells #[.string ⟨n.toArray⟩,.int .i64 t,.bool b] 96)=w0:=⟨_,rfl⟩;have kb0:Blk w0 w.heap.size 96 #[.string ⟨n.toArray⟩,.int .i64 t,.bool b]:=by rw[<-hw0];exact Blk.new _ _ _
 have hb0:Below w.heap.size w w0:=by rw[<-hw0];exact bl
 have hz0:=hb0.size;have HK:Hid (∀Z:World,Below w0.heap.size w0 Z->∀i,Z.cell? ⟨w.heap.size,i,none⟩=(#[.string ⟨n.toArray⟩,.int .i64 t,.bool b]:Array Value)[i]?):=λZ hz i=>(kb0.below hz kb0.lt).cell i
 have HW:=Lib.hid hw0;have HB:=Lib.hid hb0;clear hw0 kb0 hb0;obtain⟨R,hR⟩:∃R,GI ⟨n,t,b⟩=R:=⟨_,rfl⟩;rw[hR];obtain⟨N,hN⟩:∃N,Ai n=N:=⟨_,rfl⟩;have HN:=Lib.hid (Di hN hn w0);have hR2:(N&&(decide (1<=t)&&decide (t<=3)))=R:=by rw[<-hR,<-hN];unfold GI;rw[Bool.and_assoc]
 have HR:=Lib.hid hR2;clear hR hN hR2;have k0:w0.cell? ⟨w.heap.size,0,none⟩=some (.string ⟨n.toArray⟩):=HK.out w0 (Below.refl _ _) 0;cases N with
 |false=>
  go_in
  go_upto_region 1 with fail
  rw[HW.out];go_wp2_with fail;refine HN.out.mono ?_;rintro en w1 ⟨rfl,hb1⟩;go_wp2_with fail;go_ret;exact⟨by rw[<-HR.out];rfl,HB.out.trans (hb1.mono hz0)⟩
 |true=>
  by_cases h1:1<=t
  ·go_in
   go_upto_region 1 with fail
   rw[HW.out];go_wp2_with fail;refine HN.out.mono ?_;rintro en w1 ⟨rfl,hb1⟩;have k1:w1.cell? ⟨w.heap.size,1,none⟩=some (.int .i64 t):=HK.out w1 hb1 1;go_wp2_with fail;go_ret;exact⟨by rw[<-HR.out,decide_eq_true h1];rfl,HB.out.trans (hb1.mono hz0)⟩
  ·have HF:Hid (decide (1<=t)=false):=decide_eq_false h1;go_in
   go_upto_region 1 with fail
   rw[HW.out];go_wp2_with fail;refine HN.out.mono ?_;rintro en w1 ⟨rfl,hb1⟩;have k1:w1.cell? ⟨w.heap.size,1,none⟩=some (.int .i64 t):=HK.out w1 hb1 1;go_wp2_with fail;go_ret;exact⟨by rw[<-HR.out,HF.out];rfl,HB.out.trans (hb1.mono hz0)⟩
theorem XY(c:Rf)(w:World)(hn:c.c.length<=1000)(ht:c.t.length<=1000):Calls Tryz.prog 131 #[.agg #[.string ⟨c.c.toArray⟩,.string ⟨c.t.toArray⟩]] w (Ret (.bool (G9 c)) w):=by
 obtain⟨n,t⟩:=c;dsimp only at hn ht ⊢;obtain⟨w0,hw0⟩:∃w0,w.alloc (.cells #[.string ⟨n.toArray⟩,.string ⟨t.toArray⟩] 74)=w0:=⟨_,rfl⟩;have kb0:Blk w0 w.heap.size 74 #[.string ⟨n.toArray⟩,.string ⟨t.toArray⟩]:=by rw[<-hw0];exact Blk.new _ _ _
 have hb0:Below w.heap.size w w0:=by rw[<-hw0];exact bl
 have hz0:=hb0.size;have HK:Hid (∀Z:World,Below w0.heap.size w0 Z->∀i,Z.cell? ⟨w.heap.size,i,none⟩=(#[.string ⟨n.toArray⟩,.string ⟨t.toArray⟩]:Array Value)[i]?):=λZ hz i=>(kb0.below hz kb0.lt).cell i
 have HW:=Lib.hid hw0;have HB:=Lib.hid hb0;clear hw0 kb0 hb0;obtain⟨R,hR⟩:∃R,G9 ⟨n,t⟩=R:=⟨_,rfl⟩;rw[hR];obtain⟨N,hN⟩:∃N,Ai n=N:=⟨_,rfl⟩;obtain⟨N2,hN2⟩:∃N,Ai t=N:=⟨_,rfl⟩;have HN:Hid (∀Y,Calls Tryz.prog 74 #[.string ⟨n.toArray⟩] Y (Ret (.bool N) Y)):=Di hN hn;have HN2:Hid (∀Y,Calls Tryz.prog 74 #[.string ⟨t.toArray⟩] Y (Ret (.bool N2) Y)):=Di hN2 ht;have hR2:(N&&N2)=R:=by rw[<-hR,<-hN,<-hN2];rfl
 have HR:=Lib.hid hR2;clear hR hN hR2 hN2;have k0:w0.cell? ⟨w.heap.size,0,none⟩=some (.string ⟨n.toArray⟩):=HK.out w0 (Below.refl _ _) 0;cases N with
 |false=>
  go_in
  go_upto_region 1 with fail
  rw[HW.out];go_wp2_with fail;refine(HN.out _).mono ?_;rintro en w1 ⟨rfl,hb1⟩;go_wp2_with fail;go_ret;exact⟨by rw[<-HR.out];rfl,HB.out.trans (hb1.mono hz0)⟩
 |true=>
  go_in
  go_upto_region 1 with fail
  rw[HW.out];go_wp2_with fail;refine(HN.out _).mono ?_;rintro en w1 ⟨rfl,hb1⟩;have k1:w1.cell? ⟨w.heap.size,1,none⟩=some (.string ⟨t.toArray⟩):=HK.out w1 hb1 1;have hz1:=hb1.size;go_wp2_with fail;refine(HN2.out _).mono ?_;rintro en w2 ⟨rfl,hb2⟩;go_wp2_with fail;go_ret;exact⟨by rw[<-HR.out];rfl,HB.out.trans ((hb1.trans (hb2.mono hz1)).mono hz0)⟩
theorem XT(x:Se)(A':Option Addr)(c' m:Nat)(w:World)(hn:x.n.length<=1000)(hf:x.e.fit 1000)(hE:ExS 1000 m w w.heap.size A' x.e.l):
  Calls Tryz.prog 78 #[.agg #[.string ⟨x.n.toArray⟩,.string ⟨x.e.op.toArray⟩,.int .i64 x.e.v.k,.int .i64 x.e.v.i,.string ⟨x.e.v.s.toArray⟩,.string ⟨x.e.s.toArray⟩,.slice A' x.e.l.length c']] w (Ret (.bool (GG x)) w):=by
 obtain⟨w0,hw0⟩:∃w0,w.alloc (.cells #[.string ⟨x.n.toArray⟩,.string ⟨x.e.op.toArray⟩,.int .i64 x.e.v.k,.int .i64 x.e.v.i,.string ⟨x.e.v.s.toArray⟩,.string ⟨x.e.s.toArray⟩,.slice A' x.e.l.length c'] 76)=w0:=⟨_,rfl⟩;have kb0:Blk w0 w.heap.size 76 #[.string ⟨x.n.toArray⟩,.string ⟨x.e.op.toArray⟩,.int .i64 x.e.v.k,.int .i64 x.e.v.i,.string ⟨x.e.v.s.toArray⟩,.string ⟨x.e.s.toArray⟩,.slice A' x.e.l.length c']:=by rw[<-hw0];exact Blk.new _ _ _
 have hb0:Below w.heap.size w w0:=by rw[<-hw0];exact bl
 have hz0:=hb0.size;have HK:Hid (∀Z:World,Below w0.heap.size w0 Z->∀i,Z.cell? ⟨w.heap.size,i,none⟩=(#[.string ⟨x.n.toArray⟩,.string ⟨x.e.op.toArray⟩,.int .i64 x.e.v.k,.int .i64 x.e.v.i,.string ⟨x.e.v.s.toArray⟩,.string ⟨x.e.s.toArray⟩,.slice A' x.e.l.length c']:Array Value)[i]?):=λZ hz i=>(kb0.below hz kb0.lt).cell i
 have HW:=Lib.hid hw0;have HB:=Lib.hid hb0;clear hw0 kb0 hb0;obtain⟨R,hR⟩:∃R,GG x=R:=⟨_,rfl⟩;rw[hR];obtain⟨N,hN⟩:∃N,Ai x.n=N:=⟨_,rfl⟩;obtain⟨M,hM⟩:∃M,E5 x.e=M:=⟨_,rfl⟩;have HN:Hid (∀Y,Calls Tryz.prog 74 #[.string ⟨x.n.toArray⟩] Y (Ret (.bool N) Y)):=Di hN hn;have HM:Hid (∀Y,Below w0.heap.size w0 Y->Calls Tryz.prog 79 #[.agg #[.string ⟨x.e.op.toArray⟩,.int .i64 x.e.v.k,.int .i64 x.e.v.i,.string ⟨x.e.v.s.toArray⟩,.string ⟨x.e.s.toArray⟩,.slice A' x.e.l.length c']] Y (Ret (.bool M) Y)):=λY hY=>by
  have:=PY x.e A' c' m Y hf ((hE.below m (HB.out.trans (hY.mono hz0))).more (Nat.le_trans hz0 hY.size) m);rw[hM]at this;exact this
 have hR2:(N&&M)=R:=by rw[<-hR,<-hN,<-hM];rfl
 have HR:=Lib.hid hR2;clear hR hN hR2 hM hE;have k0:w0.cell? ⟨w.heap.size,0,none⟩=some (.string ⟨x.n.toArray⟩):=HK.out w0 (Below.refl _ _) 0;cases N with
 |false=>
  go_in
  go_upto_region 1 with fail
  rw[HW.out];go_wp2_with fail;refine(HN.out _).mono ?_;rintro en w1 ⟨rfl,hb1⟩;go_wp2_with fail;go_ret;exact⟨by rw[<-HR.out];rfl,HB.out.trans (hb1.mono hz0)⟩
 |true=>
  go_in
  go_upto_region 1 with fail
  rw[HW.out];go_wp2_with fail;refine(HN.out _).mono ?_;rintro en w1 ⟨rfl,hb1⟩;have k1:w1.cell? ⟨w.heap.size,1,none⟩=some (.string ⟨x.e.op.toArray⟩):=HK.out w1 hb1 1;have k2:w1.cell? ⟨w.heap.size,2,none⟩=some (.int .i64 x.e.v.k):=HK.out w1 hb1 2;have k3:w1.cell? ⟨w.heap.size,3,none⟩=some (.int .i64 x.e.v.i):=HK.out w1 hb1 3;have k4:w1.cell? ⟨w.heap.size,4,none⟩=some (.string ⟨x.e.v.s.toArray⟩):=HK.out w1 hb1 4;have k5:w1.cell? ⟨w.heap.size,5,none⟩=some (.string ⟨x.e.s.toArray⟩):=HK.out w1 hb1 5;have k6:w1.cell? ⟨w.heap.size,6,none⟩=some (.slice A' x.e.l.length c'):=HK.out w1 hb1 6;have hz1:=hb1.size;have HX:=Lib.hid (HM.out w1 hb1);go_wp2_with fail;refine HX.out.mono ?_;rintro en w2 ⟨rfl,hb2⟩;go_wp2_with fail;go_ret;exact⟨by rw[<-HR.out];rfl,HB.out.trans ((hb1.trans (hb2.mono hz1)).mono hz0)⟩
theorem V6(A:Option Addr)(c:Nat)(l:List V)(lo hi:Int)(w:World)(hlo:0<=lo)(hhi:0<=hi)(hl:l.length<=1000)(h:WQ l A (Old w.heap.size) w):
  Calls Tryz.prog 76 #[.slice A l.length c,.int .i64 lo,.int .i64 hi,.func (.func 77) #[] #[]] w (Ret (.bool (Bh l lo.toNat hi.toNat (λv=>D5 v.k v.i v.s))) w):=
 Xo A c l lo hi _ 77 (Go.Proofs.enters_of Tryz.func77 (by kernel_rfl) rfl) w hlo hhi (by omega) h (λx _ Z _ _=>Ep x.k x.i x.s Z)
theorem LJ(A:Option Addr)(c:Nat)(l:List (List UInt8))(lo hi:Int)(w:World)(hlo:0<=lo)(hhi:0<=hi)(hl:l.length<=1000)(hs:∀x∈l,x.length<=1000)(h:SQ l A (Old w.heap.size) w):
  Calls Tryz.prog 82 #[.slice A l.length c,.int .i64 lo,.int .i64 hi,.func (.func 74) #[] #[]] w (Ret (.bool (Bh l lo.toNat hi.toNat Ai)) w):=
 Xp A c l lo hi _ 74 (Go.Proofs.enters_of Tryz.func74 (by kernel_rfl) rfl) w hlo hhi (by omega) h (λx hx Z _ _=>Di rfl (hs x hx) Z)
theorem RX(A:Option Addr)(c:Nat)(l:List Col)(lo hi:Int)(w:World)(hlo:0<=lo)(hhi:0<=hi)(hl:l.length<=1000)(hs:∀x∈l,x.n.length<=1000)(h:CQ l A (Old w.heap.size) w):
  Calls Tryz.prog 132 #[.slice A l.length c,.int .i64 lo,.int .i64 hi,.func (.func 130) #[] #[]] w (Ret (.bool (Bh l lo.toNat hi.toNat GI)) w):=
 Xt A c l lo hi _ 130 (Go.Proofs.enters_of Tryz.func130 (by kernel_rfl) rfl) w hlo hhi (by omega) h (λx hx Z _ _=>YD x Z (hs x hx))
theorem RV(A:Option Addr)(c:Nat)(l:List Rf)(lo hi:Int)(w:World)(hlo:0<=lo)(hhi:0<=hi)(hl:l.length<=1000)(hs:∀x∈l,x.c.length<=1000/\x.t.length<=1000)(h:XQ l A (Old w.heap.size) w):
  Calls Tryz.prog 133 #[.slice A l.length c,.int .i64 lo,.int .i64 hi,.func (.func 131) #[] #[]] w (Ret (.bool (Bh l lo.toNat hi.toNat G9)) w):=
 Xr A c l lo hi _ 131 (Go.Proofs.enters_of Tryz.func131 (by kernel_rfl) rfl) w hlo hhi (by omega) h (λx hx Z _ _=>XY x Z (hs x hx).1 (hs x hx).2)
theorem Ed{K n:Nat}{w:World}{B:Nat}{A:Option Addr}{l:List Ex}(h:ExQ K n w (Old B) A l)(hB:B<=w.heap.size):ExS K n w w.heap.size A l:=h.toS (λ_ hb=>Nat.lt_of_lt_of_le hb hB) n
theorem RU(K n:Nat)(A:Option Addr)(c:Nat)(l:List Se)(lo hi:Int)(w:World)(hlo:0<=lo)(hhi:0<=hi)(hl:l.length<=1000)(hs:∀x∈l,x.n.length<=1000/\x.e.fit 1000)(hK:K=1000)(h:ZQ K n l A (Old w.heap.size) w):
  Calls Tryz.prog 80 #[.slice A l.length c,.int .i64 lo,.int .i64 hi,.func (.func 78) #[] #[]] w (Ret (.bool (Bh l lo.toNat hi.toNat GG)) w):=by
 subst hK;exact Xq A c l lo hi _ 78 (Go.Proofs.enters_of Tryz.func78 (by kernel_rfl) rfl) w hlo hhi (by omega) 1000 n h (λx hx A' c' Z _ hex=>XT x A' c' n Z (hs x hx).1 (hs x hx).2 (Ed hex.2.2.2 (Nat.le_refl _)))
def StH(s:St)(p:StP)(kc ks kw:Nat)(Q:Nat->Prop)(w:World):Prop:=
 SQ s.names p.names.a Q w/\CQ s.cols p.cols.a Q w/\SQ s.uniq p.uniq.a Q w/\XQ s.refs p.refs.a Q w/\ExQ 1000 kc w Q p.chk.a s.chk.l/\WQ s.row p.row.a Q w/\ZQ 1000 ks s.sets p.sets.a Q w/\ExQ 1000 kw w Q p.whr.a s.whr.l
theorem StQ.h{s:St}{p:StP}{Q:Nat->Prop}{w:World}(h:StQ 1000 s p Q w):∃kc ks kw,StH s p kc ks kw Q w:=by
 obtain⟨h1,h2,h3,h4,⟨n,h5⟩,h6,⟨m,h7⟩,k,h8⟩:=h;exact⟨n,m,k,h1,h2,h3,h4,h5,h6,h7,h8⟩
theorem StH.keep{s:St}{p:StP}{kc ks kw:Nat}{Q Q':Nat->Prop}{w w':World}(h:StH s p kc ks kw Q w)(hk:∀b,Q b->Q' b/\∀o,w'.cell? ⟨b,o,none⟩=w.cell? ⟨b,o,none⟩):StH s p kc ks kw Q' w':=by
 obtain⟨h1,h2,h3,h4,h5,h6,h7,h8⟩:=h;exact⟨h1.keep hk,h2.keep hk,h3.keep hk,h4.keep hk,h5.keep hk kc,h6.keep hk,h7.keep hk,h8.keep hk kw⟩
theorem SH(s:St)(p:StP)(w:World)(hok:s.Ok)(hQ:StQ 1000 s p (Old w.heap.size) w):Calls Tryz.prog 75 #[.agg (s.cells p).toArray] w (Ret (.bool (OA s)) w):=by
 obtain⟨kc,ks,kw,hM⟩:=hQ.h;refine Gl s p w λw0 HW ks0 hb0 hz0 HST HB=>?_
 dsimp only[St.cells]at HW;have HM:Hid (∀Y:World,Below w0.heap.size w0 Y->StH s p kc ks kw (Old Y.heap.size) Y):=λY hY=>hM.keep (DK (hb0.trans (hY.mono hz0)) (Nat.le_trans hz0 hY.size))
 obtain⟨B1,hB1⟩:∃B,Bh s.cols 1 8 GI=B:=⟨_,rfl⟩;have H1:Hid (∀Y:World,Below w0.heap.size w0 Y->Calls Tryz.prog 132 #[.slice p.cols.a s.cols.length p.cols.c,.int .i64 1,.int .i64 8,.func (.func 130) #[] #[]] Y (Ret (.bool B1) Y)):=λY hY=>by
  rw[<-hB1];exact RX p.cols.a p.cols.c s.cols 1 8 Y (by decide) (by decide) hok.nC hok.cols (HM.out Y hY).2.1
 obtain⟨B2,hB2⟩:∃B,Ai s.key=B:=⟨_,rfl⟩;have H2:Hid (∀Y:World,Below w0.heap.size w0 Y->Calls Tryz.prog 74 #[.string ⟨s.key.toArray⟩] Y (Ret (.bool B2) Y)):=λY hY=>by
  rw[<-hB2];exact Di rfl hok.key Y
 obtain⟨B3,hB3⟩:∃B,Bh s.uniq 0 8 Ai=B:=⟨_,rfl⟩;have H3:Hid (∀Y:World,Below w0.heap.size w0 Y->Calls Tryz.prog 82 #[.slice p.uniq.a s.uniq.length p.uniq.c,.int .i64 0,.int .i64 8,.func (.func 74) #[] #[]] Y (Ret (.bool B3) Y)):=λY hY=>by
  rw[<-hB3];exact LJ p.uniq.a p.uniq.c s.uniq 0 8 Y (by decide) (by decide) hok.nU hok.uniq (HM.out Y hY).2.2.1
 obtain⟨B4,hB4⟩:∃B,Bh s.refs 0 8 G9=B:=⟨_,rfl⟩;have H4:Hid (∀Y:World,Below w0.heap.size w0 Y->Calls Tryz.prog 133 #[.slice p.refs.a s.refs.length p.refs.c,.int .i64 0,.int .i64 8,.func (.func 131) #[] #[]] Y (Ret (.bool B4) Y)):=λY hY=>by
  rw[<-hB4];exact RV p.refs.a p.refs.c s.refs 0 8 Y (by decide) (by decide) hok.nR hok.refs (HM.out Y hY).2.2.2.1
 obtain⟨B5,hB5⟩:∃B,Aq s.chk=B:=⟨_,rfl⟩;have H5:Hid (∀Y:World,Below w0.heap.size w0 Y->Calls Tryz.prog 81 #[.agg #[.string ⟨s.chk.op.toArray⟩,.int .i64 s.chk.v.k,.int .i64 s.chk.v.i,.string ⟨s.chk.v.s.toArray⟩,.string ⟨s.chk.s.toArray⟩,.slice p.chk.a s.chk.l.length p.chk.c]] Y (Ret (.bool B5) Y)):=λY hY=>by
  rw[<-hB5];exact ES s.chk p.chk.a p.chk.c kc Y hok.chk (Ed (HM.out Y hY).2.2.2.2.1 (Nat.le_refl _))
 have hR:OA s=(B1&&(B2&&(B3&&(B4&&B5)))):=by unfold OA;rw[hB1,hB2,hB3,hB4,hB5];simp only[Bool.and_assoc]
 obtain⟨R,hR0⟩:∃R,OA s=R:=⟨_,rfl⟩;rw[hR0]at hR ⊢;have HR:=Lib.hid hR;clear hR hR0 hB1 hB2 hB3 hB4 hB5 ks0 hQ hM hok HM;obtain⟨s0,s1,s2,s3,s4,s5,s6,s7,s8,s9,s10,s11,s12,s13,s14,s15,s16,s17,s18,s19,s20,s21,s22⟩:=HST.out w0 (Below.refl _ _);dsimp only[St.cells];go_in
 go_upto_region 1 with fail
 rw[show w.alloc _=w0 from HW.out];clear HW;have hc0:Below w0.heap.size w0 w0:=Below.refl _ _;go_wp2_with fail;refine(H1.out w0 hc0).mono ?_;rintro en w1 ⟨rfl,hb1⟩;have hc1:Below w0.heap.size w0 w1:=hc0.trans (hb1.mono hc0.size);have hz1:=hc1.size;clear s0 s1 s2 s3 s4 s5 s6 s7 s8 s9 s10 s11 s12 s13 s14 s15 s16 s17 s18 s19 s20 s21 s22;cases B1 with
 |false=>
  go_wp2_with fail;go_ret;exact⟨by rw[HR.out];rfl,HB.out.trans (hc1.mono hz0)⟩
 |true=>
  obtain⟨s0,s1,s2,s3,s4,s5,s6,s7,s8,s9,s10,s11,s12,s13,s14,s15,s16,s17,s18,s19,s20,s21,s22⟩:=HST.out w1 hc1;go_wp2_with fail;refine(H2.out w1 hc1).mono ?_;rintro en w2 ⟨rfl,hb2⟩;have hc2:Below w0.heap.size w0 w2:=hc1.trans (hb2.mono hc1.size);have hz2:=hc2.size;clear s0 s1 s2 s3 s4 s5 s6 s7 s8 s9 s10 s11 s12 s13 s14 s15 s16 s17 s18 s19 s20 s21 s22;cases B2 with
  |false=>
   go_wp2_with fail;go_ret;exact⟨by rw[HR.out];rfl,HB.out.trans (hc2.mono hz0)⟩
  |true=>
   obtain⟨s0,s1,s2,s3,s4,s5,s6,s7,s8,s9,s10,s11,s12,s13,s14,s15,s16,s17,s18,s19,s20,s21,s22⟩:=HST.out w2 hc2;go_wp2_with fail;refine(H3.out w2 hc2).mono ?_;rintro en w3 ⟨rfl,hb3⟩;have hc3:Below w0.heap.size w0 w3:=hc2.trans (hb3.mono hc2.size);have hz3:=hc3.size;clear s0 s1 s2 s3 s4 s5 s6 s7 s8 s9 s10 s11 s12 s13 s14 s15 s16 s17 s18 s19 s20 s21 s22;cases B3 with
   |false=>
    go_wp2_with fail;go_ret;exact⟨by rw[HR.out];rfl,HB.out.trans (hc3.mono hz0)⟩
   |true=>
    obtain⟨s0,s1,s2,s3,s4,s5,s6,s7,s8,s9,s10,s11,s12,s13,s14,s15,s16,s17,s18,s19,s20,s21,s22⟩:=HST.out w3 hc3;go_wp2_with fail;refine(H4.out w3 hc3).mono ?_;rintro en w4 ⟨rfl,hb4⟩;have hc4:Below w0.heap.size w0 w4:=hc3.trans (hb4.mono hc3.size);have hz4:=hc4.size;clear s0 s1 s2 s3 s4 s5 s6 s7 s8 s9 s10 s11 s12 s13 s14 s15 s16 s17 s18 s19 s20 s21 s22;cases B4 with
    |false=>
     go_wp2_with fail;go_ret;exact⟨by rw[HR.out];rfl,HB.out.trans (hc4.mono hz0)⟩
    |true=>
     obtain⟨s0,s1,s2,s3,s4,s5,s6,s7,s8,s9,s10,s11,s12,s13,s14,s15,s16,s17,s18,s19,s20,s21,s22⟩:=HST.out w4 hc4;go_wp2_with fail;refine(H5.out w4 hc4).mono ?_;rintro en w5 ⟨rfl,hb5⟩;have hc5:Below w0.heap.size w0 w5:=hc4.trans (hb5.mono hc4.size);have hz5:=hc5.size;clear s0 s1 s2 s3 s4 s5 s6 s7 s8 s9 s10 s11 s12 s13 s14 s15 s16 s17 s18 s19 s20 s21 s22;go_wp2_with fail;go_ret;exact⟨by rw[HR.out];rfl,HB.out.trans (hc5.mono hz0)⟩
theorem StH.q{s:St}{p:StP}{kc ks kw:Nat}{Q:Nat->Prop}{w:World}(h:StH s p kc ks kw Q w):StQ 1000 s p Q w:=by
 obtain⟨h1,h2,h3,h4,h5,h6,h7,h8⟩:=h;exact⟨h1,h2,h3,h4,⟨_,h5⟩,h6,⟨_,h7⟩,_,h8⟩
def St.Slim(s:St):Prop:=s.tb.length<=1000/\s.ot.length<=1000/\s.key.length<=1000/\s.role.length<=1000/\s.names.length<=1000/\s.cols.length<=1000/\s.uniq.length<=1000/\s.refs.length<=1000/\s.row.length<=1000/\s.sets.length<=1000
theorem Ea(s:St)(p:StP)(h:s.Slim){E:Bool}(he:Cf s=E)(Y:World):Calls Tryz.prog 83 #[.agg (s.cells p).toArray] Y (Ret (.bool E) Y):=by
 obtain⟨h1,h2,h3,h4,h5,h6,h7,h8,h9,h10⟩:=h;have:=WY s p Y (by omega) (by omega) (by omega) (by omega) (by omega) (by omega) (by omega) (by omega) (by omega) (by omega);rw[he]at this;exact this
theorem VZ{w:World}{g:Nat}{t:TypeId}{s:St}{p:StP}(h:Blk w g t (s.cells p).toArray):Blk (w.setCell ⟨g,1,none⟩ (.string ⟨#[]⟩)) g t (({s with tb:=[]}:St).cells p).toArray:=by
 have:=h.set_ 1 (.string ⟨#[]⟩);simpa[St.cells]using this
theorem Kz{w:World}{g:Nat}{t:TypeId}{s:St}{p:StP}(h:Blk w g t (s.cells p).toArray):Blk (w.setCell ⟨g,2,none⟩ (.string ⟨#[]⟩)) g t (({s with ot:=[]}:St).cells p).toArray:=by
 have:=h.set_ 2 (.string ⟨#[]⟩);simpa[St.cells]using this
theorem KA{w:World}{g:Nat}{t:TypeId}{s:St}{p:StP}(h:Blk w g t (s.cells p).toArray):Blk (w.setCell ⟨g,3,none⟩ (.slice none 0 0)) g t (({s with names:=[]}:St).cells ({p with names:=⟨none,0⟩}:StP)).toArray:=by
 have:=h.set_ 3 (.slice none 0 0);simpa[St.cells]using this
theorem QV{w:World}{g:Nat}{t:TypeId}{s:St}{p:StP}(h:Blk w g t (s.cells p).toArray):Blk (w.setCell ⟨g,4,none⟩ (.slice none 0 0)) g t (({s with cols:=[]}:St).cells ({p with cols:=⟨none,0⟩}:StP)).toArray:=by
 have:=h.set_ 4 (.slice none 0 0);simpa[St.cells]using this
theorem NH{w:World}{g:Nat}{t:TypeId}{s:St}{p:StP}(h:Blk w g t (s.cells p).toArray):Blk (w.setCell ⟨g,5,none⟩ (.string ⟨#[]⟩)) g t (({s with key:=[]}:St).cells p).toArray:=by
 have:=h.set_ 5 (.string ⟨#[]⟩);simpa[St.cells]using this
theorem QS{w:World}{g:Nat}{t:TypeId}{s:St}{p:StP}(h:Blk w g t (s.cells p).toArray):Blk (w.setCell ⟨g,6,none⟩ (.slice none 0 0)) g t (({s with uniq:=[]}:St).cells ({p with uniq:=⟨none,0⟩}:StP)).toArray:=by
 have:=h.set_ 6 (.slice none 0 0);simpa[St.cells]using this
theorem QU{w:World}{g:Nat}{t:TypeId}{s:St}{p:StP}(h:Blk w g t (s.cells p).toArray):Blk (w.setCell ⟨g,7,none⟩ (.slice none 0 0)) g t (({s with refs:=[]}:St).cells ({p with refs:=⟨none,0⟩}:StP)).toArray:=by
 have:=h.set_ 7 (.slice none 0 0);simpa[St.cells]using this
theorem TL{w:World}{g:Nat}{t:TypeId}{s:St}{p:StP}(h:Blk w g t (s.cells p).toArray):Blk (w.setCell ⟨g,14,none⟩ (.slice none 0 0)) g t (({s with row:=[]}:St).cells ({p with row:=⟨none,0⟩}:StP)).toArray:=by
 have:=h.set_ 14 (.slice none 0 0);simpa[St.cells]using this
theorem QT{w:World}{g:Nat}{t:TypeId}{s:St}{p:StP}(h:Blk w g t (s.cells p).toArray):Blk (w.setCell ⟨g,15,none⟩ (.slice none 0 0)) g t (({s with sets:=[]}:St).cells ({p with sets:=⟨none,0⟩}:StP)).toArray:=by
 have:=h.set_ 15 (.slice none 0 0);simpa[St.cells]using this
theorem Fj{w:World}{g:Nat}{t:TypeId}{s:St}{p:StP}(h:Blk w g t (s.cells p).toArray):Blk (w.setCell ⟨g,22,none⟩ (.string ⟨#[]⟩)) g t (({s with role:=[]}:St).cells p).toArray:=by
 have:=h.set_ 22 (.string ⟨#[]⟩);simpa[St.cells]using this
theorem IU{w:World}{g:Nat}{t:TypeId}{s:St}{p:StP}(h:Blk w g t (s.cells p).toArray):Blk ((((((w.setCell ⟨g,8,none⟩ (.string ⟨#[]⟩)).setCell ⟨g,9,none⟩ (.int .i64 0)).setCell ⟨g,10,none⟩ (.int .i64 0)).setCell ⟨g,11,none⟩ (.string ⟨#[]⟩)).setCell ⟨g,12,none⟩ (.string ⟨#[]⟩)).setCell ⟨g,13,none⟩ (.slice none 0 0)) g t (({s with chk:=AL}:St).cells ({p with chk:=⟨none,0⟩}:StP)).toArray:=by
 have:=(((((h.set_ 8 (.string ⟨#[]⟩)).set_ 9 (.int .i64 0)).set_ 10 (.int .i64 0)).set_ 11 (.string ⟨#[]⟩)).set_ 12 (.string ⟨#[]⟩)).set_ 13 (.slice none 0 0);simpa[St.cells,AL,Ex.op,Ex.v,Ex.s,Ex.l,V.zero]using this
theorem Jo{w:World}{g:Nat}{t:TypeId}{s:St}{p:StP}(h:Blk w g t (s.cells p).toArray):Blk ((((((w.setCell ⟨g,16,none⟩ (.string ⟨#[]⟩)).setCell ⟨g,17,none⟩ (.int .i64 0)).setCell ⟨g,18,none⟩ (.int .i64 0)).setCell ⟨g,19,none⟩ (.string ⟨#[]⟩)).setCell ⟨g,20,none⟩ (.string ⟨#[]⟩)).setCell ⟨g,21,none⟩ (.slice none 0 0)) g t (({s with whr:=AL}:St).cells ({p with whr:=⟨none,0⟩}:StP)).toArray:=by
 have:=(((((h.set_ 16 (.string ⟨#[]⟩)).set_ 17 (.int .i64 0)).set_ 18 (.int .i64 0)).set_ 19 (.string ⟨#[]⟩)).set_ 20 (.string ⟨#[]⟩)).set_ 21 (.slice none 0 0);simpa[St.cells,AL,Ex.op,Ex.v,Ex.s,Ex.l,V.zero]using this
theorem Au:(Tryz.prog.info? 34).map (·.size)=some 23:=by kernel_rfl
theorem IY(s:St)(p:StP):(s.cells p).toArray.all (·.oneCell')=true:=by simp[St.cells,Value.oneCell']
theorem Ap{P:Program}{ops:Array Oper}{rest:List Oper}{o:Oper}{a:Act}{w:World}{Q:Exit->Act->World->Prop}(hw:Region.wanted o (yielded ops a.tmps)=true)(ty:TypeId)(x:Operand)(ho:o.op=.load ty x)
 (g:Nat)(hx:a.eval x=.pointer (some ⟨g,0,none⟩))(t:TypeId)(cs:Array Value)(fr:Nat×Nat)(d:TypeDesc)(hg:w.heap[g]? = some (.cells cs t fr))
 (hu:P.underlying ty=some d)(hd:(match d with | .struct _ | .array _ _=>true|_=>false)=true)(hi:(P.info? ty).map (·.size)=some cs.size)
 (h:wpList P ops Q rest (a.put o.dst (.agg cs)) w):wpList P ops Q (o::rest) a w:=
 wpList_step λK hK=>by rw[if_pos hw];exact wp_load_row ty x ho g hx t cs fr d hg hu hd hi (hK _ _ h)
theorem sl0{α:Type}:([]:List α).length<=1000:=Nat.zero_le _
end Go.Proofs.YtchilcchogcibaaGreatDoor
