/- The document's Same of two statements as a plain function. -/
import Derived.Test.YtchilcchogcibaaGreatDoorFR5Law
set_option maxRecDepth 100000
set_option maxHeartbeats 8000000
namespace Go.Proofs.YtchilcchogcibaaGreatDoor
open Go.RowKit
theorem Qg(n:List UInt8)(t:Int)(b:Bool)(n':List UInt8)(t':Int)(b':Bool)(w:World):
  (binOp .neq 96 (.agg #[.string ⟨n.toArray⟩,.int .i64 t,.bool b]) (.agg #[.string ⟨n'.toArray⟩,.int .i64 t',.bool b'])).run Tryz.prog w=.ok (.bool (!Jm ⟨n,t,b⟩ ⟨n',t',b'⟩)) w:=by
 by_cases h1:n=n'<;>by_cases h2:t=t'<;>by_cases h3:b=b'<;>simp[go_sem,Jm,h1,h2,h3,Tryz.underlying96,Tryz.underlying3,Tryz.underlying4,Tryz.underlying9]
theorem TV(n t n' t':List UInt8)(w:World):
  (binOp .neq 74 (.agg #[.string ⟨n.toArray⟩,.string ⟨t.toArray⟩]) (.agg #[.string ⟨n'.toArray⟩,.string ⟨t'.toArray⟩])).run Tryz.prog w=.ok (.bool (!rfB ⟨n,t⟩ ⟨n',t'⟩)) w:=by
 by_cases h1:n=n'<;>by_cases h2:t=t'<;>simp[go_sem,rfB,h1,h2,Tryz.underlying74,Tryz.underlying9]
attribute [local go_sem] ByteArray.extract_mk Ak AY
attribute [local go_sem ↓] Go.wp_at_zero Go.wp_at_succ CE Qg TV
def StM(m:Nat)(s:St)(p:StP)(Q:Nat->Prop)(w:World):Prop:=StH s p m m m Q w
theorem StM.keep{m:Nat}{s:St}{p:StP}{Q Q':Nat->Prop}{w w':World}(h:StM m s p Q w)(hk:∀b,Q b->Q' b/\∀o,w'.cell? ⟨b,o,none⟩=w.cell? ⟨b,o,none⟩):StM m s p Q' w':=StH.keep h hk
theorem StH.ups{s:St}{p:StP}{kc ks kw:Nat}{Q:Nat->Prop}{w:World}(h:StH s p kc ks kw Q w){m:Nat}(h1:kc<=m)(h2:ks<=m)(h3:kw<=m):StM m s p Q w:=by
 obtain⟨g1,g2,g3,g4,g5,g6,g7,g8⟩:=h;exact⟨g1,g2,g3,g4,g5.ups m h1,g6,g7.ups h2,g8.ups m h3⟩
def St.lens(s:St):Prop:=s.names.length<=1000/\s.cols.length<=1000/\s.uniq.length<=1000/\s.refs.length<=1000/\s.row.length<=1000/\s.sets.length<=1000/\s.chk.l.length<=maxLen/\s.whr.l.length<=maxLen/\∀x∈s.sets,x.e.l.length<=maxLen
def GL{α:Type}(q:α->α->Bool)(a b:List α)(j:Nat):Bool:=((a.zip b).drop j).all λp=>q p.1 p.2
theorem JQ{α:Type}{q:α->α->Bool}{a b:List α}{j:Nat}{x y:α}(hx:a[j]? = some x)(hy:b[j]? = some y):GL q a b j=(q x y&&GL q a b (j+1)):=by
 have hz:(a.zip b)[j]? = some (x,y):=by rw[List.getElem?_zip_eq_some];exact⟨hx,hy⟩
 obtain⟨hj',e⟩:=List.getElem?_eq_some_iff.1 hz;unfold GL;rw[List.drop_eq_getElem_cons hj',List.all_cons,e]
theorem Hg{α:Type}{q:α->α->Bool}{a b:List α}{j:Nat}(h:a.length<=j):GL q a b j=true:=by
 unfold GL;rw[List.drop_of_length_le (by rw[List.length_zip];omega)];rfl
theorem WH{α:Type}(q:α->α->Bool)(a b:List α):Ig q a b=(decide (a.length=b.length)&&GL q a b 0):=rfl
def Ux(m:Nat)(a b:St):Bool:=(a.op==b.op)&&((a.tb==b.tb)&&((a.ot==b.ot)&&((a.key==b.key)&&((a.role==b.role)&&(Dw m a.chk b.chk&&Dw m a.whr b.whr)))))
def RZ(a b:St):Bool:=decide (a.names.length=b.names.length)&&(decide (a.cols.length=b.cols.length)&&(decide (a.uniq.length=b.uniq.length)&&(decide (a.refs.length=b.refs.length)&&(decide (a.row.length=b.row.length)&&decide (a.sets.length=b.sets.length)))))
theorem Qb(m:Nat)(a b:St):Ji m a b=(Ux m a b&&(RZ a b&&(GL (λx y=>x==y) a.names b.names 0&&(GL Jm a.cols b.cols 0&&(GL (λx y=>x==y) a.uniq b.uniq 0&&(GL rfB a.refs b.refs 0&&(GL veq a.row b.row 0&&GL (seB m) a.sets b.sets 0))))))):=by
 unfold Ji Ux RZ;simp only[WH];rw[Bool.eq_iff_iff];simp only[Bool.and_eq_true]
 constructor
 ·rintro⟨⟨⟨⟨⟨⟨⟨⟨⟨⟨⟨⟨h1,h2⟩,h3⟩,h4⟩,h5⟩,h6⟩,h7⟩,l1,z1⟩,l2,z2⟩,l3,z3⟩,l4,z4⟩,l5,z5⟩,l6,z6⟩;exact⟨⟨h1,h2,h3,h4,h5,h6,h7⟩,⟨l1,l2,l3,l4,l5,l6⟩,z1,z2,z3,z4,z5,z6⟩
 ·rintro⟨⟨h1,h2,h3,h4,h5,h6,h7⟩,⟨l1,l2,l3,l4,l5,l6⟩,z1,z2,z3,z4,z5,z6⟩;exact⟨⟨⟨⟨⟨⟨⟨⟨⟨⟨⟨⟨h1,h2⟩,h3⟩,h4⟩,h5⟩,h6⟩,h7⟩,l1,z1⟩,l2,z2⟩,l3,z3⟩,l4,z4⟩,l5,z5⟩,l6,z6⟩
theorem aO(m:Nat)(a b:St)(p q:StP)(w:World)(ha:a.lens)(hb:b.lens)(hA:StM m a p (Old w.heap.size) w)(hB:StM m b q (Old w.heap.size) w):
  Calls Tryz.prog 28 #[.agg (a.cells p).toArray,.agg (b.cells q).toArray] w (Ret (.bool (Ji m a b)) w):=by
 obtain⟨n1,n2,n3,n4,n5,n6,n7,n8,n9⟩:=ha;obtain⟨k1,k2,k3,k4,k5,k6,-,-,-⟩:=hb;obtain⟨w0,hw0⟩:∃w0,(w.alloc (.cells (a.cells p).toArray 34)).alloc (.cells (b.cells q).toArray 34)=w0:=⟨_,rfl⟩;have ka0:Blk w0 w.heap.size 34 (a.cells p).toArray:=by rw[<-hw0];exact(Blk.new _ _ _).alloc _
 have kb0:Blk w0 (w.heap.size+1) 34 (b.cells q).toArray:=by rw[<-hw0];exact Blk.new' _ _ _ _ (by simp)
 have hb0:Below w.heap.size w w0:=by rw[<-hw0];exact bl
 have hz0:=hb0.size;have HSA:Hid (∀Z:World,Below w0.heap.size w0 Z->StC a p w.heap.size Z):=λZ hz=>(ka0.below hz ka0.lt).st
 have HSB:Hid (∀Z:World,Below w0.heap.size w0 Z->StC b q (w.heap.size+1) Z):=λZ hz=>(kb0.below hz kb0.lt).st
 have HMA:Hid (∀Z:World,Below w0.heap.size w0 Z->StM m a p (Old Z.heap.size) Z):=λZ hz=>hA.keep (DK (hb0.trans (hz.mono hz0)) (Nat.le_trans hz0 hz.size))
 have HMB:Hid (∀Z:World,Below w0.heap.size w0 Z->StM m b q (Old Z.heap.size) Z):=λZ hz=>hB.keep (DK (hb0.trans (hz.mono hz0)) (Nat.le_trans hz0 hz.size))
 have HBW:Hid (∀Z:World,Below w0.heap.size w0 Z->Below w.heap.size w Z):=λZ hz=>hb0.trans (hz.mono hz0)
 have HLT:Hid (w.heap.size+1<w0.heap.size):=kb0.lt;have HX:Hid (∀(x y:Ex) (A B:Option Addr) (c d:Nat) (Z:World),x.l.length<=maxLen->ExS 1000 m Z Z.heap.size A x.l->ExS 1000 m Z Z.heap.size B y.l->Calls Tryz.prog 56 #[.agg #[.string ⟨x.op.toArray⟩,.int .i64 x.v.k,.int .i64 x.v.i,.string ⟨x.v.s.toArray⟩,.string ⟨x.s.toArray⟩,.slice A x.l.length c],.agg #[.string ⟨y.op.toArray⟩,.int .i64 y.v.k,.int .i64 y.v.i,.string ⟨y.v.s.toArray⟩,.string ⟨y.s.toArray⟩,.slice B y.l.length d]] Z (Ret (.bool (Dw m x y)) Z)):=λx y A B c d Z h1 h2 h3=>Vg m x y A B c d Z h1 h2 h3
 have HW:=Lib.hid hw0;obtain⟨R,hR⟩:∃R,Ji m a b=R:=⟨_,rfl⟩;rw[hR];rw[Qb]at hR;obtain⟨HD,eHD⟩:∃x,Ux m a b=x:=⟨_,rfl⟩;obtain⟨LN,eLN⟩:∃x,RZ a b=x:=⟨_,rfl⟩;obtain⟨Z1,eZ1⟩:∃x,GL (λx y=>x==y) a.names b.names 0=x:=⟨_,rfl⟩;obtain⟨Z2,eZ2⟩:∃x,GL Jm a.cols b.cols 0=x:=⟨_,rfl⟩;obtain⟨Z3,eZ3⟩:∃x,GL (λx y=>x==y) a.uniq b.uniq 0=x:=⟨_,rfl⟩;obtain⟨Z4,eZ4⟩:∃x,GL rfB a.refs b.refs 0=x:=⟨_,rfl⟩;obtain⟨Z5,eZ5⟩:∃x,GL veq a.row b.row 0=x:=⟨_,rfl⟩;obtain⟨Z6,eZ6⟩:∃x,GL (seB m) a.sets b.sets 0=x:=⟨_,rfl⟩;rw[eHD,eLN,eZ1,eZ2,eZ3,eZ4,eZ5,eZ6]at hR;have HHD:=Lib.hid eHD;have HLN:=Lib.hid eLN;have HZ1:=Lib.hid eZ1;have HZ2:=Lib.hid eZ2;have HZ3:=Lib.hid eZ3;have HZ4:=Lib.hid eZ4;have HZ5:=Lib.hid eZ5;have HZ6:=Lib.hid eZ6;have HR:=Lib.hid hR;have HN9:=Lib.hid n9;have HN78:=Lib.hid (And.intro n7 n8);have hc0:Below w0.heap.size w0 w0:=Below.refl _ _;clear hw0 hA hB ka0 kb0 hb0 hR eHD eLN eZ1 eZ2 eZ3 eZ4 eZ5 eZ6 n7 n8 n9;go_in
 go_upto_region 1 with fail
 rw[show World.alloc _ _=w0 from HW.out];clear HW;go_cut [59] (λg wx=>g=.bool (!HD)/\Below w0.heap.size w0 wx)
 case first=>as_aux_lemma=>
  have hh:=HHD.out;unfold Ux at hh;obtain⟨-,-,-,-,mc,-,-,-⟩:=HMA.out w0 hc0;obtain⟨-,-,-,-,mc2,-,-,-⟩:=HMB.out w0 hc0;have HC1:=Lib.hid (HX.out a.chk b.chk p.chk.a q.chk.a p.chk.c q.chk.c w0 HN78.out.1 (Ed mc (Nat.le_refl _)) (Ed mc2 (Nat.le_refl _)));have HC2:Hid (∀Z:World,Below w0.heap.size w0 Z->Calls Tryz.prog 56 #[.agg #[.string ⟨a.whr.op.toArray⟩,.int .i64 a.whr.v.k,.int .i64 a.whr.v.i,.string ⟨a.whr.v.s.toArray⟩,.string ⟨a.whr.s.toArray⟩,.slice p.whr.a a.whr.l.length p.whr.c],.agg #[.string ⟨b.whr.op.toArray⟩,.int .i64 b.whr.v.k,.int .i64 b.whr.v.i,.string ⟨b.whr.v.s.toArray⟩,.string ⟨b.whr.s.toArray⟩,.slice q.whr.a b.whr.l.length q.whr.c]] Z (Ret (.bool (Dw m a.whr b.whr)) Z)):=λZ hz=>HX.out a.whr b.whr p.whr.a q.whr.a p.whr.c q.whr.c Z HN78.out.2 (Ed (HMA.out Z hz).2.2.2.2.2.2.2 (Nat.le_refl _)) (Ed (HMB.out Z hz).2.2.2.2.2.2.2 (Nat.le_refl _))
  clear mc mc2;obtain⟨O1,h1⟩:∃x,(a.op==b.op)=x:=⟨_,rfl⟩;obtain⟨O2,h2⟩:∃x,(a.tb==b.tb)=x:=⟨_,rfl⟩;obtain⟨O3,h3⟩:∃x,(a.ot==b.ot)=x:=⟨_,rfl⟩;obtain⟨O4,h4⟩:∃x,(a.key==b.key)=x:=⟨_,rfl⟩;obtain⟨O5,h5⟩:∃x,(a.role==b.role)=x:=⟨_,rfl⟩;obtain⟨O6,h6⟩:∃x,Dw m a.chk b.chk=x:=⟨_,rfl⟩;obtain⟨O7,h7⟩:∃x,Dw m a.whr b.whr=x:=⟨_,rfl⟩;rw[h1,h2,h3,h4,h5,h6,h7]at hh;rw[h6]at HC1;rw[h7]at HC2;have g1:Hid ((a.op==b.op)=O1):=h1;have g2:Hid ((a.tb==b.tb)=O2):=h2;have g3:Hid ((a.ot==b.ot)=O3):=h3;have g4:Hid ((a.key==b.key)=O4):=h4;have g5:Hid ((a.role==b.role)=O5):=h5;have HH:=Lib.hid hh;clear hh h1 h2 h3 h4 h5 h6 h7 HHD;cases O1 with
  |false=>
   have hd:HD=false:=by rw[<-HH.out];rfl
   subst hd;clear HH HC1 HC2 g2 g3 g4 g5;obtain⟨x0,-,-,-,-,-,-,-,-,-,-,-,-,-,-,-,-,-,-,-,-,-,-⟩:=HSA.out w0 hc0;obtain⟨y0,-,-,-,-,-,-,-,-,-,-,-,-,-,-,-,-,-,-,-,-,-,-⟩:=HSB.out w0 hc0;have q1:¬a.op=b.op:=by have:=g1.out;simpa using this
   have q2:(a.op==b.op)=false:=g1.out;have q3:(a.op != b.op)=true:=by simpa using q1
   go_wp2_with fail;go_meet;exact⟨rfl,hc0⟩
  |true=>
   cases O2 with
   |false=>
    have hd:HD=false:=by rw[<-HH.out];rfl
    subst hd;clear HH HC1 HC2 g3 g4 g5;obtain⟨x0,x1,-,-,-,-,-,-,-,-,-,-,-,-,-,-,-,-,-,-,-,-,-⟩:=HSA.out w0 hc0;obtain⟨y0,y1,-,-,-,-,-,-,-,-,-,-,-,-,-,-,-,-,-,-,-,-,-⟩:=HSB.out w0 hc0;have q1:a.op=b.op:=by have:=g1.out;simpa using this
    rw[<-q1]at y0;clear q1;have q1:¬a.tb=b.tb:=by have:=g2.out;simpa using this
    have q2:(a.tb==b.tb)=false:=g2.out;have q3:(a.tb != b.tb)=true:=by simpa using q1
    go_wp2_with fail;go_meet;exact⟨rfl,hc0⟩
   |true=>
    cases O3 with
    |false=>
     have hd:HD=false:=by rw[<-HH.out];rfl
     subst hd;clear HH HC1 HC2 g4 g5;obtain⟨x0,x1,x2,-,-,-,-,-,-,-,-,-,-,-,-,-,-,-,-,-,-,-,-⟩:=HSA.out w0 hc0;obtain⟨y0,y1,y2,-,-,-,-,-,-,-,-,-,-,-,-,-,-,-,-,-,-,-,-⟩:=HSB.out w0 hc0;have q1:a.op=b.op:=by have:=g1.out;simpa using this
     rw[<-q1]at y0;clear q1;have q2:a.tb=b.tb:=by have:=g2.out;simpa using this
     rw[<-q2]at y1;clear q2;have q1:¬a.ot=b.ot:=by have:=g3.out;simpa using this
     have q2:(a.ot==b.ot)=false:=g3.out;have q3:(a.ot != b.ot)=true:=by simpa using q1
     go_wp2_with fail;go_meet;exact⟨rfl,hc0⟩
    |true=>
     cases O4 with
     |false=>
      have hd:HD=false:=by rw[<-HH.out];rfl
      subst hd;clear HH HC1 HC2 g5;obtain⟨x0,x1,x2,-,-,x5,-,-,-,-,-,-,-,-,-,-,-,-,-,-,-,-,-⟩:=HSA.out w0 hc0;obtain⟨y0,y1,y2,-,-,y5,-,-,-,-,-,-,-,-,-,-,-,-,-,-,-,-,-⟩:=HSB.out w0 hc0;have q1:a.op=b.op:=by have:=g1.out;simpa using this
      rw[<-q1]at y0;clear q1;have q2:a.tb=b.tb:=by have:=g2.out;simpa using this
      rw[<-q2]at y1;clear q2;have q3:a.ot=b.ot:=by have:=g3.out;simpa using this
      rw[<-q3]at y2;clear q3;have q1:¬a.key=b.key:=by have:=g4.out;simpa using this
      have q2:(a.key==b.key)=false:=g4.out;have q3:(a.key != b.key)=true:=by simpa using q1
      go_wp2_with fail;go_meet;exact⟨rfl,hc0⟩
     |true=>
      cases O5 with
      |false=>
       have hd:HD=false:=by rw[<-HH.out];rfl
       subst hd;clear HH HC1 HC2;obtain⟨x0,x1,x2,-,-,x5,-,-,-,-,-,-,-,-,-,-,-,-,-,-,-,-,x22⟩:=HSA.out w0 hc0;obtain⟨y0,y1,y2,-,-,y5,-,-,-,-,-,-,-,-,-,-,-,-,-,-,-,-,y22⟩:=HSB.out w0 hc0;have q1:a.op=b.op:=by have:=g1.out;simpa using this
       rw[<-q1]at y0;clear q1;have q2:a.tb=b.tb:=by have:=g2.out;simpa using this
       rw[<-q2]at y1;clear q2;have q3:a.ot=b.ot:=by have:=g3.out;simpa using this
       rw[<-q3]at y2;clear q3;have q4:a.key=b.key:=by have:=g4.out;simpa using this
       rw[<-q4]at y5;clear q4;have q1:¬a.role=b.role:=by have:=g5.out;simpa using this
       have q2:(a.role==b.role)=false:=g5.out;have q3:(a.role != b.role)=true:=by simpa using q1
       go_wp2_with fail;go_meet;exact⟨rfl,hc0⟩
      |true=>
       cases O6 with
       |false=>
        have hd:HD=false:=by rw[<-HH.out];rfl
        subst hd;clear HH HC2;obtain⟨x0,x1,x2,-,-,x5,-,-,x8,x9,x10,x11,x12,x13,-,-,-,-,-,-,-,-,x22⟩:=HSA.out w0 hc0;obtain⟨y0,y1,y2,-,-,y5,-,-,y8,y9,y10,y11,y12,y13,-,-,-,-,-,-,-,-,y22⟩:=HSB.out w0 hc0;have q1:a.op=b.op:=by have:=g1.out;simpa using this
        rw[<-q1]at y0;clear q1;have q2:a.tb=b.tb:=by have:=g2.out;simpa using this
        rw[<-q2]at y1;clear q2;have q3:a.ot=b.ot:=by have:=g3.out;simpa using this
        rw[<-q3]at y2;clear q3;have q4:a.key=b.key:=by have:=g4.out;simpa using this
        rw[<-q4]at y5;clear q4;have q5:a.role=b.role:=by have:=g5.out;simpa using this
        rw[<-q5]at y22;clear q5;go_wp2_with fail;refine HC1.out.mono ?_;rintro en w1 ⟨rfl,hb1⟩;go_wp2_with fail;go_meet;exact⟨rfl,hb1⟩
       |true=>
        have hd:HD=O7:=by rw[<-HH.out];rfl
        subst hd;clear HH;obtain⟨x0,x1,x2,-,-,x5,-,-,x8,x9,x10,x11,x12,x13,-,-,-,-,-,-,-,-,x22⟩:=HSA.out w0 hc0;obtain⟨y0,y1,y2,-,-,y5,-,-,y8,y9,y10,y11,y12,y13,-,-,-,-,-,-,-,-,y22⟩:=HSB.out w0 hc0;have q1:a.op=b.op:=by have:=g1.out;simpa using this
        rw[<-q1]at y0;clear q1;have q2:a.tb=b.tb:=by have:=g2.out;simpa using this
        rw[<-q2]at y1;clear q2;have q3:a.ot=b.ot:=by have:=g3.out;simpa using this
        rw[<-q3]at y2;clear q3;have q4:a.key=b.key:=by have:=g4.out;simpa using this
        rw[<-q4]at y5;clear q4;have q5:a.role=b.role:=by have:=g5.out;simpa using this
        rw[<-q5]at y22;clear q5;go_wp2_with fail;refine HC1.out.mono ?_;rintro en w1 ⟨rfl,hb1⟩;clear x0 x1 x2 x5 x22 x8 x9 x10 x11 x12 x13 y0 y1 y2 y5 y22 y8 y9 y10 y11 y12 y13 g1 g2 g3 g4 g5;obtain⟨-,-,-,-,-,-,-,-,-,-,-,-,-,-,-,-,x16,x17,x18,x19,x20,x21,-⟩:=HSA.out w1 hb1;obtain⟨-,-,-,-,-,-,-,-,-,-,-,-,-,-,-,-,y16,y17,y18,y19,y20,y21,-⟩:=HSB.out w1 hb1;have HC3:=Lib.hid (HC2.out w1 hb1);have hz1:=hb1.size;go_wp2_with fail;refine HC3.out.mono ?_;rintro en w2 ⟨rfl,hb2⟩;go_wp2_with fail;go_meet;exact⟨rfl,hb1.trans (hb2.mono hz1)⟩
 obtain⟨rfl,hcc⟩:=hcut;obtain⟨W1,rfl⟩:∃W,W=wc:=⟨_,rfl⟩;cases HD with
 |false=>
  have hr:R=false:=by rw[<-HR.out];rfl
  subst hr;go_wp2_with fail;go_ret;exact⟨rfl,HBW.out _ hcc⟩
 |true=>
 have HR1:Hid ((LN&&(Z1&&(Z2&&(Z3&&(Z4&&(Z5&&Z6))))))=R):=HR.out;clear HR;go_upto_region 3 with fail
 go_cut [111] (λg wx=>g=.bool (!LN)/\Below w0.heap.size w0 wx)
 case first=>as_aux_lemma=>
  have hh:=HLN.out;unfold RZ at hh;obtain⟨O1,h1⟩:∃x,decide (a.names.length=b.names.length)=x:=⟨_,rfl⟩;obtain⟨O2,h2⟩:∃x,decide (a.cols.length=b.cols.length)=x:=⟨_,rfl⟩;obtain⟨O3,h3⟩:∃x,decide (a.uniq.length=b.uniq.length)=x:=⟨_,rfl⟩;obtain⟨O4,h4⟩:∃x,decide (a.refs.length=b.refs.length)=x:=⟨_,rfl⟩;obtain⟨O5,h5⟩:∃x,decide (a.row.length=b.row.length)=x:=⟨_,rfl⟩;obtain⟨O6,h6⟩:∃x,decide (a.sets.length=b.sets.length)=x:=⟨_,rfl⟩;rw[h1,h2,h3,h4,h5,h6]at hh;have g1:((a.names.length:Int) != (b.names.length:Int)) = !O1:=by rw[<-h1,Bool.eq_iff_iff];simp;omega
  have g2:((a.cols.length:Int) != (b.cols.length:Int)) = !O2:=by rw[<-h2,Bool.eq_iff_iff];simp;omega
  have g3:((a.uniq.length:Int) != (b.uniq.length:Int)) = !O3:=by rw[<-h3,Bool.eq_iff_iff];simp;omega
  have g4:((a.refs.length:Int) != (b.refs.length:Int)) = !O4:=by rw[<-h4,Bool.eq_iff_iff];simp;omega
  have g5:((a.row.length:Int) != (b.row.length:Int)) = !O5:=by rw[<-h5,Bool.eq_iff_iff];simp;omega
  have g6:((a.sets.length:Int) != (b.sets.length:Int)) = !O6:=by rw[<-h6,Bool.eq_iff_iff];simp;omega
  have HH:=Lib.hid hh;clear hh h1 h2 h3 h4 h5 h6 HLN;cases O1 with
  |false=>
   have hd:LN=false:=by rw[<-HH.out];rfl
   subst hd;clear HH g2 g3 g4 g5 g6;obtain⟨-,-,-,x3,-,-,-,-,-,-,-,-,-,-,-,-,-,-,-,-,-,-,-⟩:=HSA.out W1 hcc;obtain⟨-,-,-,y3,-,-,-,-,-,-,-,-,-,-,-,-,-,-,-,-,-,-,-⟩:=HSB.out W1 hcc;go_wp2_with fail;go_meet;exact⟨rfl,hcc⟩
  |true=>
   cases O2 with
   |false=>
    have hd:LN=false:=by rw[<-HH.out];rfl
    subst hd;clear HH g3 g4 g5 g6;obtain⟨-,-,-,x3,x4,-,-,-,-,-,-,-,-,-,-,-,-,-,-,-,-,-,-⟩:=HSA.out W1 hcc;obtain⟨-,-,-,y3,y4,-,-,-,-,-,-,-,-,-,-,-,-,-,-,-,-,-,-⟩:=HSB.out W1 hcc;go_wp2_with fail;go_meet;exact⟨rfl,hcc⟩
   |true=>
    cases O3 with
    |false=>
     have hd:LN=false:=by rw[<-HH.out];rfl
     subst hd;clear HH g4 g5 g6;obtain⟨-,-,-,x3,x4,-,x6,-,-,-,-,-,-,-,-,-,-,-,-,-,-,-,-⟩:=HSA.out W1 hcc;obtain⟨-,-,-,y3,y4,-,y6,-,-,-,-,-,-,-,-,-,-,-,-,-,-,-,-⟩:=HSB.out W1 hcc;go_wp2_with fail;go_meet;exact⟨rfl,hcc⟩
    |true=>
     cases O4 with
     |false=>
      have hd:LN=false:=by rw[<-HH.out];rfl
      subst hd;clear HH g5 g6;obtain⟨-,-,-,x3,x4,-,x6,x7,-,-,-,-,-,-,-,-,-,-,-,-,-,-,-⟩:=HSA.out W1 hcc;obtain⟨-,-,-,y3,y4,-,y6,y7,-,-,-,-,-,-,-,-,-,-,-,-,-,-,-⟩:=HSB.out W1 hcc;go_wp2_with fail;go_meet;exact⟨rfl,hcc⟩
     |true=>
      cases O5 with
      |false=>
       have hd:LN=false:=by rw[<-HH.out];rfl
       subst hd;clear HH g6;obtain⟨-,-,-,x3,x4,-,x6,x7,-,-,-,-,-,-,x14,-,-,-,-,-,-,-,-⟩:=HSA.out W1 hcc;obtain⟨-,-,-,y3,y4,-,y6,y7,-,-,-,-,-,-,y14,-,-,-,-,-,-,-,-⟩:=HSB.out W1 hcc;go_wp2_with fail;go_meet;exact⟨rfl,hcc⟩
      |true=>
       have hd:LN=O6:=by rw[<-HH.out];rfl
       subst hd;clear HH;obtain⟨-,-,-,x3,x4,-,x6,x7,-,-,-,-,-,-,x14,x15,-,-,-,-,-,-,-⟩:=HSA.out W1 hcc;obtain⟨-,-,-,y3,y4,-,y6,y7,-,-,-,-,-,-,y14,y15,-,-,-,-,-,-,-⟩:=HSB.out W1 hcc;go_wp2_with fail;go_meet;exact⟨rfl,hcc⟩
 obtain⟨rfl,hcd⟩:=hcut;obtain⟨W2,rfl⟩:∃W,W=wc:=⟨_,rfl⟩;cases LN with
 |false=>
  have hr:R=false:=by rw[<-HR1.out];rfl
  subst hr;go_wp2_with fail;go_ret;exact⟨rfl,HBW.out _ hcd⟩
 |true=>
 have hln:=HLN.out;unfold RZ at hln;simp only[Bool.and_eq_true,decide_eq_true_eq]at hln;obtain⟨l1,l2,l3,l4,l5,l6⟩:=hln;have HR2:Hid ((Z1&&(Z2&&(Z3&&(Z4&&(Z5&&Z6)))))=R):=HR1.out;have HL1:=Lib.hid l1;have HL2:=Lib.hid l2;have HL3:=Lib.hid l3;have HL4:=Lib.hid l4;have HL5:=Lib.hid l5;have HL6:=Lib.hid l6;clear HR1 HLN l1 l2 l3 l4 l5 l6;go_wp2_with fail;go_loopw [5] (λi wr=>∃j:Nat,j<=a.names.length/\i=.int .i64 j/\Hid (GL (λx y=>x==y) a.names b.names j=Z1)/\Below w0.heap.size w0 wr) (λi _=>a.names.length - (intOf i).toNat)
 case atStart=>exact⟨0,Nat.zero_le _,rfl,HZ1.out,hcd⟩
 case round=>
  obtain⟨j,hj,rfl,HJ,hbr0⟩:=hrel;obtain⟨V0,rfl⟩:∃W,W=wr:=⟨_,rfl⟩;have hzr:=hbr0.size;obtain⟨-,-,-,xa,-,-,-,-,-,-,-,-,-,-,-,-,-,-,-,-,-,-,-⟩:=HSA.out V0 hbr0;obtain⟨-,-,-,xb,-,-,-,-,-,-,-,-,-,-,-,-,-,-,-,-,-,-,-⟩:=HSB.out V0 hbr0;by_cases hlt:j<a.names.length
  ·have hlt2:j<b.names.length:=by have:=HL1.out;omega
   obtain⟨b1,o1,x,hA1,hbB,hvx,c0⟩:=(HMA.out V0 hbr0).1.at_ hlt;obtain⟨b2,o2,y,hB2,hbB2,hvy,d0⟩:=(HMB.out V0 hbr0).1.at_ hlt2;rw[hA1]at xa;rw[hB2]at xb;have hJ:=HJ.out;rw[JQ hvx hvy]at hJ;obtain⟨T,hT⟩:∃T,(x==y)=T:=⟨_,rfl⟩;have g1:Hid ((x==y)=T):=hT
   try dsimp only at hJ
   rw[hT]at hJ;have i1:(0:Int)<=(j:Int):=by omega
   have i2:(j:Int)<(a.names.length:Int):=by omega
   have i3:(j:Int)<(b.names.length:Int):=by omega
   have HJ2:=Lib.hid hJ;clear hJ hT hA1 hB2 hvx hvy HJ hbB hbB2;cases T with
   |false=>
    have hr:R=false:=by rw[<-HR2.out,<-HJ2.out];rfl
    subst hr;have q1:¬x=y:=by have:=g1.out;simpa using this
    have q2:(x==y)=false:=g1.out;have q3:(x != y)=true:=by simpa using q1
    go_wp2_with fail;go_quiet (fail)
    all_goals go_wp2_with fail
    all_goals go_ret
    all_goals exact⟨rfl,HBW.out _ (by exact bl)⟩
   |true=>
    obtain rfl:x=y:=by have:=g1.out;simpa using this
    go_wp2_with fail;go_quiet (fail)
    all_goals go_wp2_with fail
    all_goals go_roundw
    case rel=>exact⟨j+1,by omega,by go_num,HJ2.out,by exact bl⟩
    case measure=>simp[intOf];omega
  ·have hz:Z1=true:=by rw[<-HJ.out];exact Hg (by omega)
   subst hz;have HR3:Hid ((Z2&&(Z3&&(Z4&&(Z5&&(Z6)))))=R):=HR2.out;have b0:¬((j:Int)<(a.names.length:Int)):=by omega
   clear HJ HR2 HZ1 HL1;go_wp2_with fail;clear xa xb b0 hlt hj;go_loopw [6] (λi wr=>∃j:Nat,j<=a.cols.length/\i=.int .i64 j/\Hid (GL Jm a.cols b.cols j=Z2)/\Below w0.heap.size w0 wr) (λi _=>a.cols.length - (intOf i).toNat)
   case atStart=>exact⟨0,Nat.zero_le _,rfl,HZ2.out,hbr0⟩
   case round=>
    obtain⟨j,hj,rfl,HJ,hbr1⟩:=hrel;obtain⟨V1,rfl⟩:∃W,W=wr:=⟨_,rfl⟩;have hzr:=hbr1.size;obtain⟨-,-,-,-,xa,-,-,-,-,-,-,-,-,-,-,-,-,-,-,-,-,-,-⟩:=HSA.out V1 hbr1;obtain⟨-,-,-,-,xb,-,-,-,-,-,-,-,-,-,-,-,-,-,-,-,-,-,-⟩:=HSB.out V1 hbr1;by_cases hlt:j<a.cols.length
    ·have hlt2:j<b.cols.length:=by have:=HL2.out;omega
     obtain⟨b1,o1,x,hA1,hbB,hvx,c0,c1,c2⟩:=(HMA.out V1 hbr1).2.1.at_ hlt;obtain⟨b2,o2,y,hB2,hbB2,hvy,d0,d1,d2⟩:=(HMB.out V1 hbr1).2.1.at_ hlt2;rw[hA1]at xa;rw[hB2]at xb;have hJ:=HJ.out;rw[JQ hvx hvy]at hJ;obtain⟨T,hT⟩:∃T,Jm x y=T:=⟨_,rfl⟩;have g1:Jm ⟨x.n,x.t,x.b⟩ ⟨y.n,y.t,y.b⟩=T:=hT;rw[hT]at hJ;have i1:(0:Int)<=(j:Int):=by omega
     have i2:(j:Int)<(a.cols.length:Int):=by omega
     have i3:(j:Int)<(b.cols.length:Int):=by omega
     have HJ2:=Lib.hid hJ;clear hJ hT hA1 hB2 hvx hvy HJ hbB hbB2;cases T with
     |false=>
      have hr:R=false:=by rw[<-HR3.out,<-HJ2.out];rfl
      subst hr;go_wp2_with fail;go_quiet (fail)
      all_goals go_wp2_with fail
      all_goals go_ret
      all_goals exact⟨rfl,HBW.out _ (by exact bl)⟩
     |true=>
      go_wp2_with fail;go_quiet (fail)
      all_goals go_wp2_with fail
      all_goals go_roundw
      case rel=>exact⟨j+1,by omega,by go_num,HJ2.out,by exact bl⟩
      case measure=>simp[intOf];omega
    ·have hz:Z2=true:=by rw[<-HJ.out];exact Hg (by omega)
     subst hz;have HR4:Hid ((Z3&&(Z4&&(Z5&&(Z6))))=R):=HR3.out;have b0:¬((j:Int)<(a.cols.length:Int)):=by omega
     clear HJ HR3 HZ2 HL2;go_wp2_with fail;clear xa xb b0 hlt hj;go_loopw [7] (λi wr=>∃j:Nat,j<=a.uniq.length/\i=.int .i64 j/\Hid (GL (λx y=>x==y) a.uniq b.uniq j=Z3)/\Below w0.heap.size w0 wr) (λi _=>a.uniq.length - (intOf i).toNat)
     case atStart=>exact⟨0,Nat.zero_le _,rfl,HZ3.out,hbr1⟩
     case round=>
      obtain⟨j,hj,rfl,HJ,hbr2⟩:=hrel;obtain⟨V2,rfl⟩:∃W,W=wr:=⟨_,rfl⟩;have hzr:=hbr2.size;obtain⟨-,-,-,-,-,-,xa,-,-,-,-,-,-,-,-,-,-,-,-,-,-,-,-⟩:=HSA.out V2 hbr2;obtain⟨-,-,-,-,-,-,xb,-,-,-,-,-,-,-,-,-,-,-,-,-,-,-,-⟩:=HSB.out V2 hbr2;by_cases hlt:j<a.uniq.length
      ·have hlt2:j<b.uniq.length:=by have:=HL3.out;omega
       obtain⟨b1,o1,x,hA1,hbB,hvx,c0⟩:=(HMA.out V2 hbr2).2.2.1.at_ hlt;obtain⟨b2,o2,y,hB2,hbB2,hvy,d0⟩:=(HMB.out V2 hbr2).2.2.1.at_ hlt2;rw[hA1]at xa;rw[hB2]at xb;have hJ:=HJ.out;rw[JQ hvx hvy]at hJ;obtain⟨T,hT⟩:∃T,(x==y)=T:=⟨_,rfl⟩;have g1:Hid ((x==y)=T):=hT
       try dsimp only at hJ
       rw[hT]at hJ;have i1:(0:Int)<=(j:Int):=by omega
       have i2:(j:Int)<(a.uniq.length:Int):=by omega
       have i3:(j:Int)<(b.uniq.length:Int):=by omega
       have HJ2:=Lib.hid hJ;clear hJ hT hA1 hB2 hvx hvy HJ hbB hbB2;cases T with
       |false=>
        have hr:R=false:=by rw[<-HR4.out,<-HJ2.out];rfl
        subst hr;have q1:¬x=y:=by have:=g1.out;simpa using this
        have q2:(x==y)=false:=g1.out;have q3:(x != y)=true:=by simpa using q1
        go_wp2_with fail;go_quiet (fail)
        all_goals go_wp2_with fail
        all_goals go_ret
        all_goals exact⟨rfl,HBW.out _ (by exact bl)⟩
       |true=>
        obtain rfl:x=y:=by have:=g1.out;simpa using this
        go_wp2_with fail;go_quiet (fail)
        all_goals go_wp2_with fail
        all_goals go_roundw
        case rel=>exact⟨j+1,by omega,by go_num,HJ2.out,by exact bl⟩
        case measure=>simp[intOf];omega
      ·have hz:Z3=true:=by rw[<-HJ.out];exact Hg (by omega)
       subst hz;have HR5:Hid ((Z4&&(Z5&&(Z6)))=R):=HR4.out;have b0:¬((j:Int)<(a.uniq.length:Int)):=by omega
       clear HJ HR4 HZ3 HL3;go_wp2_with fail;clear xa xb b0 hlt hj;go_loopw [8] (λi wr=>∃j:Nat,j<=a.refs.length/\i=.int .i64 j/\Hid (GL rfB a.refs b.refs j=Z4)/\Below w0.heap.size w0 wr) (λi _=>a.refs.length - (intOf i).toNat)
       case atStart=>exact⟨0,Nat.zero_le _,rfl,HZ4.out,hbr2⟩
       case round=>
        obtain⟨j,hj,rfl,HJ,hbr3⟩:=hrel;obtain⟨V3,rfl⟩:∃W,W=wr:=⟨_,rfl⟩;have hzr:=hbr3.size;obtain⟨-,-,-,-,-,-,-,xa,-,-,-,-,-,-,-,-,-,-,-,-,-,-,-⟩:=HSA.out V3 hbr3;obtain⟨-,-,-,-,-,-,-,xb,-,-,-,-,-,-,-,-,-,-,-,-,-,-,-⟩:=HSB.out V3 hbr3;by_cases hlt:j<a.refs.length
        ·have hlt2:j<b.refs.length:=by have:=HL4.out;omega
         obtain⟨b1,o1,x,hA1,hbB,hvx,c0,c1⟩:=(HMA.out V3 hbr3).2.2.2.1.at_ hlt;obtain⟨b2,o2,y,hB2,hbB2,hvy,d0,d1⟩:=(HMB.out V3 hbr3).2.2.2.1.at_ hlt2;rw[hA1]at xa;rw[hB2]at xb;have hJ:=HJ.out;rw[JQ hvx hvy]at hJ;obtain⟨T,hT⟩:∃T,rfB x y=T:=⟨_,rfl⟩;have g1:rfB ⟨x.c,x.t⟩ ⟨y.c,y.t⟩=T:=hT;rw[hT]at hJ;have i1:(0:Int)<=(j:Int):=by omega
         have i2:(j:Int)<(a.refs.length:Int):=by omega
         have i3:(j:Int)<(b.refs.length:Int):=by omega
         have HJ2:=Lib.hid hJ;clear hJ hT hA1 hB2 hvx hvy HJ hbB hbB2;cases T with
         |false=>
          have hr:R=false:=by rw[<-HR5.out,<-HJ2.out];rfl
          subst hr;go_wp2_with fail;go_quiet (fail)
          all_goals go_wp2_with fail
          all_goals go_ret
          all_goals exact⟨rfl,HBW.out _ (by exact bl)⟩
         |true=>
          go_wp2_with fail;go_quiet (fail)
          all_goals go_wp2_with fail
          all_goals go_roundw
          case rel=>exact⟨j+1,by omega,by go_num,HJ2.out,by exact bl⟩
          case measure=>simp[intOf];omega
        ·have hz:Z4=true:=by rw[<-HJ.out];exact Hg (by omega)
         subst hz;have HR6:Hid ((Z5&&(Z6))=R):=HR5.out;have b0:¬((j:Int)<(a.refs.length:Int)):=by omega
         clear HJ HR5 HZ4 HL4;go_wp2_with fail;clear xa xb b0 hlt hj;go_loopw [9] (λi wr=>∃j:Nat,j<=a.row.length/\i=.int .i64 j/\Hid (GL veq a.row b.row j=Z5)/\Below w0.heap.size w0 wr) (λi _=>a.row.length - (intOf i).toNat)
         case atStart=>exact⟨0,Nat.zero_le _,rfl,HZ5.out,hbr3⟩
         case round=>
          obtain⟨j,hj,rfl,HJ,hbr4⟩:=hrel;obtain⟨V4,rfl⟩:∃W,W=wr:=⟨_,rfl⟩;have hzr:=hbr4.size;obtain⟨-,-,-,-,-,-,-,-,-,-,-,-,-,-,xa,-,-,-,-,-,-,-,-⟩:=HSA.out V4 hbr4;obtain⟨-,-,-,-,-,-,-,-,-,-,-,-,-,-,xb,-,-,-,-,-,-,-,-⟩:=HSB.out V4 hbr4;by_cases hlt:j<a.row.length
          ·have hlt2:j<b.row.length:=by have:=HL5.out;omega
           obtain⟨b1,o1,x,hA1,hbB,hvx,c0,c1,c2⟩:=(HMA.out V4 hbr4).2.2.2.2.2.1.at_ hlt;obtain⟨b2,o2,y,hB2,hbB2,hvy,d0,d1,d2⟩:=(HMB.out V4 hbr4).2.2.2.2.2.1.at_ hlt2;rw[hA1]at xa;rw[hB2]at xb;have hJ:=HJ.out;rw[JQ hvx hvy]at hJ;obtain⟨T,hT⟩:∃T,veq x y=T:=⟨_,rfl⟩;have g1:veq ⟨x.k,x.i,x.s⟩ ⟨y.k,y.i,y.s⟩=T:=hT;rw[hT]at hJ;have i1:(0:Int)<=(j:Int):=by omega
           have i2:(j:Int)<(a.row.length:Int):=by omega
           have i3:(j:Int)<(b.row.length:Int):=by omega
           have HJ2:=Lib.hid hJ;clear hJ hT hA1 hB2 hvx hvy HJ hbB hbB2;cases T with
           |false=>
            have hr:R=false:=by rw[<-HR6.out,<-HJ2.out];rfl
            subst hr;go_wp2_with fail;go_quiet (fail)
            all_goals go_wp2_with fail
            all_goals go_ret
            all_goals exact⟨rfl,HBW.out _ (by exact bl)⟩
           |true=>
            go_wp2_with fail;go_quiet (fail)
            all_goals go_wp2_with fail
            all_goals go_roundw
            case rel=>exact⟨j+1,by omega,by go_num,HJ2.out,by exact bl⟩
            case measure=>simp[intOf];omega
          ·have hz:Z5=true:=by rw[<-HJ.out];exact Hg (by omega)
           subst hz;have HR7:Hid (Z6=R):=HR6.out;have b0:¬((j:Int)<(a.row.length:Int)):=by omega
           clear HJ HR6 HZ5 HL5;go_wp2_with fail;clear xa xb b0 hlt hj;go_loopw [10] (λi wr=>∃j:Nat,j<=a.sets.length/\i=.int .i64 j/\Hid (GL (seB m) a.sets b.sets j=Z6)/\Below w0.heap.size w0 wr) (λi _=>a.sets.length - (intOf i).toNat)
           case atStart=>exact⟨0,Nat.zero_le _,rfl,HZ6.out,hbr4⟩
           case round=>
            obtain⟨j,hj,rfl,HJ,hbr⟩:=hrel;obtain⟨V,rfl⟩:∃W,W=wr:=⟨_,rfl⟩;have hzr:=hbr.size;obtain⟨-,-,-,-,-,-,-,-,-,-,-,-,-,-,-,xa,-,-,-,-,-,-,-⟩:=HSA.out V hbr;obtain⟨-,-,-,-,-,-,-,-,-,-,-,-,-,-,-,xb,-,-,-,-,-,-,-⟩:=HSB.out V hbr;by_cases hlt:j<a.sets.length
            ·have hlt2:j<b.sets.length:=by have:=HL6.out;omega
             obtain⟨b1,o1,x,A1,e1,hA1,hbB,hvx,c0,-,-,-,⟨c1,c2,c3,c4,c5,c6⟩,mx⟩:=(HMA.out V hbr).2.2.2.2.2.2.1.at_ hlt;obtain⟨b2,o2,y,A2,e2,hB2,hbB2,hvy,d0,-,-,-,⟨d1,d2,d3,d4,d5,d6⟩,my⟩:=(HMB.out V hbr).2.2.2.2.2.2.1.at_ hlt2;rw[hA1]at xa;rw[hB2]at xb;have hJ:=HJ.out;rw[JQ hvx hvy]at hJ;unfold seB at hJ;have lxl:=HN9.out x (List.mem_of_getElem? hvx);have hbA:b1<V.heap.size:=hbB;have hbC:b2<V.heap.size:=hbB2;have HC:Hid (∀Z:World,Below V.heap.size V Z->Calls Tryz.prog 56 #[.agg #[.string ⟨x.e.op.toArray⟩,.int .i64 x.e.v.k,.int .i64 x.e.v.i,.string ⟨x.e.v.s.toArray⟩,.string ⟨x.e.s.toArray⟩,.slice A1 x.e.l.length e1],.agg #[.string ⟨y.e.op.toArray⟩,.int .i64 y.e.v.k,.int .i64 y.e.v.i,.string ⟨y.e.v.s.toArray⟩,.string ⟨y.e.s.toArray⟩,.slice A2 y.e.l.length e2]] Z (Ret (.bool (Dw m x.e y.e)) Z)):=λZ hz=>HX.out x.e y.e A1 A2 e1 e2 Z lxl (((Ed mx (Nat.le_refl _)).below m hz).more hz.size m) (((Ed my (Nat.le_refl _)).below m hz).more hz.size m)
             obtain⟨xN,hxN⟩:∃T,x.n=T:=⟨_,rfl⟩;obtain⟨yN,hyN⟩:∃T,y.n=T:=⟨_,rfl⟩;rw[hxN]at c0;rw[hyN]at d0;rw[hxN,hyN]at hJ;obtain⟨N,hN⟩:∃T,(xN==yN)=T:=⟨_,rfl⟩;obtain⟨T,hT⟩:∃T,Dw m x.e y.e=T:=⟨_,rfl⟩;rw[hN,hT]at hJ;rw[hT]at HC
             skip
             have i1:(0:Int)<=(j:Int):=by omega
             have i2:(j:Int)<(a.sets.length:Int):=by omega
             have i3:(j:Int)<(b.sets.length:Int):=by omega
             have lw:w.heap.size+1<V.heap.size:=by have:=HLT.out;omega
             have HSX:Hid (∀Z:World,Below V.heap.size V Z->(Z.cell? ⟨w.heap.size,15,none⟩=some (.slice (some ⟨b1,o1,none⟩) a.sets.length p.sets.c)/\Z.cell? ⟨w.heap.size+1,15,none⟩=some (.slice (some ⟨b2,o2,none⟩) b.sets.length q.sets.c))/\(Z.cell? ⟨b1,o1+j * 7,none⟩=some (.string ⟨xN.toArray⟩)/\Z.cell? ⟨b1,o1+j * 7+1,none⟩=some (.string ⟨x.e.op.toArray⟩)/\Z.cell? ⟨b1,o1+j * 7+1+1,none⟩=some (.int .i64 x.e.v.k)/\Z.cell? ⟨b1,o1+j * 7+1+2,none⟩=some (.int .i64 x.e.v.i)/\Z.cell? ⟨b1,o1+j * 7+1+3,none⟩=some (.string ⟨x.e.v.s.toArray⟩)/\Z.cell? ⟨b1,o1+j * 7+1+4,none⟩=some (.string ⟨x.e.s.toArray⟩)/\Z.cell? ⟨b1,o1+j * 7+1+5,none⟩=some (.slice A1 x.e.l.length e1))/\(Z.cell? ⟨b2,o2+j * 7,none⟩=some (.string ⟨yN.toArray⟩)/\Z.cell? ⟨b2,o2+j * 7+1,none⟩=some (.string ⟨y.e.op.toArray⟩)/\Z.cell? ⟨b2,o2+j * 7+1+1,none⟩=some (.int .i64 y.e.v.k)/\Z.cell? ⟨b2,o2+j * 7+1+2,none⟩=some (.int .i64 y.e.v.i)/\Z.cell? ⟨b2,o2+j * 7+1+3,none⟩=some (.string ⟨y.e.v.s.toArray⟩)/\Z.cell? ⟨b2,o2+j * 7+1+4,none⟩=some (.string ⟨y.e.s.toArray⟩)/\Z.cell? ⟨b2,o2+j * 7+1+5,none⟩=some (.slice A2 y.e.l.length e2))):=λZ hz=>by
              have f:∀o,Z.cell? ⟨w.heap.size,o,none⟩=V.cell? ⟨w.heap.size,o,none⟩:=λo=>hz.cell (p:=⟨w.heap.size,o,none⟩) (show w.heap.size<_ by omega)
              have f':∀o,Z.cell? ⟨w.heap.size+1,o,none⟩=V.cell? ⟨w.heap.size+1,o,none⟩:=λo=>hz.cell (p:=⟨w.heap.size+1,o,none⟩) lw
              have g:∀o,Z.cell? ⟨b1,o,none⟩=V.cell? ⟨b1,o,none⟩:=λo=>hz.cell (p:=⟨b1,o,none⟩) hbA
              have g':∀o,Z.cell? ⟨b2,o,none⟩=V.cell? ⟨b2,o,none⟩:=λo=>hz.cell (p:=⟨b2,o,none⟩) hbC
              exact⟨⟨(f _).trans xa,(f' _).trans xb⟩,⟨(g _).trans c0,(g _).trans c1,(g _).trans c2,(g _).trans c3,(g _).trans c4,(g _).trans c5,(g _).trans c6⟩,(g' _).trans d0,(g' _).trans d1,(g' _).trans d2,(g' _).trans d3,(g' _).trans d4,(g' _).trans d5,(g' _).trans d6⟩
             have HJ2:=Lib.hid hJ;have HNN:=Lib.hid hN;clear hJ hT hN hxN hyN hA1 hB2 hvx hvy HJ hbB hbB2 mx my lxl;cases N with
             |false=>
              have hr:R=false:=by rw[<-HR7.out,<-HJ2.out];rfl
              subst hr;clear xa xb c0 c1 c2 c3 c4 c5 c6 d0 d1 d2 d3 d4 d5 d6;have hne:¬xN=yN:=by have:=HNN.out;simpa using this
              have g1:(xN != yN)=true:=by simpa using hne
              have g2:(xN==yN)=false:=by simpa using hne
              obtain⟨⟨xa,-⟩,-⟩:=HSX.out V (Below.refl _ _);go_upto_region 33 with fail
              refine rgn HSX λhHeld=>?_
              refine tS [0,1,2,3,4,5,6,7,8,9,10,11,12,13] ?_;iterate 14(refine tC ?_;refine ap ?_)
              refine tN ?_;refine tS [14,15,16,17,18,19,20,21,22,23,24,25,26,27] ?_;iterate 14(refine tX ?_;refine ap ?_)
              refine tN ?_;refine tS [28] (tC ?_);refine ap (tN ?_);refine wpAnyH_done (by kernel_rfl) ?_ _;go_wp2_with fail;go_ret;exact⟨rfl,HBW.out _ (by exact bl)⟩
             |true=>
              clear xa xb c0 c1 c2 c3 c4 c5 c6 d0 d1 d2 d3 d4 d5 d6;obtain rfl:xN=yN:=by have:=HNN.out;simpa using this
              obtain⟨⟨xa,-⟩,-⟩:=HSX.out V (Below.refl _ _);go_upto_region 33 with fail
              refine rgn HSX λhHeld=>?_
              refine tS [0,1,2,3,4,5,6,7,8,9,10,11,12,13,14,15,16,17,18,19,20,21,22,23,24,25] ?_;iterate 26(refine tC ?_;refine ap ?_)
              refine tN ?_;refine rdy 26 λK hK=>?_
              go_simp
              (refine(HC.out _ (by exact bl)).mono ?_)<;>rintro en w9 ⟨rfl,hb9⟩<;>have hz9:=hb9.size<;>(try simp at hz9)
              go_wp2_with fail;refine hK.out _ _ (HSX.out _ (by exact bl)) λhHeld=>?_
              clear hK K;refine ap ?_;refine tS [27,28] ?_;iterate 2(refine tC ?_;refine ap ?_)
              refine tN ?_;refine wpAnyH_done (by kernel_rfl) ?_ _;have hb09:Below w0.heap.size w0 w9:=by exact bl
              cases T with
              |false=>
               have hr:R=false:=by rw[<-HR7.out,<-HJ2.out];rfl
               subst hr;go_wp2_with fail;go_ret;exact⟨rfl,HBW.out _ hb09⟩
              |true=>
               go_wp2_with fail;go_roundw
               case rel=>exact⟨j+1,by omega,by go_num,HJ2.out,hb09⟩
               case measure=>simp[intOf];omega
            ·have hz:Z6=true:=by rw[<-HJ.out];exact Hg (by omega)
             have hr:R=true:=by rw[<-HR7.out];exact hz
             subst hr;have b0:¬((j:Int)<(a.sets.length:Int)):=by omega
             clear HJ;go_wp2_with fail;go_ret;exact⟨rfl,HBW.out _ hbr⟩
end Go.Proofs.YtchilcchogcibaaGreatDoor
