/- The closure of text at what an UPDATE sets, and stmt.created, as plain functions; The parts that a statement's Op names, and whether two statements are the same, in plain words. -/
import Derived.Test.YtchilcchogcibaaGreatDoorFR6a
import Derived.Test.YtchilcchogcibaaGreatDoorFStF
set_option maxRecDepth 100000
set_option maxHeartbeats 8000000
namespace Go.Proofs.YtchilcchogcibaaGreatDoor
section
open Go.RowKit
attribute [local go_sem] ByteArray.extract_mk Ak AY
attribute [local go_sem ↓] Go.wp_at_zero Go.wp_at_succ
theorem Vd(x:Se)(A':Option Addr)(c' m:Nat)(w:World)(h:GG x=true)(hf:x.e.fit 1000)(hfe:D8 13 x.e)(hE:ExS 1000 m w w.heap.size A' x.e.l)(hV:FY w):
  Calls Tryz.prog 89 #[.agg #[.string ⟨x.n.toArray⟩,.string ⟨x.e.op.toArray⟩,.int .i64 x.e.v.k,.int .i64 x.e.v.i,.string ⟨x.e.v.s.toArray⟩,.string ⟨x.e.s.toArray⟩,.slice A' x.e.l.length c']] w (Ret (.string ⟨(Ih x).toArray⟩) w):=by
 have h0:=h;unfold GG at h0;simp only[Bool.and_eq_true]at h0;have hn:=Af h0.1;have hx:=JR h0.2 hfe;obtain⟨w0,hw0⟩:∃w0,w.alloc (.cells #[.string ⟨x.n.toArray⟩,.string ⟨x.e.op.toArray⟩,.int .i64 x.e.v.k,.int .i64 x.e.v.i,.string ⟨x.e.v.s.toArray⟩,.string ⟨x.e.s.toArray⟩,.slice A' x.e.l.length c'] 76)=w0:=⟨_,rfl⟩;have kb0:Blk w0 w.heap.size 76 #[.string ⟨x.n.toArray⟩,.string ⟨x.e.op.toArray⟩,.int .i64 x.e.v.k,.int .i64 x.e.v.i,.string ⟨x.e.v.s.toArray⟩,.string ⟨x.e.s.toArray⟩,.slice A' x.e.l.length c']:=by rw[<-hw0];exact Blk.new _ _ _
 have hb0:Below w.heap.size w w0:=by rw[<-hw0];exact bl
 have hz0:=hb0.size;have HK:Hid (∀Z:World,Below w0.heap.size w0 Z->∀i,Z.cell? ⟨w.heap.size,i,none⟩=(#[.string ⟨x.n.toArray⟩,.string ⟨x.e.op.toArray⟩,.int .i64 x.e.v.k,.int .i64 x.e.v.i,.string ⟨x.e.v.s.toArray⟩,.string ⟨x.e.s.toArray⟩,.slice A' x.e.l.length c']:Array Value)[i]?):=λZ hz i=>(kb0.below hz kb0.lt).cell i
 have HW:=Lib.hid hw0;have HB:=Lib.hid hb0;clear hw0 kb0 hb0;have HC:Hid (∀Y,Below w0.heap.size w0 Y->Calls Tryz.prog 90 #[.agg #[.string ⟨x.e.op.toArray⟩,.int .i64 x.e.v.k,.int .i64 x.e.v.i,.string ⟨x.e.v.s.toArray⟩,.string ⟨x.e.s.toArray⟩,.slice A' x.e.l.length c']] Y (Ret (.string ⟨(FB x.e).toArray⟩) Y)):=λY hY=>by
  have:=Il x.e A' c' m Y hf hfe ((hE.below m (HB.out.trans (hY.mono hz0))).more (Nat.le_trans hz0 hY.size) m) (hV.below (HB.out.trans (hY.mono hz0)));unfold Du at this;rw[h0.2]at this;exact this
 have HSH:Hid (∀Z:World,Below w0.heap.size w0 Z->Z.cell? ⟨w.heap.size,0,none⟩=some (.string ⟨x.n.toArray⟩)/\Z.cell? ⟨w.heap.size,1,none⟩=some (.string ⟨x.e.op.toArray⟩)/\Z.cell? ⟨w.heap.size,2,none⟩=some (.int .i64 x.e.v.k)/\Z.cell? ⟨w.heap.size,3,none⟩=some (.int .i64 x.e.v.i)/\Z.cell? ⟨w.heap.size,4,none⟩=some (.string ⟨x.e.v.s.toArray⟩)/\Z.cell? ⟨w.heap.size,5,none⟩=some (.string ⟨x.e.s.toArray⟩)/\Z.cell? ⟨w.heap.size,6,none⟩=some (.slice A' x.e.l.length c')):=λZ hz=>⟨HK.out Z hz 0,HK.out Z hz 1,HK.out Z hz 2,HK.out Z hz 3,HK.out Z hz 4,HK.out Z hz 5,HK.out Z hz 6⟩
 obtain⟨T,hT⟩:∃T,FB x.e=T:=⟨_,rfl⟩;obtain⟨R,hR⟩:∃R,Ih x=R:=⟨_,rfl⟩;have hR2:x.n++([32,61,32]++T)=R:=by rw[<-hR,<-hT];unfold Ih;simp
 rw[hR];rw[hT]at HC hx;have HR:=Lib.hid hR2;clear hT hR hR2 h0 h hE hV;go_in
 go_upto_region 1 with fail
 rw[HW.out];go_wp2_with fail;refine rgn HSH λhHeld=>?_
 refine tS [0,1,2,3,4] ?_;iterate 5(refine tC ?_;refine ap ?_)
 refine tN ?_;refine rdy 5 λK hK=>?_
 go_simp
 (refine(HC.out _ (by exact bl)).mono ?_)<;>rintro en w5 ⟨rfl,hb5⟩<;>have hz5:=hb5.size<;>(try simp at hz5)
 go_wp2_with fail;refine hK.out _ _ (HSH.out _ (by exact bl)) λhHeld=>?_
 clear hK K;refine ap ?_;refine tS [6,7] ?_;iterate 2(refine tC ?_;refine ap ?_)
 refine tN ?_;refine wpAnyH_done (by kernel_rfl) ?_ _;have hb5':Below w0.heap.size w0 w5:=by exact bl
 have hbf:=HB.out.trans (hb5'.mono hz0);go_wp2_with fail;go_ret;exact⟨by rw[<-HR.out];simp,hbf⟩
theorem Sz(l:List (List UInt8))(x:List UInt8):Eh (l++[x])=Eh l++([32,44,32,85,78,73,81,85,69,32,40,32]++x++[32,41]):=by unfold Eh;simp
theorem Tj(l:List Rf)(x:Rf):Ei (l++[x])=Ei l++([32,44,32,82,69,70,69,82,69,78,67,69,83,32,40,32]++x.c++[32,41,32]++x.t):=by unfold Ei;simp
theorem SI(s:St)(p:StP)(w:World)(hok:s.Ok)(hQ:StQ 1000 s p (Old w.heap.size) w)(hV:FY w)(hc:OA s=true):
  Calls Tryz.prog 86 #[.agg (s.cells p).toArray] w (Ret (.string ⟨([67,82,69,65,84,69,32,84,65,66,76,69,32]++s.tb++[32,40,32]++BM BB (s.cols.map Ij)++[32,44,32,75,69,89,32,40,32]++s.key++[32,41]++Eh s.uniq++Ei s.refs++Bz BB s.chk++[32,41]).toArray⟩) w):=by
 obtain⟨kc,ks,kw,hM⟩:=hQ.h;unfold OA at hc;simp only[Bool.and_eq_true]at hc;obtain⟨⟨⟨⟨c1,c2⟩,c3⟩,c4⟩,c5⟩:=hc;obtain⟨_,n1,a1⟩:=BO c1;obtain⟨_,n3,a3⟩:=BO c3;obtain⟨_,n4,a4⟩:=BO c4;refine Gl s p w λw0 HW ks0 hb0 hz0 HST HB=>?_
 have HM:Hid (∀Y:World,Below w0.heap.size w0 Y->StH s p kc ks kw (Old w.heap.size) Y):=λY hY=>hM.keep (λb hb=>⟨hb,λo=>(hb0.trans (hY.mono hz0)).cell (p:=⟨b,o,none⟩) hb⟩)
 have HM2:∀Y:World,Below w0.heap.size w0 Y->StH s p kc ks kw (Old Y.heap.size) Y:=λY hY=>hM.keep (DK (hb0.trans (hY.mono hz0)) (Nat.le_trans hz0 hY.size))
 have HEV:∀Y:World,Below w0.heap.size w0 Y->FY Y:=λY hY=>hV.below (hb0.trans (hY.mono hz0))
 have hjl:(BM BB (s.cols.map Ij)).length<=2000:=by
  have:=EW Ij 100 s.cols (λc hc=>OD (a1 c hc));have:s.cols.length * (100+3)<=8 * 103:=Nat.mul_le_mul_right _ n1;omega
 have HLI:Hid (∀Y:World,Below w0.heap.size w0 Y->Calls Tryz.prog 149 #[.slice p.cols.a s.cols.length p.cols.c,.func (.func 150) #[] #[]] Y (Ret (.string ⟨(BM BB (s.cols.map Ij)).toArray⟩) Y)):=λY hY=>
  UI p.cols.a p.cols.c s.cols Ij 150 (Go.Proofs.enters_of Tryz.func150 (by kernel_rfl) rfl) Y hok.nC (by omega) (HM2 Y hY).2.1 (λc hc Z hz _=>We c Z (a1 c hc) ((HEV Y hY).below hz).2.2)
 have hcl:=Ez (a:=BB) (by decide) c5 hok.num.1;have HCK:Hid (∀Y:World,Below w0.heap.size w0 Y->Calls Tryz.prog 94 #[.string ⟨#[32,44,32]⟩,.agg #[.string ⟨s.chk.op.toArray⟩,.int .i64 s.chk.v.k,.int .i64 s.chk.v.i,.string ⟨s.chk.v.s.toArray⟩,.string ⟨s.chk.s.toArray⟩,.slice p.chk.a s.chk.l.length p.chk.c]] Y (Ret (.string ⟨(Bz BB s.chk).toArray⟩) Y)):=λY hY=>by
  have:=GV BB s.chk p.chk.a p.chk.c kc Y (by decide) hok.chk hok.num.1 (Ed (HM2 Y hY).2.2.2.2.1 (Nat.le_refl _)) (HEV Y hY);rw[KY c5]at this;exact this
 obtain⟨J,hJ⟩:∃J,BM BB (s.cols.map Ij)=J:=⟨_,rfl⟩;obtain⟨K,hK⟩:∃K,Bz BB s.chk=K:=⟨_,rfl⟩;obtain⟨R,hR⟩:∃R,[67,82,69,65,84,69,32,84,65,66,76,69,32]++s.tb++[32,40,32]++BM BB (s.cols.map Ij)++[32,44,32,75,69,89,32,40,32]++s.key++[32,41]++Eh s.uniq++Ei s.refs++Bz BB s.chk++[32,41]=R:=⟨_,rfl⟩;rw[hR];rw[hJ]at HLI hjl hR;rw[hK]at HCK hcl hR;have HR:Hid ([67,82,69,65,84,69,32,84,65,66,76,69,32]++s.tb++[32,40,32]++J++[32,44,32,75,69,89,32,40,32]++s.key++[32,41]++Eh s.uniq++Ei s.refs++K++[32,41]=R):=hR;have htb:=hok.tb;have hke:=Af c2;obtain⟨NU,hNU⟩:∃N,s.uniq.length=N:=⟨_,rfl⟩;obtain⟨NR,hNR⟩:∃N,s.refs.length=N:=⟨_,rfl⟩;have HNU:=Lib.hid hNU;have HNR:=Lib.hid hNR;have A3:=Lib.hid a3;have A4:=Lib.hid a4;rw[hNU]at n3;rw[hNR]at n4;have HS3:Hid (∀Z:World,Below w0.heap.size w0 Z->Z.cell? ⟨w.heap.size,6,none⟩=some (.slice p.uniq.a NU p.uniq.c)/\Z.cell? ⟨w.heap.size,7,none⟩=some (.slice p.refs.a NR p.refs.c)):=λZ hz=>by
  have:=HST.out Z hz;rw[<-hNU,<-hNR];exact⟨this.2.2.2.2.2.2.1,this.2.2.2.2.2.2.2.1⟩
 clear hJ hK hR HM2 HEV hM hQ hV ks0 hok c1 c2 c3 c4 c5 a1 a3 a4 n1 hNU hNR hb0;have hc0:Below w0.heap.size w0 w0:=Below.refl _ _;obtain⟨s0,s1,s2,s3,s4,s5,-⟩:=HST.out w0 hc0;go_in
 go_upto_region 1 with fail
 rw[show w.alloc _=w0 from HW.out];clear HW;go_wp2_with fail;refine(HLI.out _ hc0).mono ?_;rintro en w1 ⟨rfl,hb1⟩;have hz1:=hb1.size;clear s0 s1 s2 s3 s4 s5;obtain⟨s0,s1,s2,s3,s4,s5,-⟩:=HST.out w1 hb1;obtain⟨t6,t7⟩:=HS3.out w1 hb1;obtain⟨X0,hX0⟩:∃X,[67,82,69,65,84,69,32,84,65,66,76,69,32]++s.tb++[32,40,32]++J++[32,44,32,75,69,89,32,40,32]++s.key++[32,41]=X:=⟨_,rfl⟩;have hX0l:X0.length<=4000:=by rw[<-hX0];simp;omega
 have HX0:=Lib.hid hX0;go_wp2_with fail;go_loopw [3,26] (λx i wr=>∃(X:List UInt8) (j:Nat),x=.string ⟨X.toArray⟩/\i=.int .i64 j/\j<=NU/\X.length<=4000+100 * j/\Hid (X=X0++Eh (s.uniq.take j))/\Below w0.heap.size w0 wr) (λ_ i _=>NU - (intOf i).toNat)
 case atStart=>
  refine⟨X0,0, ?_,rfl,by omega,by omega,by show _=_;simp[Eh],hb1⟩;rw[<-HX0.out];simp
 case round=>
  obtain⟨X,j,rfl,rfl,hj,hXl,HX,hbw⟩:=hrel;obtain⟨Y,rfl⟩:∃W,W=wr:=⟨_,rfl⟩;have hzY:=hbw.size;by_cases hlt:j<NU
  ·obtain⟨b,off,x,e1,hbB,hv,d0⟩:=(HM.out Y hbw).2.2.1.at_ (j:=j) (by rw[HNU.out];exact hlt);have hxl:=Af (A3.out x (List.mem_of_getElem? hv));have HNX:Hid (X++([32,44,32,85,78,73,81,85,69,32,40,32]++x++[32,41])=X0++Eh (s.uniq.take (j+1))):=by
    show _=_
    rw[List.take_add_one,hv,show(some x).toList=[x]from rfl,Sz,HX.out,List.append_assoc]
   have hlb:b<w.heap.size:=hbB;have g10:(j:Int)<(NU:Int):=by omega
   rw[e1];clear hv;go_wp2_with fail;go_roundw
   case rel=>
    refine⟨_,j+1,rfl,by go_num,by omega, ?_,HNX,hbw⟩;simp;omega
   case measure=>simp[intOf];omega
  ·obtain rfl:NU=j:=by omega
   have HX2:Hid (X=X0++Eh s.uniq):=by show _=_;rw[HX.out,<-HNU.out,List.take_length]
   clear s0 s1 s2 s3 s4 s5 t6 t7;obtain⟨t6,t7⟩:=HS3.out Y hbw;have g11:¬(NU:Int)<(NU:Int):=by omega
   clear hlt HX;go_wp2_with fail;go_loopw [3,39] (λx i wr=>∃(Z:List UInt8) (j:Nat),x=.string ⟨Z.toArray⟩/\i=.int .i64 j/\j<=NR/\Z.length<=5000+100 * j/\Hid (Z=X++Ei (s.refs.take j))/\Below w0.heap.size w0 wr) (λ_ i _=>NR - (intOf i).toNat)
   case atStart=>exact⟨X,0,rfl,rfl,by omega,by omega,by show _=_;simp[Ei],hbw⟩
   case round=>
    obtain⟨Z,j,rfl,rfl,hj2,hZl,HZ,hbv⟩:=hrel;obtain⟨U,rfl⟩:∃W,W=wr:=⟨_,rfl⟩;have hzU:=hbv.size;by_cases hlt:j<NR
    ·obtain⟨b,off,x,e1,hbB,hv,d0,d1⟩:=(HM.out U hbv).2.2.2.1.at_ (j:=j) (by rw[HNR.out];exact hlt);have hx4:=A4.out x (List.mem_of_getElem? hv);unfold G9 at hx4;simp only[Bool.and_eq_true]at hx4;have hxl:=Af hx4.1;have hxl2:=Af hx4.2;have HNX:Hid (Z++([32,44,32,82,69,70,69,82,69,78,67,69,83,32,40,32]++(x.c++([32,41,32]++x.t)))=X++Ei (s.refs.take (j+1))):=by
      show _=_
      rw[List.take_add_one,hv,show(some x).toList=[x]from rfl,Tj,HZ.out];simp
     obtain⟨V,hV⟩:∃V,U.alloc (.cells #[.string ⟨x.c.toArray⟩,.string ⟨x.t.toArray⟩] 74)=V:=⟨_,rfl⟩;have kV:Blk V U.heap.size 74 #[.string ⟨x.c.toArray⟩,.string ⟨x.t.toArray⟩]:=by rw[<-hV];exact Blk.new _ _ _
     have hbV:Below w0.heap.size w0 V:=by rw[<-hV];exact hbv.alloc hzU _
     obtain⟨⟨k0,k1⟩,_⟩:=kV.two;have HV:=Lib.hid hV;have hlb:b<w.heap.size:=hbB;have g10:(j:Int)<(NR:Int):=by omega
     rw[e1];clear hv hV kV hx4;go_upto_region 12 with fail
     rw[show U.alloc _=V from HV.out];go_wp2_with fail;go_roundw
     case rel=>
      refine⟨_,j+1,rfl,by go_num,by omega, ?_,HNX,hbV⟩;simp;omega
     case measure=>simp[intOf];omega
    ·obtain rfl:NR=j:=by omega
     have HZ2:Hid (Z=X++Ei s.refs):=by show _=_;rw[HZ.out,<-HNR.out,List.take_length]
     have g12:¬(NR:Int)<(NR:Int):=by omega
     obtain⟨-,-,-,-,-,-,-,-,s8,s9,s10,s11,s12,s13,-⟩:=HST.out U hbv;clear hlt HZ t6 t7;go_wp2_with fail;refine(HCK.out _ hbv).mono ?_;rintro en w5 ⟨rfl,hb5⟩;have hbf:=HB.out.trans ((hbv.trans (hb5.mono hzU)).mono hz0);go_wp2_with fail;go_ret;refine⟨?_,hbf⟩;rw[<-HR.out,HZ2.out,HX2.out,<-HX0.out];simp
end
section
open Go.RowKit
def stZ(op tb:List UInt8):St:=⟨op,tb,[],[],[],[],[],[],ex0,[],[],ex0,[]⟩
def ownS(s:St):St:=
 if s.op=GR then⟨s.op,s.tb,[],[],s.cols,s.key,s.uniq,s.refs,s.chk,[],[],ex0,[]⟩
 else if s.op=Ff then⟨s.op,s.tb,[],[],[],[],[],[],ex0,s.row,[],ex0,[]⟩
 else if s.op=Fe then⟨s.op,s.tb,[],[],[],[],[],[],ex0,[],s.sets,s.whr,[]⟩
 else if s.op=Eo\/s.op=FH then⟨s.op,s.tb,[],[],[],[],[],[],ex0,[],[],s.whr,[]⟩
 else if s.op=Hw\/s.op=FV\/s.op=EZ\/s.op=Dy then⟨s.op,s.tb,[],[],[],[],[],[],ex0,[],[],ex0,s.role⟩
 else if s.op=Gx\/s.op=GH then⟨s.op,s.tb,s.ot,s.names,[],[],[],[],s.chk,[],[],ex0,[]⟩
 else if s.op=I8 then⟨s.op,s.tb,s.ot,[],[],s.key,[],[],s.chk,[],[],ex0,s.role⟩
 else stZ s.op s.tb
def slZ:Sl:=⟨none,0⟩
def Cj:StP:=⟨slZ,slZ,slZ,slZ,slZ,slZ,slZ,slZ⟩
def okD(s:St):Bool:=
 if s.op=GR then OA s
 else if s.op=Lp then true
 else if s.op=Ff then Bh s.row 1 12 (λv=>D5 v.k v.i v.s)
 else if s.op=Fe then Bh s.sets 1 8 GG&&Aq s.whr
 else if s.op=Eo\/s.op=FH then Aq s.whr
 else if s.op=Hw\/s.op=FV\/s.op=EZ\/s.op=Dy then Ai s.role
 else if s.op=Gx then Ai s.ot&&Bh s.names 1 8 Ai&&Aq s.chk
 else if s.op=I8 then Ai s.ot&&Ai s.key&&Ai s.role&&Aq s.chk
 else if s.op=GH then Ai s.ot&&Bh s.names 2 2 Ai&&Aq s.chk
 else false
def Ig{α:Type}(q:α->α->Bool)(a b:List α):Bool:=decide (a.length=b.length)&&(a.zip b).all λp=>q p.1 p.2
def Jm(a b:Col):Bool:=a.n==b.n&&(decide (a.t=b.t)&&a.b==b.b)
def rfB(a b:Rf):Bool:=a.c==b.c&&a.t==b.t
def seB(n:Nat)(a b:Se):Bool:=a.n==b.n&&Dw n a.e b.e
def Ji(n:Nat)(a b:St):Bool:=
 (a.op==b.op)&&(a.tb==b.tb)&&(a.ot==b.ot)&&(a.key==b.key)&&(a.role==b.role)&&Dw n a.chk b.chk&&Dw n a.whr b.whr &&
 Ig (λx y=>x==y) a.names b.names&&Ig Jm a.cols b.cols&&Ig (λx y=>x==y) a.uniq b.uniq&&Ig rfB a.refs b.refs&&Ig veq a.row b.row&&Ig (seB n) a.sets b.sets
theorem Et{α:Type}{q:α->α->Bool}(hq:∀x,q x x=true)(l:List α):Ig q l l=true:=by
 unfold Ig;simp only[decide_true,Bool.true_and,List.all_eq_true];intro p hp;have:p.1=p.2:=by
  obtain⟨i,hi,rfl⟩:=List.getElem_of_mem hp;simp
 rw[this];exact hq p.2
theorem WJ{α:Type}{q:α->α->Bool}(l:List α):Ig q [] l=l.isEmpty:=by cases l<;>simp[Ig]
theorem Wv(a b:V):veq a b=veq b a:=by
 unfold veq;rw[Bool.eq_iff_iff];simp only[Bool.and_eq_true,decide_eq_true_eq,beq_iff_eq]
 constructor<;>(rintro⟨h1,h2,h3⟩;exact⟨h1.symm,h2.symm,h3.symm⟩)
theorem Ve(n:Nat)(e:Ex):Dw n ex0 e=DU e:=by
 obtain⟨op,v,s,l⟩:=e;rw[Qc];show(([]:List UInt8)==op&&(veq V.zero v&&(([]:List UInt8)==s&&(decide (([]:List Ex).length=l.length)&&Iz n (([]:List Ex).zip l)))))=(op.isEmpty&&veq v V.zero&&s.isEmpty&&l.isEmpty)
 rw[Wv V.zero v,List.zip_nil_left,Na]
 generalize veq v V.zero=z
 cases op<;>cases s<;>cases l<;>cases z<;>rfl
theorem QJ(v:V):veq v v=true:=by simp[veq]
theorem aK(n:Nat)(s:St):Ji n s s=true:=by
 unfold Ji;rw[FU,FU,Et (λx=>by simp),Et (λx=>by simp[Jm]),Et (λx=>by simp),Et (λx=>by simp[rfB]),Et QJ,Et (λx=>by simp[seB,FU])];simp
theorem JC(a b:List UInt8):(a++b).isEmpty=(a.isEmpty&&b.isEmpty):=by cases a<;>rfl
theorem UU(s:St):Cf s=(s.tb.isEmpty&&s.ot.isEmpty&&s.key.isEmpty&&s.role.isEmpty&&s.names.isEmpty&&s.cols.isEmpty&&s.uniq.isEmpty&&s.refs.isEmpty&&s.row.isEmpty&&s.sets.isEmpty&&DU s.chk&&DU s.whr):=by
 have e1:decide (s.names.length+s.cols.length+s.uniq.length+s.refs.length+s.row.length+s.sets.length=0)=(s.names.isEmpty&&(s.cols.isEmpty&&(s.uniq.isEmpty&&(s.refs.isEmpty&&(s.row.isEmpty&&s.sets.isEmpty))))):=by
  rw[Bool.eq_iff_iff];simp only[decide_eq_true_eq,Bool.and_eq_true,List.isEmpty_iff_length_eq_zero];omega
 unfold Cf;rw[e1,JC,JC,JC];simp only[Bool.and_assoc]
structure VH where
 ot:Bool
 names:Bool
 cols:Bool
 key:Bool
 uniq:Bool
 refs:Bool
 chk:Bool
 row:Bool
 sets:Bool
 whr:Bool
 role:Bool
def Xu(f:VH)(s:St):St:=⟨s.op,s.tb,cond f.ot s.ot [],cond f.names s.names [],cond f.cols s.cols [],cond f.key s.key [],cond f.uniq s.uniq [],cond f.refs s.refs [],cond f.chk s.chk ex0,cond f.row s.row [],cond f.sets s.sets [],cond f.whr s.whr ex0,cond f.role s.role []⟩
def YB(f:VH)(s:St):St:=⟨s.op,[],cond f.ot [] s.ot,cond f.names [] s.names,cond f.cols [] s.cols,cond f.key [] s.key,cond f.uniq [] s.uniq,cond f.refs [] s.refs,cond f.chk AL s.chk,cond f.row [] s.row,cond f.sets [] s.sets,cond f.whr AL s.whr,cond f.role [] s.role⟩
theorem LM(b:Bool)(t:List UInt8):(cond b t []==t)=(b||t.isEmpty):=by cases b<;>cases t<;>simp
theorem Gg{α:Type}{q:α->α->Bool}(hq:∀x,q x x=true)(b:Bool)(l:List α):Ig q (cond b l []) l=(b||l.isEmpty):=by
 cases b
 ·exact WJ l
 ·exact Et hq l
theorem Uu(n:Nat)(b:Bool)(e:Ex):Dw n (cond b e ex0) e=(b||DU e):=by
 cases b
 ·exact Ve n e
 ·exact FU n e
theorem Ec{α:Type}(b:Bool)(l:List α):(cond b [] l).isEmpty=(b||l.isEmpty):=by cases b<;>rfl
theorem VC(b:Bool)(e:Ex):DU (cond b AL e)=(b||DU e):=by
 cases b
 ·rfl
 ·show DU AL=true;decide
theorem PO(n:Nat)(f:VH)(s:St):Ji n (Xu f s) s=Cf (YB f s):=by
 rw[UU];unfold Ji Xu YB;dsimp only;rw[LM,LM,LM,Uu,Uu,Gg (λx=>by simp),Gg (λx=>by simp[Jm]),Gg (λx=>by simp),Gg (λx=>by simp[rfB]),Gg QJ,Gg (λx=>by simp[seB,FU]),
  Ec,Ec,Ec,Ec,Ec,Ec,Ec,Ec,Ec,VC,VC]
 simp only[beq_self_eq_true,Bool.true_and,List.isEmpty_nil]
 ac_rfl
theorem Ru(a b:Bool)(n:Nat)(f:VH)(s:St):(b&&a&&Cf (YB f s))=(a&&(b&&Ji n (Xu f s) s)):=by
 rw[PO];cases a<;>cases b<;>rfl
theorem parts_D(n:Nat)(s:St):Am s=(okD s&&(Ai s.tb&&Ji n (ownS s) s)):=by
 unfold Am okD ownS;by_cases o1:s.op=GR
 ·simp only[if_pos o1];exact Ru _ _ n ⟨false,false,true,true,true,true,true,false,false,false,false⟩ s
 simp only[if_neg o1];by_cases o2:s.op=Lp
 ·have:¬s.op=Ff/\¬s.op=Fe/\¬s.op=Eo/\¬s.op=FH/\¬s.op=Hw/\¬s.op=FV/\¬s.op=EZ/\¬s.op=Dy/\¬s.op=Gx/\¬s.op=I8/\¬s.op=GH:=by rw[o2];decide
  obtain⟨m1,m2,m3,m4,m5,m6,m7,m8,m9,m10,m11⟩:=this;simp only[if_pos o2];rw[if_neg m1,if_neg m2,if_neg (by simp[m3,m4]),if_neg (by simp[m5,m6,m7,m8]),if_neg (by simp[m9,m11]),if_neg m10];exact congrArg (λz=>Ai s.tb&&z) (PO n ⟨false,false,false,false,false,false,false,false,false,false,false⟩ s).symm
 simp only[if_neg o2];by_cases o3:s.op=Ff
 ·simp only[if_pos o3];exact Ru _ _ n ⟨false,false,false,false,false,false,false,true,false,false,false⟩ s
 simp only[if_neg o3];by_cases o4:s.op=Fe
 ·simp only[if_pos o4];rw[Bool.and_assoc (Ai s.tb)];exact Ru _ _ n ⟨false,false,false,false,false,false,false,false,true,true,false⟩ s
 simp only[if_neg o4];by_cases o5:s.op=Eo\/s.op=FH
 ·simp only[if_pos o5];exact Ru _ _ n ⟨false,false,false,false,false,false,false,false,false,true,false⟩ s
 simp only[if_neg o5];by_cases o6:s.op=Hw\/s.op=FV\/s.op=EZ\/s.op=Dy
 ·simp only[if_pos o6];exact Ru _ _ n ⟨false,false,false,false,false,false,false,false,false,false,true⟩ s
 simp only[if_neg o6];by_cases o7:s.op=Gx
 ·simp only[if_pos o7,if_pos (Or.inl o7:s.op=Gx\/s.op=GH)];rw[Bool.and_assoc (Ai s.tb),Bool.and_assoc (Ai s.tb)];exact Ru _ _ n ⟨true,true,false,false,false,false,true,false,false,false,false⟩ s
 simp only[if_neg o7];by_cases o8:s.op=I8
 ·have o9:¬(s.op=Gx\/s.op=GH):=by rw[o8];decide
  simp only[if_pos o8,if_neg o9];rw[Bool.and_assoc (Ai s.tb),Bool.and_assoc (Ai s.tb),Bool.and_assoc (Ai s.tb)];exact Ru _ _ n ⟨true,false,false,true,false,false,true,false,false,false,true⟩ s
 simp only[if_neg o8];by_cases o9:s.op=GH
 ·simp only[if_pos o9,if_pos (Or.inr o9:s.op=Gx\/s.op=GH)];rw[Bool.and_assoc (Ai s.tb),Bool.and_assoc (Ai s.tb)];exact Ru _ _ n ⟨true,true,false,false,false,false,true,false,false,false,false⟩ s
 simp only[if_neg o9,Bool.false_and]
end
end Go.Proofs.YtchilcchogcibaaGreatDoor
