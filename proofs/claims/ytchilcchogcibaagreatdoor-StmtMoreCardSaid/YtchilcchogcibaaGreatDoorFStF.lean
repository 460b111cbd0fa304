/- stmt.parts as a plain function: which parts may be. -/
import Derived.Test.YtchilcchogcibaaGreatDoorFStD
set_option maxRecDepth 100000
set_option maxHeartbeats 16000000
namespace Go.Proofs.YtchilcchogcibaaGreatDoor
open Go.RowKit
attribute [local go_sem] ByteArray.extract_mk Ak AY
attribute [local go_sem ↓] Go.wp_at_zero Go.wp_at_succ
theorem Qx(s:St)(p:StP)(w:World)(hok:s.Ok)(hQ:StQ 1000 s p (Old w.heap.size) w):Calls Tryz.prog 53 #[.agg (s.cells p).toArray] w (Ret (.bool (Am s)) w):=by
 have hoks:=Lib.hid hok;obtain⟨kc,ks,kw,hM⟩:=hQ.h;refine Gl s p w λw0 HW ks0 hb0 hz0 HST HB=>?_
 obtain⟨w1,hw1⟩:∃w1,w0.alloc (.cells (s.cells p).toArray 34)=w1:=⟨_,rfl⟩;obtain⟨w2,hw2⟩:∃w2,w1.setCell ⟨w0.heap.size,1,none⟩ (.string ⟨#[]⟩)=w2:=⟨_,rfl⟩;have hk1:Blk w1 w0.heap.size 34 (s.cells p).toArray:=by rw[<-hw1];exact Blk.new _ _ _
 have hk2:Blk w2 w0.heap.size 34 (({s with tb:=[]}:St).cells p).toArray:=by rw[<-hw2];exact VZ hk1
 have hb12:Below w0.heap.size w0 w2:=by rw[<-hw2,<-hw1];exact bl
 have hb2:Below w.heap.size w w2:=hb0.trans (hb12.mono hz0);have hz2:=hb2.size;have hl1:w0.heap.size<w2.heap.size:=hk2.lt;have HS2:Hid (∀Z:World,Below w2.heap.size w2 Z->StC s p w.heap.size Z):=λZ hz=>HST.out Z (hb12.trans (hz.mono hb12.size))
 have HR2:Hid (∀Z:World,Below w2.heap.size w2 Z->Blk Z w0.heap.size 34 (({s with tb:=[]}:St).cells p).toArray):=λZ hz=>hk2.below hz hl1
 have HKB:Hid (∀Z:World,Below w2.heap.size w2 Z->Blk Z w.heap.size 34 (s.cells p).toArray):=λZ hz=>ks0.below (hb12.trans (hz.mono hb12.size)) ks0.lt
 have HBB:Hid (∀Z Y:World,Below w2.heap.size w2 Z->Below w0.heap.size Z Y->Below w.heap.size w Y):=λZ Y hz hy=>hb2.trans ((hz.mono hz2).trans (hy.mono hz0))
 have HM:Hid (∀Y:World,Below w2.heap.size w2 Y->StH s p kc ks kw (Old Y.heap.size) Y):=λY hY=>hM.keep (DK (hb2.trans (hY.mono hz2)) (Nat.le_trans hz2 hY.size))
 have HMQ:Hid (∀Y:World,Below w2.heap.size w2 Y->StQ 1000 s p (Old Y.heap.size) Y):=λY hY=>(HM.out Y hY).q
 obtain⟨N,hN⟩:∃N,Ai s.tb=N:=⟨_,rfl⟩;have HNN:=Lib.hid hN;have HN:Hid (∀Y:World,Calls Tryz.prog 74 #[.string ⟨s.tb.toArray⟩] Y (Ret (.bool N) Y)):=Di hN hok.tb;obtain⟨R,hR0⟩:∃R,Am s=R:=⟨_,rfl⟩;rw[hR0];have HR0:=Lib.hid hR0;have HKS:=Lib.hid ks0;have HW1:=Lib.hid hw1;have HW2:=Lib.hid hw2;clear hR0 hN hM hQ hok hk1 hk2 hw1 hw2 ks0;obtain⟨s0,s1,s2,s3,s4,s5,s6,s7,s8,s9,s10,s11,s12,s13,s14,s15,s16,s17,s18,s19,s20,s21,s22⟩:=HST.out w0 (Below.refl _ _);go_in
 go_upto_region 1 with fail
 rw[show w.alloc _=w0 from HW.out];clear HW;go_upto_region 2 with(first|refine wpList_load_row rfl 34 _ rfl w.heap.size rfl 34 (s.cells p).toArray (0,0) _ HKS.out Tryz.underlying34 rfl Au ?_|refine wpList_store_row rfl 34 _ _ rfl w0.heap.size (s.cells p).toArray rfl rfl 34 _ (heap_alloc_last _ _) Au rfl (IY s p) ?_)
 rw[show World.setRow _ _ _=w1 from(World.setRow_alloc_new _ _ _ _).trans HW1.out];have f1:w1.cell? ⟨w0.heap.size,1,none⟩=some (.string ⟨s.tb.toArray⟩):=by rw[<-HW1.out];exact(Blk.new _ _ _).cell 1
 have g1:w1.frozen? ⟨w0.heap.size,1,none⟩=false:=by rw[<-HW1.out];exact(Blk.new _ _ _).frozen 1
 go_upto_region 3 with fail
 rw[show w1.setCell _ _=w2 from HW2.out];clear s0 s1 s2 s3 s4 s5 s6 s7 s8 s9 s10 s11 s12 s13 s14 s15 s16 s17 s18 s19 s20 s21 s22;clear HW1 HW2 f1 g1;have hc0:Below w2.heap.size w2 w2:=Below.refl _ _;obtain⟨s0,s1,_⟩:=HS2.out w2 hc0;go_wp2_with fail;refine(HN.out _).mono ?_;rintro en wn ⟨rfl,hbn⟩;have hcn:Below w2.heap.size w2 wn:=hbn;have hzn:=hcn.size;clear s0 s1 HN;obtain⟨s0,_⟩:=HS2.out wn hcn;have HBE:=Lib.hid hbn;clear hbn;by_cases hop:s.op=GR
 case pos=>
  have hok:=hoks.out;obtain⟨B1,hB1⟩:∃B,OA s=B:=⟨_,rfl⟩;have H1:Hid (∀Y:World,Below w2.heap.size w2 Y->Calls Tryz.prog 75 #[.agg (s.cells p).toArray] Y (Ret (.bool B1) Y)):=λY hY=>by
   rw[<-hB1];exact SH s p Y hok (HMQ.out Y hY)
  obtain⟨E,hE⟩:∃E,Cf ({s with tb:=[],cols:=[],key:=[],uniq:=[],refs:=[],chk:=AL}:St)=E:=⟨_,rfl⟩;have HE:Hid (∀Y:World,Calls Tryz.prog 83 #[.agg (({s with tb:=[],cols:=[],key:=[],uniq:=[],refs:=[],chk:=AL}:St).cells ({p with cols:=⟨none,0⟩,uniq:=⟨none,0⟩,refs:=⟨none,0⟩,chk:=⟨none,0⟩}:StP)).toArray] Y (Ret (.bool E) Y)):=Ea ({s with tb:=[],cols:=[],key:=[],uniq:=[],refs:=[],chk:=AL}:St) ({p with cols:=⟨none,0⟩,uniq:=⟨none,0⟩,refs:=⟨none,0⟩,chk:=⟨none,0⟩}:StP) ⟨sl0,hok.ot,sl0,hok.role,hok.nN,sl0,sl0,sl0,hok.nW,hok.nS⟩ hE;have hR:Am s=((N&&B1)&&E):=by
   unfold Am;rw[if_pos (by rw[hop];first|done|decide)];rw[hE,HNN.out,hB1]
  rw[HR0.out]at hR;have HR:=Lib.hid hR;have o_create:(s.op==[99,114,101,97,116,101])=true:=by rw[hop];rfl
  clear hR hE hB1 hok hop HR0 HNN hoks HMQ HM;go_upto_region 7 with fail
  clear s0;go_cut [4] (λg wx=>g=.bool (N&&B1)/\Below w2.heap.size w2 wx)
  case first=>as_aux_lemma=>
   cases N with
   |false=>
    go_wp2_with fail;go_meet;exact⟨rfl,hcn⟩
   |true=>
    obtain⟨s0,s1,s2,s3,s4,s5,s6,s7,s8,s9,s10,s11,s12,s13,s14,s15,s16,s17,s18,s19,s20,s21,s22⟩:=HS2.out wn hcn;go_wp2_with (refine Ap (by rfl) 34 _ rfl w.heap.size rfl 34 (s.cells p).toArray (0,0) _ (HKB.out _ hcn) Tryz.underlying34 rfl Au ?_);refine(H1.out wn hcn).mono ?_;rintro en wx ⟨rfl,hbx⟩;have hcx:Below w2.heap.size w2 wx:=hcn.trans (hbx.mono hcn.size);have hzx:=hcx.size;clear s0 s1 s2 s3 s4 s5 s6 s7 s8 s9 s10 s11 s12 s13 s14 s15 s16 s17 s18 s19 s20 s21 s22;go_wp2_with fail;go_meet;exact⟨rfl,hcx⟩
  obtain⟨rfl,hcc⟩:=hcut;obtain⟨Y,rfl⟩:∃W,W=wc:=⟨_,rfl⟩;obtain⟨G,hG⟩:∃G,(N&&B1)=G:=⟨_,rfl⟩;rw[hG];have HG:=Lib.hid hG;have hzc:=hcc.size;obtain⟨V,hV⟩:∃V,((((((((((Y.setCell ⟨w0.heap.size,4,none⟩ (.slice none 0 0)).setCell ⟨w0.heap.size,5,none⟩ (.string ⟨#[]⟩)).setCell ⟨w0.heap.size,6,none⟩ (.slice none 0 0)).setCell ⟨w0.heap.size,7,none⟩ (.slice none 0 0)).setCell ⟨w0.heap.size,8,none⟩ (.string ⟨#[]⟩)).setCell ⟨w0.heap.size,9,none⟩ (.int .i64 0)).setCell ⟨w0.heap.size,10,none⟩ (.int .i64 0)).setCell ⟨w0.heap.size,11,none⟩ (.string ⟨#[]⟩)).setCell ⟨w0.heap.size,12,none⟩ (.string ⟨#[]⟩)).setCell ⟨w0.heap.size,13,none⟩ (.slice none 0 0))=V:=⟨_,rfl⟩;have kV:Blk V w0.heap.size 34 (({s with tb:=[],cols:=[],key:=[],uniq:=[],refs:=[],chk:=AL}:St).cells ({p with cols:=⟨none,0⟩,uniq:=⟨none,0⟩,refs:=⟨none,0⟩,chk:=⟨none,0⟩}:StP)).toArray:=by
   rw[<-hV];exact(IU (QU (QS (NH (QV (HR2.out Y hcc))))))
  have hbV:Below w0.heap.size Y V:=by rw[<-hV];exact(bwS (bwS (bwS (bwS (bwS (bwS (bwS (bwS (bwS (bwS (Below.refl w0.heap.size Y) (Nat.le_refl _)) (Nat.le_refl _)) (Nat.le_refl _)) (Nat.le_refl _)) (Nat.le_refl _)) (Nat.le_refl _)) (Nat.le_refl _)) (Nat.le_refl _)) (Nat.le_refl _)) (Nat.le_refl _))
  have HV:=Lib.hid hV;have HKV:=Lib.hid kV;have hbf:=HBB.out Y V hcc hbV;clear hV kV hbV hG;have hkY:=HR2.out Y hcc;obtain⟨r0,r1,r2,r3,r4,r5,r6,r7,r8,r9,r10,r11,r12,r13,r14,r15,r16,r17,r18,r19,r20,r21,r22⟩:=hkY.st;obtain⟨z0,z1,z2,z3,z4,z5,z6,z7,z8,z9,z10,z11,z12,z13,z14,z15,z16,z17,z18,z19,z20,z21,z22⟩:=hkY.stF;clear hkY r0 z0 r1 z1 r2 z2 r3 z3 r14 z14 r15 z15 r16 z16 r17 z17 r18 z18 r19 z19 r20 z20 r21 z21 r22 z22;go_upto_region 36 with fail
  rw[show((((((((((Y.setCell ⟨w0.heap.size,4,none⟩ (.slice none 0 0)).setCell ⟨w0.heap.size,5,none⟩ (.string ⟨#[]⟩)).setCell ⟨w0.heap.size,6,none⟩ (.slice none 0 0)).setCell ⟨w0.heap.size,7,none⟩ (.slice none 0 0)).setCell ⟨w0.heap.size,8,none⟩ (.string ⟨#[]⟩)).setCell ⟨w0.heap.size,9,none⟩ (.int .i64 0)).setCell ⟨w0.heap.size,10,none⟩ (.int .i64 0)).setCell ⟨w0.heap.size,11,none⟩ (.string ⟨#[]⟩)).setCell ⟨w0.heap.size,12,none⟩ (.string ⟨#[]⟩)).setCell ⟨w0.heap.size,13,none⟩ (.slice none 0 0))=V from HV.out];clear r4 z4 r5 z5 r6 z6 r7 z7 r8 z8 r9 z9 r10 z10 r11 z11 r12 z12 r13 z13;cases G with
  |false=>
   go_wp2_with fail;go_ret;exact⟨by rw[HR.out,HG.out];rfl,hbf⟩
  |true=>
   go_wp2_with (refine Ap (by rfl) 34 _ rfl w0.heap.size rfl 34 (({s with tb:=[],cols:=[],key:=[],uniq:=[],refs:=[],chk:=AL}:St).cells ({p with cols:=⟨none,0⟩,uniq:=⟨none,0⟩,refs:=⟨none,0⟩,chk:=⟨none,0⟩}:StP)).toArray (0,0) _ HKV.out Tryz.underlying34 rfl Au ?_);refine(HE.out V).mono ?_;rintro en we ⟨rfl,hbe⟩;have hbf2:=hbf.trans (hbe.mono hbf.size);go_wp2_with fail;go_ret;exact⟨by rw[HR.out,HG.out];rfl,hbf2⟩
 have n_create:=Lib.hid hop;clear hop;by_cases hop:s.op=Lp
 case pos=>
  have hok:=hoks.out;obtain⟨E,hE⟩:∃E,Cf ({s with tb:=[]}:St)=E:=⟨_,rfl⟩;have HE:Hid (∀Y:World,Calls Tryz.prog 83 #[.agg (({s with tb:=[]}:St).cells (p:StP)).toArray] Y (Ret (.bool E) Y)):=Ea ({s with tb:=[]}:St) (p:StP) ⟨sl0,hok.ot,hok.key,hok.role,hok.nN,hok.nC,hok.nU,hok.nR,hok.nW,hok.nS⟩ hE;have hR:Am s=((N)&&E):=by
   unfold Am;rw[if_neg (by rw[hop];first|done|decide)];rw[if_pos (by rw[hop];first|done|decide)];rw[hE,HNN.out]
  rw[HR0.out]at hR;have HR:=Lib.hid hR;have o_create:(s.op==[99,114,101,97,116,101])=false:=by rw[hop];rfl
  have o_drop:(s.op==[100,114,111,112])=true:=by rw[hop];rfl
  clear hR hE hok hop HR0 HNN hoks HMQ HM;obtain⟨Y,rfl⟩:∃W,W=wn:=⟨_,rfl⟩;have hcc:=hcn;obtain⟨G,hG⟩:∃G,(N)=G:=⟨_,rfl⟩;rw[hG];have HG:=Lib.hid hG;have hzc:=hcc.size;obtain⟨V,hV⟩:∃V,Y=V:=⟨_,rfl⟩;have kV:Blk V w0.heap.size 34 (({s with tb:=[]}:St).cells (p:StP)).toArray:=by rw[<-hV];exact HR2.out Y hcc
  have hbV:Below w0.heap.size Y V:=by rw[<-hV];exact Below.refl _ _
  have HV:=Lib.hid hV;have HKV:=Lib.hid kV;have hbf:=HBB.out Y V hcc hbV;clear hV kV hbV hG;go_upto_region 36 with fail
  rw[show Y=V from HV.out];cases G with
  |false=>
   go_wp2_with fail;go_ret;exact⟨by rw[HR.out,HG.out];rfl,hbf⟩
  |true=>
   go_wp2_with (refine Ap (by rfl) 34 _ rfl w0.heap.size rfl 34 (({s with tb:=[]}:St).cells (p:StP)).toArray (0,0) _ HKV.out Tryz.underlying34 rfl Au ?_);refine(HE.out V).mono ?_;rintro en we ⟨rfl,hbe⟩;have hbf2:=hbf.trans (hbe.mono hbf.size);go_wp2_with fail;go_ret;exact⟨by rw[HR.out,HG.out];rfl,hbf2⟩
 have n_drop:=Lib.hid hop;clear hop;by_cases hop:s.op=Ff
 case pos=>
  have hok:=hoks.out;obtain⟨B1,hB1⟩:∃B,Bh s.row 1 12 (λv=>D5 v.k v.i v.s)=B:=⟨_,rfl⟩;have H1:Hid (∀Y:World,Below w2.heap.size w2 Y->Calls Tryz.prog 76 #[.slice p.row.a s.row.length p.row.c,.int .i64 1,.int .i64 12,.func (.func 77) #[] #[]] Y (Ret (.bool B1) Y)):=λY hY=>by
   rw[<-hB1];exact V6 p.row.a p.row.c s.row 1 12 Y (by decide) (by decide) hok.nW (HM.out Y hY).2.2.2.2.2.1
  obtain⟨E,hE⟩:∃E,Cf ({s with tb:=[],row:=[]}:St)=E:=⟨_,rfl⟩;have HE:Hid (∀Y:World,Calls Tryz.prog 83 #[.agg (({s with tb:=[],row:=[]}:St).cells ({p with row:=⟨none,0⟩}:StP)).toArray] Y (Ret (.bool E) Y)):=Ea ({s with tb:=[],row:=[]}:St) ({p with row:=⟨none,0⟩}:StP) ⟨sl0,hok.ot,hok.key,hok.role,hok.nN,hok.nC,hok.nU,hok.nR,sl0,hok.nS⟩ hE;have hR:Am s=((N&&B1)&&E):=by
   unfold Am;iterate 2(rw[if_neg (by rw[hop];first|done|decide)])
   rw[if_pos (by rw[hop];first|done|decide)];rw[hE,HNN.out,hB1]
  rw[HR0.out]at hR;have HR:=Lib.hid hR;have o_create:(s.op==[99,114,101,97,116,101])=false:=by rw[hop];rfl
  have o_drop:(s.op==[100,114,111,112])=false:=by rw[hop];rfl
  have o_insert:(s.op==[105,110,115,101,114,116])=true:=by rw[hop];rfl
  clear hR hE hB1 hok hop HR0 HNN hoks HMQ HM;go_upto_region 11 with fail
  clear s0;go_cut [4] (λg wx=>g=.bool (N&&B1)/\Below w2.heap.size w2 wx)
  case first=>as_aux_lemma=>
   cases N with
   |false=>
    go_wp2_with fail;go_meet;exact⟨rfl,hcn⟩
   |true=>
    obtain⟨s0,s1,s2,s3,s4,s5,s6,s7,s8,s9,s10,s11,s12,s13,s14,s15,s16,s17,s18,s19,s20,s21,s22⟩:=HS2.out wn hcn;go_wp2_with fail;refine(H1.out wn hcn).mono ?_;rintro en wx ⟨rfl,hbx⟩;have hcx:Below w2.heap.size w2 wx:=hcn.trans (hbx.mono hcn.size);have hzx:=hcx.size;clear s0 s1 s2 s3 s4 s5 s6 s7 s8 s9 s10 s11 s12 s13 s14 s15 s16 s17 s18 s19 s20 s21 s22;go_wp2_with fail;go_meet;exact⟨rfl,hcx⟩
  obtain⟨rfl,hcc⟩:=hcut;obtain⟨Y,rfl⟩:∃W,W=wc:=⟨_,rfl⟩;obtain⟨G,hG⟩:∃G,(N&&B1)=G:=⟨_,rfl⟩;rw[hG];have HG:=Lib.hid hG;have hzc:=hcc.size;obtain⟨V,hV⟩:∃V,(Y.setCell ⟨w0.heap.size,14,none⟩ (.slice none 0 0))=V:=⟨_,rfl⟩;have kV:Blk V w0.heap.size 34 (({s with tb:=[],row:=[]}:St).cells ({p with row:=⟨none,0⟩}:StP)).toArray:=by
   rw[<-hV];exact(TL (HR2.out Y hcc))
  have hbV:Below w0.heap.size Y V:=by rw[<-hV];exact(bwS (Below.refl w0.heap.size Y) (Nat.le_refl _))
  have HV:=Lib.hid hV;have HKV:=Lib.hid kV;have hbf:=HBB.out Y V hcc hbV;clear hV kV hbV hG;have hkY:=HR2.out Y hcc;obtain⟨r0,r1,r2,r3,r4,r5,r6,r7,r8,r9,r10,r11,r12,r13,r14,r15,r16,r17,r18,r19,r20,r21,r22⟩:=hkY.st;obtain⟨z0,z1,z2,z3,z4,z5,z6,z7,z8,z9,z10,z11,z12,z13,z14,z15,z16,z17,z18,z19,z20,z21,z22⟩:=hkY.stF;clear hkY r0 z0 r1 z1 r2 z2 r3 z3 r4 z4 r5 z5 r6 z6 r7 z7 r8 z8 r9 z9 r10 z10 r11 z11 r12 z12 r13 z13 r15 z15 r16 z16 r17 z17 r18 z18 r19 z19 r20 z20 r21 z21 r22 z22;go_upto_region 36 with fail
  rw[show(Y.setCell ⟨w0.heap.size,14,none⟩ (.slice none 0 0))=V from HV.out];clear r14 z14;cases G with
  |false=>
   go_wp2_with fail;go_ret;exact⟨by rw[HR.out,HG.out];rfl,hbf⟩
  |true=>
   go_wp2_with (refine Ap (by rfl) 34 _ rfl w0.heap.size rfl 34 (({s with tb:=[],row:=[]}:St).cells ({p with row:=⟨none,0⟩}:StP)).toArray (0,0) _ HKV.out Tryz.underlying34 rfl Au ?_);refine(HE.out V).mono ?_;rintro en we ⟨rfl,hbe⟩;have hbf2:=hbf.trans (hbe.mono hbf.size);go_wp2_with fail;go_ret;exact⟨by rw[HR.out,HG.out];rfl,hbf2⟩
 have n_insert:=Lib.hid hop;clear hop;by_cases hop:s.op=Fe
 case pos=>
  have hok:=hoks.out;obtain⟨B1,hB1⟩:∃B,Bh s.sets 1 8 GG=B:=⟨_,rfl⟩;have H1:Hid (∀Y:World,Below w2.heap.size w2 Y->Calls Tryz.prog 80 #[.slice p.sets.a s.sets.length p.sets.c,.int .i64 1,.int .i64 8,.func (.func 78) #[] #[]] Y (Ret (.bool B1) Y)):=λY hY=>by
   rw[<-hB1];exact RU 1000 ks p.sets.a p.sets.c s.sets 1 8 Y (by decide) (by decide) hok.nS hok.sets rfl (HM.out Y hY).2.2.2.2.2.2.1
  obtain⟨B2,hB2⟩:∃B,Aq s.whr=B:=⟨_,rfl⟩;have H2:Hid (∀Y:World,Below w2.heap.size w2 Y->Calls Tryz.prog 81 #[.agg #[.string ⟨s.whr.op.toArray⟩,.int .i64 s.whr.v.k,.int .i64 s.whr.v.i,.string ⟨s.whr.v.s.toArray⟩,.string ⟨s.whr.s.toArray⟩,.slice p.whr.a s.whr.l.length p.whr.c]] Y (Ret (.bool B2) Y)):=λY hY=>by
   rw[<-hB2];exact ES s.whr p.whr.a p.whr.c kw Y hok.whr (Ed (HM.out Y hY).2.2.2.2.2.2.2 (Nat.le_refl _))
  obtain⟨E,hE⟩:∃E,Cf ({s with tb:=[],sets:=[],whr:=AL}:St)=E:=⟨_,rfl⟩;have HE:Hid (∀Y:World,Calls Tryz.prog 83 #[.agg (({s with tb:=[],sets:=[],whr:=AL}:St).cells ({p with sets:=⟨none,0⟩,whr:=⟨none,0⟩}:StP)).toArray] Y (Ret (.bool E) Y)):=Ea ({s with tb:=[],sets:=[],whr:=AL}:St) ({p with sets:=⟨none,0⟩,whr:=⟨none,0⟩}:StP) ⟨sl0,hok.ot,hok.key,hok.role,hok.nN,hok.nC,hok.nU,hok.nR,hok.nW,sl0⟩ hE;have hR:Am s=((N&&B1&&B2)&&E):=by
   unfold Am;iterate 3(rw[if_neg (by rw[hop];first|done|decide)])
   rw[if_pos (by rw[hop];first|done|decide)];rw[hE,HNN.out,hB1,hB2]
  rw[HR0.out]at hR;have HR:=Lib.hid hR;have o_create:(s.op==[99,114,101,97,116,101])=false:=by rw[hop];rfl
  have o_drop:(s.op==[100,114,111,112])=false:=by rw[hop];rfl
  have o_insert:(s.op==[105,110,115,101,114,116])=false:=by rw[hop];rfl
  have o_update:(s.op==[117,112,100,97,116,101])=true:=by rw[hop];rfl
  clear hR hE hB1 hB2 hok hop HR0 HNN hoks HMQ HM;go_upto_region 15 with fail
  clear s0;go_cut [4] (λg wx=>g=.bool (N&&B1&&B2)/\Below w2.heap.size w2 wx)
  case first=>as_aux_lemma=>
   cases N with
   |false=>
    go_wp2_with fail;go_meet;exact⟨rfl,hcn⟩
   |true=>
    obtain⟨s0,s1,s2,s3,s4,s5,s6,s7,s8,s9,s10,s11,s12,s13,s14,s15,s16,s17,s18,s19,s20,s21,s22⟩:=HS2.out wn hcn;go_wp2_with fail;refine(H1.out wn hcn).mono ?_;rintro en wx ⟨rfl,hbx⟩;have hcx:Below w2.heap.size w2 wx:=hcn.trans (hbx.mono hcn.size);have hzx:=hcx.size;clear s0 s1 s2 s3 s4 s5 s6 s7 s8 s9 s10 s11 s12 s13 s14 s15 s16 s17 s18 s19 s20 s21 s22;cases B1 with
    |false=>
     go_wp2_with fail;go_meet;exact⟨rfl,hcx⟩
    |true=>
     obtain⟨s0,s1,s2,s3,s4,s5,s6,s7,s8,s9,s10,s11,s12,s13,s14,s15,s16,s17,s18,s19,s20,s21,s22⟩:=HS2.out wx hcx;go_wp2_with fail;refine(H2.out wx hcx).mono ?_;rintro en wy ⟨rfl,hby⟩;have hcy:Below w2.heap.size w2 wy:=hcx.trans (hby.mono hcx.size);have hzy:=hcy.size;clear s0 s1 s2 s3 s4 s5 s6 s7 s8 s9 s10 s11 s12 s13 s14 s15 s16 s17 s18 s19 s20 s21 s22;go_wp2_with fail;go_meet;exact⟨rfl,hcy⟩
  obtain⟨rfl,hcc⟩:=hcut;obtain⟨Y,rfl⟩:∃W,W=wc:=⟨_,rfl⟩;obtain⟨G,hG⟩:∃G,(N&&B1&&B2)=G:=⟨_,rfl⟩;rw[hG];have HG:=Lib.hid hG;have hzc:=hcc.size;obtain⟨V,hV⟩:∃V,(((((((Y.setCell ⟨w0.heap.size,15,none⟩ (.slice none 0 0)).setCell ⟨w0.heap.size,16,none⟩ (.string ⟨#[]⟩)).setCell ⟨w0.heap.size,17,none⟩ (.int .i64 0)).setCell ⟨w0.heap.size,18,none⟩ (.int .i64 0)).setCell ⟨w0.heap.size,19,none⟩ (.string ⟨#[]⟩)).setCell ⟨w0.heap.size,20,none⟩ (.string ⟨#[]⟩)).setCell ⟨w0.heap.size,21,none⟩ (.slice none 0 0))=V:=⟨_,rfl⟩;have kV:Blk V w0.heap.size 34 (({s with tb:=[],sets:=[],whr:=AL}:St).cells ({p with sets:=⟨none,0⟩,whr:=⟨none,0⟩}:StP)).toArray:=by
   rw[<-hV];exact(Jo (QT (HR2.out Y hcc)))
  have hbV:Below w0.heap.size Y V:=by rw[<-hV];exact(bwS (bwS (bwS (bwS (bwS (bwS (bwS (Below.refl w0.heap.size Y) (Nat.le_refl _)) (Nat.le_refl _)) (Nat.le_refl _)) (Nat.le_refl _)) (Nat.le_refl _)) (Nat.le_refl _)) (Nat.le_refl _))
  have HV:=Lib.hid hV;have HKV:=Lib.hid kV;have hbf:=HBB.out Y V hcc hbV;clear hV kV hbV hG;have hkY:=HR2.out Y hcc;obtain⟨r0,r1,r2,r3,r4,r5,r6,r7,r8,r9,r10,r11,r12,r13,r14,r15,r16,r17,r18,r19,r20,r21,r22⟩:=hkY.st;obtain⟨z0,z1,z2,z3,z4,z5,z6,z7,z8,z9,z10,z11,z12,z13,z14,z15,z16,z17,z18,z19,z20,z21,z22⟩:=hkY.stF;clear hkY r0 z0 r1 z1 r2 z2 r3 z3 r4 z4 r5 z5 r6 z6 r7 z7 r8 z8 r9 z9 r10 z10 r11 z11 r12 z12 r13 z13 r14 z14 r22 z22;go_upto_region 36 with fail
  rw[show(((((((Y.setCell ⟨w0.heap.size,15,none⟩ (.slice none 0 0)).setCell ⟨w0.heap.size,16,none⟩ (.string ⟨#[]⟩)).setCell ⟨w0.heap.size,17,none⟩ (.int .i64 0)).setCell ⟨w0.heap.size,18,none⟩ (.int .i64 0)).setCell ⟨w0.heap.size,19,none⟩ (.string ⟨#[]⟩)).setCell ⟨w0.heap.size,20,none⟩ (.string ⟨#[]⟩)).setCell ⟨w0.heap.size,21,none⟩ (.slice none 0 0))=V from HV.out];clear r15 z15 r16 z16 r17 z17 r18 z18 r19 z19 r20 z20 r21 z21;cases G with
  |false=>
   go_wp2_with fail;go_ret;exact⟨by rw[HR.out,HG.out];rfl,hbf⟩
  |true=>
   go_wp2_with (refine Ap (by rfl) 34 _ rfl w0.heap.size rfl 34 (({s with tb:=[],sets:=[],whr:=AL}:St).cells ({p with sets:=⟨none,0⟩,whr:=⟨none,0⟩}:StP)).toArray (0,0) _ HKV.out Tryz.underlying34 rfl Au ?_);refine(HE.out V).mono ?_;rintro en we ⟨rfl,hbe⟩;have hbf2:=hbf.trans (hbe.mono hbf.size);go_wp2_with fail;go_ret;exact⟨by rw[HR.out,HG.out];rfl,hbf2⟩
 have n_update:=Lib.hid hop;clear hop;by_cases hop:s.op=Eo
 case pos=>
  have hok:=hoks.out;obtain⟨B1,hB1⟩:∃B,Aq s.whr=B:=⟨_,rfl⟩;have H1:Hid (∀Y:World,Below w2.heap.size w2 Y->Calls Tryz.prog 81 #[.agg #[.string ⟨s.whr.op.toArray⟩,.int .i64 s.whr.v.k,.int .i64 s.whr.v.i,.string ⟨s.whr.v.s.toArray⟩,.string ⟨s.whr.s.toArray⟩,.slice p.whr.a s.whr.l.length p.whr.c]] Y (Ret (.bool B1) Y)):=λY hY=>by
   rw[<-hB1];exact ES s.whr p.whr.a p.whr.c kw Y hok.whr (Ed (HM.out Y hY).2.2.2.2.2.2.2 (Nat.le_refl _))
  obtain⟨E,hE⟩:∃E,Cf ({s with tb:=[],whr:=AL}:St)=E:=⟨_,rfl⟩;have HE:Hid (∀Y:World,Calls Tryz.prog 83 #[.agg (({s with tb:=[],whr:=AL}:St).cells ({p with whr:=⟨none,0⟩}:StP)).toArray] Y (Ret (.bool E) Y)):=Ea ({s with tb:=[],whr:=AL}:St) ({p with whr:=⟨none,0⟩}:StP) ⟨sl0,hok.ot,hok.key,hok.role,hok.nN,hok.nC,hok.nU,hok.nR,hok.nW,hok.nS⟩ hE;have hR:Am s=((N&&B1)&&E):=by
   unfold Am;iterate 4(rw[if_neg (by rw[hop];first|done|decide)])
   rw[if_pos (by rw[hop];first|done|decide)];rw[hE,HNN.out,hB1]
  rw[HR0.out]at hR;have HR:=Lib.hid hR;have o_create:(s.op==[99,114,101,97,116,101])=false:=by rw[hop];rfl
  have o_drop:(s.op==[100,114,111,112])=false:=by rw[hop];rfl
  have o_insert:(s.op==[105,110,115,101,114,116])=false:=by rw[hop];rfl
  have o_update:(s.op==[117,112,100,97,116,101])=false:=by rw[hop];rfl
  have o_delete:(s.op==[100,101,108,101,116,101])=true:=by rw[hop];rfl
  clear hR hE hB1 hok hop HR0 HNN hoks HMQ HM;go_upto_region 19 with fail
  clear s0;go_cut [4] (λg wx=>g=.bool (N&&B1)/\Below w2.heap.size w2 wx)
  case first=>as_aux_lemma=>
   cases N with
   |false=>
    go_wp2_with fail;go_meet;exact⟨rfl,hcn⟩
   |true=>
    obtain⟨s0,s1,s2,s3,s4,s5,s6,s7,s8,s9,s10,s11,s12,s13,s14,s15,s16,s17,s18,s19,s20,s21,s22⟩:=HS2.out wn hcn;go_wp2_with fail;refine(H1.out wn hcn).mono ?_;rintro en wx ⟨rfl,hbx⟩;have hcx:Below w2.heap.size w2 wx:=hcn.trans (hbx.mono hcn.size);have hzx:=hcx.size;clear s0 s1 s2 s3 s4 s5 s6 s7 s8 s9 s10 s11 s12 s13 s14 s15 s16 s17 s18 s19 s20 s21 s22;go_wp2_with fail;go_meet;exact⟨rfl,hcx⟩
  obtain⟨rfl,hcc⟩:=hcut;obtain⟨Y,rfl⟩:∃W,W=wc:=⟨_,rfl⟩;obtain⟨G,hG⟩:∃G,(N&&B1)=G:=⟨_,rfl⟩;rw[hG];have HG:=Lib.hid hG;have hzc:=hcc.size;obtain⟨V,hV⟩:∃V,((((((Y.setCell ⟨w0.heap.size,16,none⟩ (.string ⟨#[]⟩)).setCell ⟨w0.heap.size,17,none⟩ (.int .i64 0)).setCell ⟨w0.heap.size,18,none⟩ (.int .i64 0)).setCell ⟨w0.heap.size,19,none⟩ (.string ⟨#[]⟩)).setCell ⟨w0.heap.size,20,none⟩ (.string ⟨#[]⟩)).setCell ⟨w0.heap.size,21,none⟩ (.slice none 0 0))=V:=⟨_,rfl⟩;have kV:Blk V w0.heap.size 34 (({s with tb:=[],whr:=AL}:St).cells ({p with whr:=⟨none,0⟩}:StP)).toArray:=by
   rw[<-hV];exact(Jo (HR2.out Y hcc))
  have hbV:Below w0.heap.size Y V:=by rw[<-hV];exact(bwS (bwS (bwS (bwS (bwS (bwS (Below.refl w0.heap.size Y) (Nat.le_refl _)) (Nat.le_refl _)) (Nat.le_refl _)) (Nat.le_refl _)) (Nat.le_refl _)) (Nat.le_refl _))
  have HV:=Lib.hid hV;have HKV:=Lib.hid kV;have hbf:=HBB.out Y V hcc hbV;clear hV kV hbV hG;have hkY:=HR2.out Y hcc;obtain⟨r0,r1,r2,r3,r4,r5,r6,r7,r8,r9,r10,r11,r12,r13,r14,r15,r16,r17,r18,r19,r20,r21,r22⟩:=hkY.st;obtain⟨z0,z1,z2,z3,z4,z5,z6,z7,z8,z9,z10,z11,z12,z13,z14,z15,z16,z17,z18,z19,z20,z21,z22⟩:=hkY.stF;clear hkY r0 z0 r1 z1 r2 z2 r3 z3 r4 z4 r5 z5 r6 z6 r7 z7 r8 z8 r9 z9 r10 z10 r11 z11 r12 z12 r13 z13 r14 z14 r15 z15 r22 z22;go_upto_region 36 with fail
  rw[show((((((Y.setCell ⟨w0.heap.size,16,none⟩ (.string ⟨#[]⟩)).setCell ⟨w0.heap.size,17,none⟩ (.int .i64 0)).setCell ⟨w0.heap.size,18,none⟩ (.int .i64 0)).setCell ⟨w0.heap.size,19,none⟩ (.string ⟨#[]⟩)).setCell ⟨w0.heap.size,20,none⟩ (.string ⟨#[]⟩)).setCell ⟨w0.heap.size,21,none⟩ (.slice none 0 0))=V from HV.out];clear r16 z16 r17 z17 r18 z18 r19 z19 r20 z20 r21 z21;cases G with
  |false=>
   go_wp2_with fail;go_ret;exact⟨by rw[HR.out,HG.out];rfl,hbf⟩
  |true=>
   go_wp2_with (refine Ap (by rfl) 34 _ rfl w0.heap.size rfl 34 (({s with tb:=[],whr:=AL}:St).cells ({p with whr:=⟨none,0⟩}:StP)).toArray (0,0) _ HKV.out Tryz.underlying34 rfl Au ?_);refine(HE.out V).mono ?_;rintro en we ⟨rfl,hbe⟩;have hbf2:=hbf.trans (hbe.mono hbf.size);go_wp2_with fail;go_ret;exact⟨by rw[HR.out,HG.out];rfl,hbf2⟩
 have n_delete:=Lib.hid hop;clear hop;by_cases hop:s.op=FH
 case pos=>
  have hok:=hoks.out;obtain⟨B1,hB1⟩:∃B,Aq s.whr=B:=⟨_,rfl⟩;have H1:Hid (∀Y:World,Below w2.heap.size w2 Y->Calls Tryz.prog 81 #[.agg #[.string ⟨s.whr.op.toArray⟩,.int .i64 s.whr.v.k,.int .i64 s.whr.v.i,.string ⟨s.whr.v.s.toArray⟩,.string ⟨s.whr.s.toArray⟩,.slice p.whr.a s.whr.l.length p.whr.c]] Y (Ret (.bool B1) Y)):=λY hY=>by
   rw[<-hB1];exact ES s.whr p.whr.a p.whr.c kw Y hok.whr (Ed (HM.out Y hY).2.2.2.2.2.2.2 (Nat.le_refl _))
  obtain⟨E,hE⟩:∃E,Cf ({s with tb:=[],whr:=AL}:St)=E:=⟨_,rfl⟩;have HE:Hid (∀Y:World,Calls Tryz.prog 83 #[.agg (({s with tb:=[],whr:=AL}:St).cells ({p with whr:=⟨none,0⟩}:StP)).toArray] Y (Ret (.bool E) Y)):=Ea ({s with tb:=[],whr:=AL}:St) ({p with whr:=⟨none,0⟩}:StP) ⟨sl0,hok.ot,hok.key,hok.role,hok.nN,hok.nC,hok.nU,hok.nR,hok.nW,hok.nS⟩ hE;have hR:Am s=((N&&B1)&&E):=by
   unfold Am;iterate 4(rw[if_neg (by rw[hop];first|done|decide)])
   rw[if_pos (by rw[hop];first|done|decide)];rw[hE,HNN.out,hB1]
  rw[HR0.out]at hR;have HR:=Lib.hid hR;have o_create:(s.op==[99,114,101,97,116,101])=false:=by rw[hop];rfl
  have o_drop:(s.op==[100,114,111,112])=false:=by rw[hop];rfl
  have o_insert:(s.op==[105,110,115,101,114,116])=false:=by rw[hop];rfl
  have o_update:(s.op==[117,112,100,97,116,101])=false:=by rw[hop];rfl
  have o_delete:(s.op==[100,101,108,101,116,101])=false:=by rw[hop];rfl
  have o_select:(s.op==[115,101,108,101,99,116])=true:=by rw[hop];rfl
  clear hR hE hB1 hok hop HR0 HNN hoks HMQ HM;go_upto_region 19 with fail
  clear s0;go_cut [4] (λg wx=>g=.bool (N&&B1)/\Below w2.heap.size w2 wx)
  case first=>as_aux_lemma=>
   cases N with
   |false=>
    go_wp2_with fail;go_meet;exact⟨rfl,hcn⟩
   |true=>
    obtain⟨s0,s1,s2,s3,s4,s5,s6,s7,s8,s9,s10,s11,s12,s13,s14,s15,s16,s17,s18,s19,s20,s21,s22⟩:=HS2.out wn hcn;go_wp2_with fail;refine(H1.out wn hcn).mono ?_;rintro en wx ⟨rfl,hbx⟩;have hcx:Below w2.heap.size w2 wx:=hcn.trans (hbx.mono hcn.size);have hzx:=hcx.size;clear s0 s1 s2 s3 s4 s5 s6 s7 s8 s9 s10 s11 s12 s13 s14 s15 s16 s17 s18 s19 s20 s21 s22;go_wp2_with fail;go_meet;exact⟨rfl,hcx⟩
  obtain⟨rfl,hcc⟩:=hcut;obtain⟨Y,rfl⟩:∃W,W=wc:=⟨_,rfl⟩;obtain⟨G,hG⟩:∃G,(N&&B1)=G:=⟨_,rfl⟩;rw[hG];have HG:=Lib.hid hG;have hzc:=hcc.size;obtain⟨V,hV⟩:∃V,((((((Y.setCell ⟨w0.heap.size,16,none⟩ (.string ⟨#[]⟩)).setCell ⟨w0.heap.size,17,none⟩ (.int .i64 0)).setCell ⟨w0.heap.size,18,none⟩ (.int .i64 0)).setCell ⟨w0.heap.size,19,none⟩ (.string ⟨#[]⟩)).setCell ⟨w0.heap.size,20,none⟩ (.string ⟨#[]⟩)).setCell ⟨w0.heap.size,21,none⟩ (.slice none 0 0))=V:=⟨_,rfl⟩;have kV:Blk V w0.heap.size 34 (({s with tb:=[],whr:=AL}:St).cells ({p with whr:=⟨none,0⟩}:StP)).toArray:=by
   rw[<-hV];exact(Jo (HR2.out Y hcc))
  have hbV:Below w0.heap.size Y V:=by rw[<-hV];exact(bwS (bwS (bwS (bwS (bwS (bwS (Below.refl w0.heap.size Y) (Nat.le_refl _)) (Nat.le_refl _)) (Nat.le_refl _)) (Nat.le_refl _)) (Nat.le_refl _)) (Nat.le_refl _))
  have HV:=Lib.hid hV;have HKV:=Lib.hid kV;have hbf:=HBB.out Y V hcc hbV;clear hV kV hbV hG;have hkY:=HR2.out Y hcc;obtain⟨r0,r1,r2,r3,r4,r5,r6,r7,r8,r9,r10,r11,r12,r13,r14,r15,r16,r17,r18,r19,r20,r21,r22⟩:=hkY.st;obtain⟨z0,z1,z2,z3,z4,z5,z6,z7,z8,z9,z10,z11,z12,z13,z14,z15,z16,z17,z18,z19,z20,z21,z22⟩:=hkY.stF;clear hkY r0 z0 r1 z1 r2 z2 r3 z3 r4 z4 r5 z5 r6 z6 r7 z7 r8 z8 r9 z9 r10 z10 r11 z11 r12 z12 r13 z13 r14 z14 r15 z15 r22 z22;go_upto_region 36 with fail
  rw[show((((((Y.setCell ⟨w0.heap.size,16,none⟩ (.string ⟨#[]⟩)).setCell ⟨w0.heap.size,17,none⟩ (.int .i64 0)).setCell ⟨w0.heap.size,18,none⟩ (.int .i64 0)).setCell ⟨w0.heap.size,19,none⟩ (.string ⟨#[]⟩)).setCell ⟨w0.heap.size,20,none⟩ (.string ⟨#[]⟩)).setCell ⟨w0.heap.size,21,none⟩ (.slice none 0 0))=V from HV.out];clear r16 z16 r17 z17 r18 z18 r19 z19 r20 z20 r21 z21;cases G with
  |false=>
   go_wp2_with fail;go_ret;exact⟨by rw[HR.out,HG.out];rfl,hbf⟩
  |true=>
   go_wp2_with (refine Ap (by rfl) 34 _ rfl w0.heap.size rfl 34 (({s with tb:=[],whr:=AL}:St).cells ({p with whr:=⟨none,0⟩}:StP)).toArray (0,0) _ HKV.out Tryz.underlying34 rfl Au ?_);refine(HE.out V).mono ?_;rintro en we ⟨rfl,hbe⟩;have hbf2:=hbf.trans (hbe.mono hbf.size);go_wp2_with fail;go_ret;exact⟨by rw[HR.out,HG.out];rfl,hbf2⟩
 have n_select:=Lib.hid hop;clear hop;by_cases hop:s.op=Hw
 case pos=>
  have hok:=hoks.out;obtain⟨B1,hB1⟩:∃B,Ai s.role=B:=⟨_,rfl⟩;have H1:Hid (∀Y:World,Below w2.heap.size w2 Y->Calls Tryz.prog 74 #[.string ⟨s.role.toArray⟩] Y (Ret (.bool B1) Y)):=λY hY=>by
   rw[<-hB1];exact Di rfl hok.role Y
  obtain⟨E,hE⟩:∃E,Cf ({s with tb:=[],role:=[]}:St)=E:=⟨_,rfl⟩;have HE:Hid (∀Y:World,Calls Tryz.prog 83 #[.agg (({s with tb:=[],role:=[]}:St).cells (p:StP)).toArray] Y (Ret (.bool E) Y)):=Ea ({s with tb:=[],role:=[]}:St) (p:StP) ⟨sl0,hok.ot,hok.key,sl0,hok.nN,hok.nC,hok.nU,hok.nR,hok.nW,hok.nS⟩ hE;have hR:Am s=((N&&B1)&&E):=by
   unfold Am;iterate 5(rw[if_neg (by rw[hop];first|done|decide)])
   rw[if_pos (by rw[hop];first|done|decide)];rw[hE,HNN.out,hB1]
  rw[HR0.out]at hR;have HR:=Lib.hid hR;have o_create:(s.op==[99,114,101,97,116,101])=false:=by rw[hop];rfl
  have o_drop:(s.op==[100,114,111,112])=false:=by rw[hop];rfl
  have o_insert:(s.op==[105,110,115,101,114,116])=false:=by rw[hop];rfl
  have o_update:(s.op==[117,112,100,97,116,101])=false:=by rw[hop];rfl
  have o_delete:(s.op==[100,101,108,101,116,101])=false:=by rw[hop];rfl
  have o_select:(s.op==[115,101,108,101,99,116])=false:=by rw[hop];rfl
  have o_read:(s.op==[114,101,97,100])=true:=by rw[hop];rfl
  clear hR hE hB1 hok hop HR0 HNN hoks HMQ HM;go_upto_region 25 with fail
  clear s0;go_cut [4] (λg wx=>g=.bool (N&&B1)/\Below w2.heap.size w2 wx)
  case first=>as_aux_lemma=>
   cases N with
   |false=>
    go_wp2_with fail;go_meet;exact⟨rfl,hcn⟩
   |true=>
    obtain⟨s0,s1,s2,s3,s4,s5,s6,s7,s8,s9,s10,s11,s12,s13,s14,s15,s16,s17,s18,s19,s20,s21,s22⟩:=HS2.out wn hcn;go_wp2_with fail;refine(H1.out wn hcn).mono ?_;rintro en wx ⟨rfl,hbx⟩;have hcx:Below w2.heap.size w2 wx:=hcn.trans (hbx.mono hcn.size);have hzx:=hcx.size;clear s0 s1 s2 s3 s4 s5 s6 s7 s8 s9 s10 s11 s12 s13 s14 s15 s16 s17 s18 s19 s20 s21 s22;go_wp2_with fail;go_meet;exact⟨rfl,hcx⟩
  obtain⟨rfl,hcc⟩:=hcut;obtain⟨Y,rfl⟩:∃W,W=wc:=⟨_,rfl⟩;obtain⟨G,hG⟩:∃G,(N&&B1)=G:=⟨_,rfl⟩;rw[hG];have HG:=Lib.hid hG;have hzc:=hcc.size;obtain⟨V,hV⟩:∃V,(Y.setCell ⟨w0.heap.size,22,none⟩ (.string ⟨#[]⟩))=V:=⟨_,rfl⟩;have kV:Blk V w0.heap.size 34 (({s with tb:=[],role:=[]}:St).cells (p:StP)).toArray:=by
   rw[<-hV];exact(Fj (HR2.out Y hcc))
  have hbV:Below w0.heap.size Y V:=by rw[<-hV];exact(bwS (Below.refl w0.heap.size Y) (Nat.le_refl _))
  have HV:=Lib.hid hV;have HKV:=Lib.hid kV;have hbf:=HBB.out Y V hcc hbV;clear hV kV hbV hG;have hkY:=HR2.out Y hcc;obtain⟨r0,r1,r2,r3,r4,r5,r6,r7,r8,r9,r10,r11,r12,r13,r14,r15,r16,r17,r18,r19,r20,r21,r22⟩:=hkY.st;obtain⟨z0,z1,z2,z3,z4,z5,z6,z7,z8,z9,z10,z11,z12,z13,z14,z15,z16,z17,z18,z19,z20,z21,z22⟩:=hkY.stF;clear hkY r0 z0 r1 z1 r2 z2 r3 z3 r4 z4 r5 z5 r6 z6 r7 z7 r8 z8 r9 z9 r10 z10 r11 z11 r12 z12 r13 z13 r14 z14 r15 z15 r16 z16 r17 z17 r18 z18 r19 z19 r20 z20 r21 z21;go_upto_region 36 with fail
  rw[show(Y.setCell ⟨w0.heap.size,22,none⟩ (.string ⟨#[]⟩))=V from HV.out];clear r22 z22;cases G with
  |false=>
   go_wp2_with fail;go_ret;exact⟨by rw[HR.out,HG.out];rfl,hbf⟩
  |true=>
   go_wp2_with (refine Ap (by rfl) 34 _ rfl w0.heap.size rfl 34 (({s with tb:=[],role:=[]}:St).cells (p:StP)).toArray (0,0) _ HKV.out Tryz.underlying34 rfl Au ?_);refine(HE.out V).mono ?_;rintro en we ⟨rfl,hbe⟩;have hbf2:=hbf.trans (hbe.mono hbf.size);go_wp2_with fail;go_ret;exact⟨by rw[HR.out,HG.out];rfl,hbf2⟩
 have n_read:=Lib.hid hop;clear hop;by_cases hop:s.op=FV
 case pos=>
  have hok:=hoks.out;obtain⟨B1,hB1⟩:∃B,Ai s.role=B:=⟨_,rfl⟩;have H1:Hid (∀Y:World,Below w2.heap.size w2 Y->Calls Tryz.prog 74 #[.string ⟨s.role.toArray⟩] Y (Ret (.bool B1) Y)):=λY hY=>by
   rw[<-hB1];exact Di rfl hok.role Y
  obtain⟨E,hE⟩:∃E,Cf ({s with tb:=[],role:=[]}:St)=E:=⟨_,rfl⟩;have HE:Hid (∀Y:World,Calls Tryz.prog 83 #[.agg (({s with tb:=[],role:=[]}:St).cells (p:StP)).toArray] Y (Ret (.bool E) Y)):=Ea ({s with tb:=[],role:=[]}:St) (p:StP) ⟨sl0,hok.ot,hok.key,sl0,hok.nN,hok.nC,hok.nU,hok.nR,hok.nW,hok.nS⟩ hE;have hR:Am s=((N&&B1)&&E):=by
   unfold Am;iterate 5(rw[if_neg (by rw[hop];first|done|decide)])
   rw[if_pos (by rw[hop];first|done|decide)];rw[hE,HNN.out,hB1]
  rw[HR0.out]at hR;have HR:=Lib.hid hR;have o_create:(s.op==[99,114,101,97,116,101])=false:=by rw[hop];rfl
  have o_drop:(s.op==[100,114,111,112])=false:=by rw[hop];rfl
  have o_insert:(s.op==[105,110,115,101,114,116])=false:=by rw[hop];rfl
  have o_update:(s.op==[117,112,100,97,116,101])=false:=by rw[hop];rfl
  have o_delete:(s.op==[100,101,108,101,116,101])=false:=by rw[hop];rfl
  have o_select:(s.op==[115,101,108,101,99,116])=false:=by rw[hop];rfl
  have o_read:(s.op==[114,101,97,100])=false:=by rw[hop];rfl
  have o_write:(s.op==[119,114,105,116,101])=true:=by rw[hop];rfl
  clear hR hE hB1 hok hop HR0 HNN hoks HMQ HM;go_upto_region 25 with fail
  clear s0;go_cut [4] (λg wx=>g=.bool (N&&B1)/\Below w2.heap.size w2 wx)
  case first=>as_aux_lemma=>
   cases N with
   |false=>
    go_wp2_with fail;go_meet;exact⟨rfl,hcn⟩
   |true=>
    obtain⟨s0,s1,s2,s3,s4,s5,s6,s7,s8,s9,s10,s11,s12,s13,s14,s15,s16,s17,s18,s19,s20,s21,s22⟩:=HS2.out wn hcn;go_wp2_with fail;refine(H1.out wn hcn).mono ?_;rintro en wx ⟨rfl,hbx⟩;have hcx:Below w2.heap.size w2 wx:=hcn.trans (hbx.mono hcn.size);have hzx:=hcx.size;clear s0 s1 s2 s3 s4 s5 s6 s7 s8 s9 s10 s11 s12 s13 s14 s15 s16 s17 s18 s19 s20 s21 s22;go_wp2_with fail;go_meet;exact⟨rfl,hcx⟩
  obtain⟨rfl,hcc⟩:=hcut;obtain⟨Y,rfl⟩:∃W,W=wc:=⟨_,rfl⟩;obtain⟨G,hG⟩:∃G,(N&&B1)=G:=⟨_,rfl⟩;rw[hG];have HG:=Lib.hid hG;have hzc:=hcc.size;obtain⟨V,hV⟩:∃V,(Y.setCell ⟨w0.heap.size,22,none⟩ (.string ⟨#[]⟩))=V:=⟨_,rfl⟩;have kV:Blk V w0.heap.size 34 (({s with tb:=[],role:=[]}:St).cells (p:StP)).toArray:=by
   rw[<-hV];exact(Fj (HR2.out Y hcc))
  have hbV:Below w0.heap.size Y V:=by rw[<-hV];exact(bwS (Below.refl w0.heap.size Y) (Nat.le_refl _))
  have HV:=Lib.hid hV;have HKV:=Lib.hid kV;have hbf:=HBB.out Y V hcc hbV;clear hV kV hbV hG;have hkY:=HR2.out Y hcc;obtain⟨r0,r1,r2,r3,r4,r5,r6,r7,r8,r9,r10,r11,r12,r13,r14,r15,r16,r17,r18,r19,r20,r21,r22⟩:=hkY.st;obtain⟨z0,z1,z2,z3,z4,z5,z6,z7,z8,z9,z10,z11,z12,z13,z14,z15,z16,z17,z18,z19,z20,z21,z22⟩:=hkY.stF;clear hkY r0 z0 r1 z1 r2 z2 r3 z3 r4 z4 r5 z5 r6 z6 r7 z7 r8 z8 r9 z9 r10 z10 r11 z11 r12 z12 r13 z13 r14 z14 r15 z15 r16 z16 r17 z17 r18 z18 r19 z19 r20 z20 r21 z21;go_upto_region 36 with fail
  rw[show(Y.setCell ⟨w0.heap.size,22,none⟩ (.string ⟨#[]⟩))=V from HV.out];clear r22 z22;cases G with
  |false=>
   go_wp2_with fail;go_ret;exact⟨by rw[HR.out,HG.out];rfl,hbf⟩
  |true=>
   go_wp2_with (refine Ap (by rfl) 34 _ rfl w0.heap.size rfl 34 (({s with tb:=[],role:=[]}:St).cells (p:StP)).toArray (0,0) _ HKV.out Tryz.underlying34 rfl Au ?_);refine(HE.out V).mono ?_;rintro en we ⟨rfl,hbe⟩;have hbf2:=hbf.trans (hbe.mono hbf.size);go_wp2_with fail;go_ret;exact⟨by rw[HR.out,HG.out];rfl,hbf2⟩
 have n_write:=Lib.hid hop;clear hop;by_cases hop:s.op=EZ
 case pos=>
  have hok:=hoks.out;obtain⟨B1,hB1⟩:∃B,Ai s.role=B:=⟨_,rfl⟩;have H1:Hid (∀Y:World,Below w2.heap.size w2 Y->Calls Tryz.prog 74 #[.string ⟨s.role.toArray⟩] Y (Ret (.bool B1) Y)):=λY hY=>by
   rw[<-hB1];exact Di rfl hok.role Y
  obtain⟨E,hE⟩:∃E,Cf ({s with tb:=[],role:=[]}:St)=E:=⟨_,rfl⟩;have HE:Hid (∀Y:World,Calls Tryz.prog 83 #[.agg (({s with tb:=[],role:=[]}:St).cells (p:StP)).toArray] Y (Ret (.bool E) Y)):=Ea ({s with tb:=[],role:=[]}:St) (p:StP) ⟨sl0,hok.ot,hok.key,sl0,hok.nN,hok.nC,hok.nU,hok.nR,hok.nW,hok.nS⟩ hE;have hR:Am s=((N&&B1)&&E):=by
   unfold Am;iterate 5(rw[if_neg (by rw[hop];first|done|decide)])
   rw[if_pos (by rw[hop];first|done|decide)];rw[hE,HNN.out,hB1]
  rw[HR0.out]at hR;have HR:=Lib.hid hR;have o_create:(s.op==[99,114,101,97,116,101])=false:=by rw[hop];rfl
  have o_drop:(s.op==[100,114,111,112])=false:=by rw[hop];rfl
  have o_insert:(s.op==[105,110,115,101,114,116])=false:=by rw[hop];rfl
  have o_update:(s.op==[117,112,100,97,116,101])=false:=by rw[hop];rfl
  have o_delete:(s.op==[100,101,108,101,116,101])=false:=by rw[hop];rfl
  have o_select:(s.op==[115,101,108,101,99,116])=false:=by rw[hop];rfl
  have o_read:(s.op==[114,101,97,100])=false:=by rw[hop];rfl
  have o_write:(s.op==[119,114,105,116,101])=false:=by rw[hop];rfl
  have o_unread:(s.op==[117,110,114,101,97,100])=true:=by rw[hop];rfl
  clear hR hE hB1 hok hop HR0 HNN hoks HMQ HM;go_upto_region 25 with fail
  clear s0;go_cut [4] (λg wx=>g=.bool (N&&B1)/\Below w2.heap.size w2 wx)
  case first=>as_aux_lemma=>
   cases N with
   |false=>
    go_wp2_with fail;go_meet;exact⟨rfl,hcn⟩
   |true=>
    obtain⟨s0,s1,s2,s3,s4,s5,s6,s7,s8,s9,s10,s11,s12,s13,s14,s15,s16,s17,s18,s19,s20,s21,s22⟩:=HS2.out wn hcn;go_wp2_with fail;refine(H1.out wn hcn).mono ?_;rintro en wx ⟨rfl,hbx⟩;have hcx:Below w2.heap.size w2 wx:=hcn.trans (hbx.mono hcn.size);have hzx:=hcx.size;clear s0 s1 s2 s3 s4 s5 s6 s7 s8 s9 s10 s11 s12 s13 s14 s15 s16 s17 s18 s19 s20 s21 s22;go_wp2_with fail;go_meet;exact⟨rfl,hcx⟩
  obtain⟨rfl,hcc⟩:=hcut;obtain⟨Y,rfl⟩:∃W,W=wc:=⟨_,rfl⟩;obtain⟨G,hG⟩:∃G,(N&&B1)=G:=⟨_,rfl⟩;rw[hG];have HG:=Lib.hid hG;have hzc:=hcc.size;obtain⟨V,hV⟩:∃V,(Y.setCell ⟨w0.heap.size,22,none⟩ (.string ⟨#[]⟩))=V:=⟨_,rfl⟩;have kV:Blk V w0.heap.size 34 (({s with tb:=[],role:=[]}:St).cells (p:StP)).toArray:=by
   rw[<-hV];exact(Fj (HR2.out Y hcc))
  have hbV:Below w0.heap.size Y V:=by rw[<-hV];exact(bwS (Below.refl w0.heap.size Y) (Nat.le_refl _))
  have HV:=Lib.hid hV;have HKV:=Lib.hid kV;have hbf:=HBB.out Y V hcc hbV;clear hV kV hbV hG;have hkY:=HR2.out Y hcc;obtain⟨r0,r1,r2,r3,r4,r5,r6,r7,r8,r9,r10,r11,r12,r13,r14,r15,r16,r17,r18,r19,r20,r21,r22⟩:=hkY.st;obtain⟨z0,z1,z2,z3,z4,z5,z6,z7,z8,z9,z10,z11,z12,z13,z14,z15,z16,z17,z18,z19,z20,z21,z22⟩:=hkY.stF;clear hkY r0 z0 r1 z1 r2 z2 r3 z3 r4 z4 r5 z5 r6 z6 r7 z7 r8 z8 r9 z9 r10 z10 r11 z11 r12 z12 r13 z13 r14 z14 r15 z15 r16 z16 r17 z17 r18 z18 r19 z19 r20 z20 r21 z21;go_upto_region 36 with fail
  rw[show(Y.setCell ⟨w0.heap.size,22,none⟩ (.string ⟨#[]⟩))=V from HV.out];clear r22 z22;cases G with
  |false=>
   go_wp2_with fail;go_ret;exact⟨by rw[HR.out,HG.out];rfl,hbf⟩
  |true=>
   go_wp2_with (refine Ap (by rfl) 34 _ rfl w0.heap.size rfl 34 (({s with tb:=[],role:=[]}:St).cells (p:StP)).toArray (0,0) _ HKV.out Tryz.underlying34 rfl Au ?_);refine(HE.out V).mono ?_;rintro en we ⟨rfl,hbe⟩;have hbf2:=hbf.trans (hbe.mono hbf.size);go_wp2_with fail;go_ret;exact⟨by rw[HR.out,HG.out];rfl,hbf2⟩
 have n_unread:=Lib.hid hop;clear hop;by_cases hop:s.op=Dy
 case pos=>
  have hok:=hoks.out;obtain⟨B1,hB1⟩:∃B,Ai s.role=B:=⟨_,rfl⟩;have H1:Hid (∀Y:World,Below w2.heap.size w2 Y->Calls Tryz.prog 74 #[.string ⟨s.role.toArray⟩] Y (Ret (.bool B1) Y)):=λY hY=>by
   rw[<-hB1];exact Di rfl hok.role Y
  obtain⟨E,hE⟩:∃E,Cf ({s with tb:=[],role:=[]}:St)=E:=⟨_,rfl⟩;have HE:Hid (∀Y:World,Calls Tryz.prog 83 #[.agg (({s with tb:=[],role:=[]}:St).cells (p:StP)).toArray] Y (Ret (.bool E) Y)):=Ea ({s with tb:=[],role:=[]}:St) (p:StP) ⟨sl0,hok.ot,hok.key,sl0,hok.nN,hok.nC,hok.nU,hok.nR,hok.nW,hok.nS⟩ hE;have hR:Am s=((N&&B1)&&E):=by
   unfold Am;iterate 5(rw[if_neg (by rw[hop];first|done|decide)])
   rw[if_pos (by rw[hop];first|done|decide)];rw[hE,HNN.out,hB1]
  rw[HR0.out]at hR;have HR:=Lib.hid hR;have o_create:(s.op==[99,114,101,97,116,101])=false:=by rw[hop];rfl
  have o_drop:(s.op==[100,114,111,112])=false:=by rw[hop];rfl
  have o_insert:(s.op==[105,110,115,101,114,116])=false:=by rw[hop];rfl
  have o_update:(s.op==[117,112,100,97,116,101])=false:=by rw[hop];rfl
  have o_delete:(s.op==[100,101,108,101,116,101])=false:=by rw[hop];rfl
  have o_select:(s.op==[115,101,108,101,99,116])=false:=by rw[hop];rfl
  have o_read:(s.op==[114,101,97,100])=false:=by rw[hop];rfl
  have o_write:(s.op==[119,114,105,116,101])=false:=by rw[hop];rfl
  have o_unread:(s.op==[117,110,114,101,97,100])=false:=by rw[hop];rfl
  have o_unwrite:(s.op==[117,110,119,114,105,116,101])=true:=by rw[hop];rfl
  clear hR hE hB1 hok hop HR0 HNN hoks HMQ HM;go_upto_region 25 with fail
  clear s0;go_cut [4] (λg wx=>g=.bool (N&&B1)/\Below w2.heap.size w2 wx)
  case first=>as_aux_lemma=>
   cases N with
   |false=>
    go_wp2_with fail;go_meet;exact⟨rfl,hcn⟩
   |true=>
    obtain⟨s0,s1,s2,s3,s4,s5,s6,s7,s8,s9,s10,s11,s12,s13,s14,s15,s16,s17,s18,s19,s20,s21,s22⟩:=HS2.out wn hcn;go_wp2_with fail;refine(H1.out wn hcn).mono ?_;rintro en wx ⟨rfl,hbx⟩;have hcx:Below w2.heap.size w2 wx:=hcn.trans (hbx.mono hcn.size);have hzx:=hcx.size;clear s0 s1 s2 s3 s4 s5 s6 s7 s8 s9 s10 s11 s12 s13 s14 s15 s16 s17 s18 s19 s20 s21 s22;go_wp2_with fail;go_meet;exact⟨rfl,hcx⟩
  obtain⟨rfl,hcc⟩:=hcut;obtain⟨Y,rfl⟩:∃W,W=wc:=⟨_,rfl⟩;obtain⟨G,hG⟩:∃G,(N&&B1)=G:=⟨_,rfl⟩;rw[hG];have HG:=Lib.hid hG;have hzc:=hcc.size;obtain⟨V,hV⟩:∃V,(Y.setCell ⟨w0.heap.size,22,none⟩ (.string ⟨#[]⟩))=V:=⟨_,rfl⟩;have kV:Blk V w0.heap.size 34 (({s with tb:=[],role:=[]}:St).cells (p:StP)).toArray:=by
   rw[<-hV];exact(Fj (HR2.out Y hcc))
  have hbV:Below w0.heap.size Y V:=by rw[<-hV];exact(bwS (Below.refl w0.heap.size Y) (Nat.le_refl _))
  have HV:=Lib.hid hV;have HKV:=Lib.hid kV;have hbf:=HBB.out Y V hcc hbV;clear hV kV hbV hG;have hkY:=HR2.out Y hcc;obtain⟨r0,r1,r2,r3,r4,r5,r6,r7,r8,r9,r10,r11,r12,r13,r14,r15,r16,r17,r18,r19,r20,r21,r22⟩:=hkY.st;obtain⟨z0,z1,z2,z3,z4,z5,z6,z7,z8,z9,z10,z11,z12,z13,z14,z15,z16,z17,z18,z19,z20,z21,z22⟩:=hkY.stF;clear hkY r0 z0 r1 z1 r2 z2 r3 z3 r4 z4 r5 z5 r6 z6 r7 z7 r8 z8 r9 z9 r10 z10 r11 z11 r12 z12 r13 z13 r14 z14 r15 z15 r16 z16 r17 z17 r18 z18 r19 z19 r20 z20 r21 z21;go_upto_region 36 with fail
  rw[show(Y.setCell ⟨w0.heap.size,22,none⟩ (.string ⟨#[]⟩))=V from HV.out];clear r22 z22;cases G with
  |false=>
   go_wp2_with fail;go_ret;exact⟨by rw[HR.out,HG.out];rfl,hbf⟩
  |true=>
   go_wp2_with (refine Ap (by rfl) 34 _ rfl w0.heap.size rfl 34 (({s with tb:=[],role:=[]}:St).cells (p:StP)).toArray (0,0) _ HKV.out Tryz.underlying34 rfl Au ?_);refine(HE.out V).mono ?_;rintro en we ⟨rfl,hbe⟩;have hbf2:=hbf.trans (hbe.mono hbf.size);go_wp2_with fail;go_ret;exact⟨by rw[HR.out,HG.out];rfl,hbf2⟩
 have n_unwrite:=Lib.hid hop;clear hop;by_cases hop:s.op=Gx
 case pos=>
  have hok:=hoks.out;obtain⟨B1,hB1⟩:∃B,Ai s.ot=B:=⟨_,rfl⟩;have H1:Hid (∀Y:World,Below w2.heap.size w2 Y->Calls Tryz.prog 74 #[.string ⟨s.ot.toArray⟩] Y (Ret (.bool B1) Y)):=λY hY=>by
   rw[<-hB1];exact Di rfl hok.ot Y
  obtain⟨B2,hB2⟩:∃B,Bh s.names 1 8 Ai=B:=⟨_,rfl⟩;have H2:Hid (∀Y:World,Below w2.heap.size w2 Y->Calls Tryz.prog 82 #[.slice p.names.a s.names.length p.names.c,.int .i64 1,.int .i64 8,.func (.func 74) #[] #[]] Y (Ret (.bool B2) Y)):=λY hY=>by
   rw[<-hB2];exact LJ p.names.a p.names.c s.names 1 8 Y (by decide) (by decide) hok.nN hok.names (HM.out Y hY).1
  obtain⟨B3,hB3⟩:∃B,Aq s.chk=B:=⟨_,rfl⟩;have H3:Hid (∀Y:World,Below w2.heap.size w2 Y->Calls Tryz.prog 81 #[.agg #[.string ⟨s.chk.op.toArray⟩,.int .i64 s.chk.v.k,.int .i64 s.chk.v.i,.string ⟨s.chk.v.s.toArray⟩,.string ⟨s.chk.s.toArray⟩,.slice p.chk.a s.chk.l.length p.chk.c]] Y (Ret (.bool B3) Y)):=λY hY=>by
   rw[<-hB3];exact ES s.chk p.chk.a p.chk.c kc Y hok.chk (Ed (HM.out Y hY).2.2.2.2.1 (Nat.le_refl _))
  obtain⟨E,hE⟩:∃E,Cf ({s with tb:=[],ot:=[],names:=[],chk:=AL}:St)=E:=⟨_,rfl⟩;have HE:Hid (∀Y:World,Calls Tryz.prog 83 #[.agg (({s with tb:=[],ot:=[],names:=[],chk:=AL}:St).cells ({p with names:=⟨none,0⟩,chk:=⟨none,0⟩}:StP)).toArray] Y (Ret (.bool E) Y)):=Ea ({s with tb:=[],ot:=[],names:=[],chk:=AL}:St) ({p with names:=⟨none,0⟩,chk:=⟨none,0⟩}:StP) ⟨sl0,sl0,hok.key,hok.role,sl0,hok.nC,hok.nU,hok.nR,hok.nW,hok.nS⟩ hE;have hR:Am s=((N&&B1&&B2&&B3)&&E):=by
   unfold Am;iterate 6(rw[if_neg (by rw[hop];first|done|decide)])
   rw[if_pos (by rw[hop];first|done|decide)];rw[hE,HNN.out,hB1,hB2,hB3]
  rw[HR0.out]at hR;have HR:=Lib.hid hR;have o_create:(s.op==[99,114,101,97,116,101])=false:=by rw[hop];rfl
  have o_drop:(s.op==[100,114,111,112])=false:=by rw[hop];rfl
  have o_insert:(s.op==[105,110,115,101,114,116])=false:=by rw[hop];rfl
  have o_update:(s.op==[117,112,100,97,116,101])=false:=by rw[hop];rfl
  have o_delete:(s.op==[100,101,108,101,116,101])=false:=by rw[hop];rfl
  have o_select:(s.op==[115,101,108,101,99,116])=false:=by rw[hop];rfl
  have o_read:(s.op==[114,101,97,100])=false:=by rw[hop];rfl
  have o_write:(s.op==[119,114,105,116,101])=false:=by rw[hop];rfl
  have o_unread:(s.op==[117,110,114,101,97,100])=false:=by rw[hop];rfl
  have o_unwrite:(s.op==[117,110,119,114,105,116,101])=false:=by rw[hop];rfl
  have o_copy:(s.op==[99,111,112,121])=true:=by rw[hop];rfl
  clear hR hE hB1 hB2 hB3 hok hop HR0 HNN hoks HMQ HM;go_upto_region 28 with fail
  clear s0;go_cut [4] (λg wx=>g=.bool (N&&B1&&B2&&B3)/\Below w2.heap.size w2 wx)
  case first=>as_aux_lemma=>
   cases N with
   |false=>
    go_wp2_with fail;go_meet;exact⟨rfl,hcn⟩
   |true=>
    obtain⟨s0,s1,s2,s3,s4,s5,s6,s7,s8,s9,s10,s11,s12,s13,s14,s15,s16,s17,s18,s19,s20,s21,s22⟩:=HS2.out wn hcn;go_wp2_with fail;refine(H1.out wn hcn).mono ?_;rintro en wx ⟨rfl,hbx⟩;have hcx:Below w2.heap.size w2 wx:=hcn.trans (hbx.mono hcn.size);have hzx:=hcx.size;clear s0 s1 s2 s3 s4 s5 s6 s7 s8 s9 s10 s11 s12 s13 s14 s15 s16 s17 s18 s19 s20 s21 s22;cases B1 with
    |false=>
     go_wp2_with fail;go_meet;exact⟨rfl,hcx⟩
    |true=>
     obtain⟨s0,s1,s2,s3,s4,s5,s6,s7,s8,s9,s10,s11,s12,s13,s14,s15,s16,s17,s18,s19,s20,s21,s22⟩:=HS2.out wx hcx;go_wp2_with fail;refine(H2.out wx hcx).mono ?_;rintro en wy ⟨rfl,hby⟩;have hcy:Below w2.heap.size w2 wy:=hcx.trans (hby.mono hcx.size);have hzy:=hcy.size;clear s0 s1 s2 s3 s4 s5 s6 s7 s8 s9 s10 s11 s12 s13 s14 s15 s16 s17 s18 s19 s20 s21 s22;cases B2 with
     |false=>
      go_wp2_with fail;go_meet;exact⟨rfl,hcy⟩
     |true=>
      obtain⟨s0,s1,s2,s3,s4,s5,s6,s7,s8,s9,s10,s11,s12,s13,s14,s15,s16,s17,s18,s19,s20,s21,s22⟩:=HS2.out wy hcy;go_wp2_with fail;refine(H3.out wy hcy).mono ?_;rintro en wz ⟨rfl,hbz⟩;have hcz:Below w2.heap.size w2 wz:=hcy.trans (hbz.mono hcy.size);have hzz:=hcz.size;clear s0 s1 s2 s3 s4 s5 s6 s7 s8 s9 s10 s11 s12 s13 s14 s15 s16 s17 s18 s19 s20 s21 s22;go_wp2_with fail;go_meet;exact⟨rfl,hcz⟩
  obtain⟨rfl,hcc⟩:=hcut;obtain⟨Y,rfl⟩:∃W,W=wc:=⟨_,rfl⟩;obtain⟨G,hG⟩:∃G,(N&&B1&&B2&&B3)=G:=⟨_,rfl⟩;rw[hG];have HG:=Lib.hid hG;have hzc:=hcc.size;obtain⟨V,hV⟩:∃V,((((((((Y.setCell ⟨w0.heap.size,2,none⟩ (.string ⟨#[]⟩)).setCell ⟨w0.heap.size,3,none⟩ (.slice none 0 0)).setCell ⟨w0.heap.size,8,none⟩ (.string ⟨#[]⟩)).setCell ⟨w0.heap.size,9,none⟩ (.int .i64 0)).setCell ⟨w0.heap.size,10,none⟩ (.int .i64 0)).setCell ⟨w0.heap.size,11,none⟩ (.string ⟨#[]⟩)).setCell ⟨w0.heap.size,12,none⟩ (.string ⟨#[]⟩)).setCell ⟨w0.heap.size,13,none⟩ (.slice none 0 0))=V:=⟨_,rfl⟩;have kV:Blk V w0.heap.size 34 (({s with tb:=[],ot:=[],names:=[],chk:=AL}:St).cells ({p with names:=⟨none,0⟩,chk:=⟨none,0⟩}:StP)).toArray:=by
   rw[<-hV];exact(IU (KA (Kz (HR2.out Y hcc))))
  have hbV:Below w0.heap.size Y V:=by rw[<-hV];exact(bwS (bwS (bwS (bwS (bwS (bwS (bwS (bwS (Below.refl w0.heap.size Y) (Nat.le_refl _)) (Nat.le_refl _)) (Nat.le_refl _)) (Nat.le_refl _)) (Nat.le_refl _)) (Nat.le_refl _)) (Nat.le_refl _)) (Nat.le_refl _))
  have HV:=Lib.hid hV;have HKV:=Lib.hid kV;have hbf:=HBB.out Y V hcc hbV;clear hV kV hbV hG;have hkY:=HR2.out Y hcc;obtain⟨r0,r1,r2,r3,r4,r5,r6,r7,r8,r9,r10,r11,r12,r13,r14,r15,r16,r17,r18,r19,r20,r21,r22⟩:=hkY.st;obtain⟨z0,z1,z2,z3,z4,z5,z6,z7,z8,z9,z10,z11,z12,z13,z14,z15,z16,z17,z18,z19,z20,z21,z22⟩:=hkY.stF;clear hkY r0 z0 r1 z1 r4 z4 r5 z5 r6 z6 r7 z7 r14 z14 r15 z15 r16 z16 r17 z17 r18 z18 r19 z19 r20 z20 r21 z21 r22 z22;go_upto_region 36 with fail
  rw[show((((((((Y.setCell ⟨w0.heap.size,2,none⟩ (.string ⟨#[]⟩)).setCell ⟨w0.heap.size,3,none⟩ (.slice none 0 0)).setCell ⟨w0.heap.size,8,none⟩ (.string ⟨#[]⟩)).setCell ⟨w0.heap.size,9,none⟩ (.int .i64 0)).setCell ⟨w0.heap.size,10,none⟩ (.int .i64 0)).setCell ⟨w0.heap.size,11,none⟩ (.string ⟨#[]⟩)).setCell ⟨w0.heap.size,12,none⟩ (.string ⟨#[]⟩)).setCell ⟨w0.heap.size,13,none⟩ (.slice none 0 0))=V from HV.out];clear r2 z2 r3 z3 r8 z8 r9 z9 r10 z10 r11 z11 r12 z12 r13 z13;cases G with
  |false=>
   go_wp2_with fail;go_ret;exact⟨by rw[HR.out,HG.out];rfl,hbf⟩
  |true=>
   go_wp2_with (refine Ap (by rfl) 34 _ rfl w0.heap.size rfl 34 (({s with tb:=[],ot:=[],names:=[],chk:=AL}:St).cells ({p with names:=⟨none,0⟩,chk:=⟨none,0⟩}:StP)).toArray (0,0) _ HKV.out Tryz.underlying34 rfl Au ?_);refine(HE.out V).mono ?_;rintro en we ⟨rfl,hbe⟩;have hbf2:=hbf.trans (hbe.mono hbf.size);go_wp2_with fail;go_ret;exact⟨by rw[HR.out,HG.out];rfl,hbf2⟩
 have n_copy:=Lib.hid hop;clear hop;by_cases hop:s.op=I8
 case pos=>
  have hok:=hoks.out;obtain⟨B1,hB1⟩:∃B,Ai s.ot=B:=⟨_,rfl⟩;have H1:Hid (∀Y:World,Below w2.heap.size w2 Y->Calls Tryz.prog 74 #[.string ⟨s.ot.toArray⟩] Y (Ret (.bool B1) Y)):=λY hY=>by
   rw[<-hB1];exact Di rfl hok.ot Y
  obtain⟨B2,hB2⟩:∃B,Ai s.key=B:=⟨_,rfl⟩;have H2:Hid (∀Y:World,Below w2.heap.size w2 Y->Calls Tryz.prog 74 #[.string ⟨s.key.toArray⟩] Y (Ret (.bool B2) Y)):=λY hY=>by
   rw[<-hB2];exact Di rfl hok.key Y
  obtain⟨B3,hB3⟩:∃B,Ai s.role=B:=⟨_,rfl⟩;have H3:Hid (∀Y:World,Below w2.heap.size w2 Y->Calls Tryz.prog 74 #[.string ⟨s.role.toArray⟩] Y (Ret (.bool B3) Y)):=λY hY=>by
   rw[<-hB3];exact Di rfl hok.role Y
  obtain⟨B4,hB4⟩:∃B,Aq s.chk=B:=⟨_,rfl⟩;have H4:Hid (∀Y:World,Below w2.heap.size w2 Y->Calls Tryz.prog 81 #[.agg #[.string ⟨s.chk.op.toArray⟩,.int .i64 s.chk.v.k,.int .i64 s.chk.v.i,.string ⟨s.chk.v.s.toArray⟩,.string ⟨s.chk.s.toArray⟩,.slice p.chk.a s.chk.l.length p.chk.c]] Y (Ret (.bool B4) Y)):=λY hY=>by
   rw[<-hB4];exact ES s.chk p.chk.a p.chk.c kc Y hok.chk (Ed (HM.out Y hY).2.2.2.2.1 (Nat.le_refl _))
  obtain⟨E,hE⟩:∃E,Cf ({s with tb:=[],ot:=[],key:=[],role:=[],chk:=AL}:St)=E:=⟨_,rfl⟩;have HE:Hid (∀Y:World,Calls Tryz.prog 83 #[.agg (({s with tb:=[],ot:=[],key:=[],role:=[],chk:=AL}:St).cells ({p with chk:=⟨none,0⟩}:StP)).toArray] Y (Ret (.bool E) Y)):=Ea ({s with tb:=[],ot:=[],key:=[],role:=[],chk:=AL}:St) ({p with chk:=⟨none,0⟩}:StP) ⟨sl0,sl0,sl0,sl0,hok.nN,hok.nC,hok.nU,hok.nR,hok.nW,hok.nS⟩ hE;have hR:Am s=((N&&B1&&B2&&B3&&B4)&&E):=by
   unfold Am;iterate 7(rw[if_neg (by rw[hop];first|done|decide)])
   rw[if_pos (by rw[hop];first|done|decide)];rw[hE,HNN.out,hB1,hB2,hB3,hB4]
  rw[HR0.out]at hR;have HR:=Lib.hid hR;have o_create:(s.op==[99,114,101,97,116,101])=false:=by rw[hop];rfl
  have o_drop:(s.op==[100,114,111,112])=false:=by rw[hop];rfl
  have o_insert:(s.op==[105,110,115,101,114,116])=false:=by rw[hop];rfl
  have o_update:(s.op==[117,112,100,97,116,101])=false:=by rw[hop];rfl
  have o_delete:(s.op==[100,101,108,101,116,101])=false:=by rw[hop];rfl
  have o_select:(s.op==[115,101,108,101,99,116])=false:=by rw[hop];rfl
  have o_read:(s.op==[114,101,97,100])=false:=by rw[hop];rfl
  have o_write:(s.op==[119,114,105,116,101])=false:=by rw[hop];rfl
  have o_unread:(s.op==[117,110,114,101,97,100])=false:=by rw[hop];rfl
  have o_unwrite:(s.op==[117,110,119,114,105,116,101])=false:=by rw[hop];rfl
  have o_copy:(s.op==[99,111,112,121])=false:=by rw[hop];rfl
  have o_join:(s.op==[106,111,105,110])=true:=by rw[hop];rfl
  clear hR hE hB1 hB2 hB3 hB4 hok hop HR0 HNN hoks HMQ HM;go_upto_region 31 with fail
  clear s0;go_cut [4] (λg wx=>g=.bool (N&&B1&&B2&&B3&&B4)/\Below w2.heap.size w2 wx)
  case first=>as_aux_lemma=>
   cases N with
   |false=>
    go_wp2_with fail;go_meet;exact⟨rfl,hcn⟩
   |true=>
    obtain⟨s0,s1,s2,s3,s4,s5,s6,s7,s8,s9,s10,s11,s12,s13,s14,s15,s16,s17,s18,s19,s20,s21,s22⟩:=HS2.out wn hcn;go_wp2_with fail;refine(H1.out wn hcn).mono ?_;rintro en wx ⟨rfl,hbx⟩;have hcx:Below w2.heap.size w2 wx:=hcn.trans (hbx.mono hcn.size);have hzx:=hcx.size;clear s0 s1 s2 s3 s4 s5 s6 s7 s8 s9 s10 s11 s12 s13 s14 s15 s16 s17 s18 s19 s20 s21 s22;cases B1 with
    |false=>
     go_wp2_with fail;go_meet;exact⟨rfl,hcx⟩
    |true=>
     obtain⟨s0,s1,s2,s3,s4,s5,s6,s7,s8,s9,s10,s11,s12,s13,s14,s15,s16,s17,s18,s19,s20,s21,s22⟩:=HS2.out wx hcx;go_wp2_with fail;refine(H2.out wx hcx).mono ?_;rintro en wy ⟨rfl,hby⟩;have hcy:Below w2.heap.size w2 wy:=hcx.trans (hby.mono hcx.size);have hzy:=hcy.size;clear s0 s1 s2 s3 s4 s5 s6 s7 s8 s9 s10 s11 s12 s13 s14 s15 s16 s17 s18 s19 s20 s21 s22;cases B2 with
     |false=>
      go_wp2_with fail;go_meet;exact⟨rfl,hcy⟩
     |true=>
      obtain⟨s0,s1,s2,s3,s4,s5,s6,s7,s8,s9,s10,s11,s12,s13,s14,s15,s16,s17,s18,s19,s20,s21,s22⟩:=HS2.out wy hcy;go_wp2_with fail;refine(H3.out wy hcy).mono ?_;rintro en wz ⟨rfl,hbz⟩;have hcz:Below w2.heap.size w2 wz:=hcy.trans (hbz.mono hcy.size);have hzz:=hcz.size;clear s0 s1 s2 s3 s4 s5 s6 s7 s8 s9 s10 s11 s12 s13 s14 s15 s16 s17 s18 s19 s20 s21 s22;cases B3 with
      |false=>
       go_wp2_with fail;go_meet;exact⟨rfl,hcz⟩
      |true=>
       obtain⟨s0,s1,s2,s3,s4,s5,s6,s7,s8,s9,s10,s11,s12,s13,s14,s15,s16,s17,s18,s19,s20,s21,s22⟩:=HS2.out wz hcz;go_wp2_with fail;refine(H4.out wz hcz).mono ?_;rintro en wu ⟨rfl,hbu⟩;have hcu:Below w2.heap.size w2 wu:=hcz.trans (hbu.mono hcz.size);have hzu:=hcu.size;clear s0 s1 s2 s3 s4 s5 s6 s7 s8 s9 s10 s11 s12 s13 s14 s15 s16 s17 s18 s19 s20 s21 s22;go_wp2_with fail;go_meet;exact⟨rfl,hcu⟩
  obtain⟨rfl,hcc⟩:=hcut;obtain⟨Y,rfl⟩:∃W,W=wc:=⟨_,rfl⟩;obtain⟨G,hG⟩:∃G,(N&&B1&&B2&&B3&&B4)=G:=⟨_,rfl⟩;rw[hG];have HG:=Lib.hid hG;have hzc:=hcc.size;obtain⟨V,hV⟩:∃V,(((((((((Y.setCell ⟨w0.heap.size,2,none⟩ (.string ⟨#[]⟩)).setCell ⟨w0.heap.size,5,none⟩ (.string ⟨#[]⟩)).setCell ⟨w0.heap.size,22,none⟩ (.string ⟨#[]⟩)).setCell ⟨w0.heap.size,8,none⟩ (.string ⟨#[]⟩)).setCell ⟨w0.heap.size,9,none⟩ (.int .i64 0)).setCell ⟨w0.heap.size,10,none⟩ (.int .i64 0)).setCell ⟨w0.heap.size,11,none⟩ (.string ⟨#[]⟩)).setCell ⟨w0.heap.size,12,none⟩ (.string ⟨#[]⟩)).setCell ⟨w0.heap.size,13,none⟩ (.slice none 0 0))=V:=⟨_,rfl⟩;have kV:Blk V w0.heap.size 34 (({s with tb:=[],ot:=[],key:=[],role:=[],chk:=AL}:St).cells ({p with chk:=⟨none,0⟩}:StP)).toArray:=by
   rw[<-hV];exact(IU (Fj (NH (Kz (HR2.out Y hcc)))))
  have hbV:Below w0.heap.size Y V:=by rw[<-hV];exact(bwS (bwS (bwS (bwS (bwS (bwS (bwS (bwS (bwS (Below.refl w0.heap.size Y) (Nat.le_refl _)) (Nat.le_refl _)) (Nat.le_refl _)) (Nat.le_refl _)) (Nat.le_refl _)) (Nat.le_refl _)) (Nat.le_refl _)) (Nat.le_refl _)) (Nat.le_refl _))
  have HV:=Lib.hid hV;have HKV:=Lib.hid kV;have hbf:=HBB.out Y V hcc hbV;clear hV kV hbV hG;have hkY:=HR2.out Y hcc;obtain⟨r0,r1,r2,r3,r4,r5,r6,r7,r8,r9,r10,r11,r12,r13,r14,r15,r16,r17,r18,r19,r20,r21,r22⟩:=hkY.st;obtain⟨z0,z1,z2,z3,z4,z5,z6,z7,z8,z9,z10,z11,z12,z13,z14,z15,z16,z17,z18,z19,z20,z21,z22⟩:=hkY.stF;clear hkY r0 z0 r1 z1 r3 z3 r4 z4 r6 z6 r7 z7 r14 z14 r15 z15 r16 z16 r17 z17 r18 z18 r19 z19 r20 z20 r21 z21;go_upto_region 36 with fail
  rw[show(((((((((Y.setCell ⟨w0.heap.size,2,none⟩ (.string ⟨#[]⟩)).setCell ⟨w0.heap.size,5,none⟩ (.string ⟨#[]⟩)).setCell ⟨w0.heap.size,22,none⟩ (.string ⟨#[]⟩)).setCell ⟨w0.heap.size,8,none⟩ (.string ⟨#[]⟩)).setCell ⟨w0.heap.size,9,none⟩ (.int .i64 0)).setCell ⟨w0.heap.size,10,none⟩ (.int .i64 0)).setCell ⟨w0.heap.size,11,none⟩ (.string ⟨#[]⟩)).setCell ⟨w0.heap.size,12,none⟩ (.string ⟨#[]⟩)).setCell ⟨w0.heap.size,13,none⟩ (.slice none 0 0))=V from HV.out];clear r2 z2 r5 z5 r8 z8 r9 z9 r10 z10 r11 z11 r12 z12 r13 z13 r22 z22;cases G with
  |false=>
   go_wp2_with fail;go_ret;exact⟨by rw[HR.out,HG.out];rfl,hbf⟩
  |true=>
   go_wp2_with (refine Ap (by rfl) 34 _ rfl w0.heap.size rfl 34 (({s with tb:=[],ot:=[],key:=[],role:=[],chk:=AL}:St).cells ({p with chk:=⟨none,0⟩}:StP)).toArray (0,0) _ HKV.out Tryz.underlying34 rfl Au ?_);refine(HE.out V).mono ?_;rintro en we ⟨rfl,hbe⟩;have hbf2:=hbf.trans (hbe.mono hbf.size);go_wp2_with fail;go_ret;exact⟨by rw[HR.out,HG.out];rfl,hbf2⟩
 have n_join:=Lib.hid hop;clear hop;by_cases hop:s.op=GH
 case pos=>
  have hok:=hoks.out;obtain⟨B1,hB1⟩:∃B,Ai s.ot=B:=⟨_,rfl⟩;have H1:Hid (∀Y:World,Below w2.heap.size w2 Y->Calls Tryz.prog 74 #[.string ⟨s.ot.toArray⟩] Y (Ret (.bool B1) Y)):=λY hY=>by
   rw[<-hB1];exact Di rfl hok.ot Y
  obtain⟨B2,hB2⟩:∃B,Bh s.names 2 2 Ai=B:=⟨_,rfl⟩;have H2:Hid (∀Y:World,Below w2.heap.size w2 Y->Calls Tryz.prog 82 #[.slice p.names.a s.names.length p.names.c,.int .i64 2,.int .i64 2,.func (.func 74) #[] #[]] Y (Ret (.bool B2) Y)):=λY hY=>by
   rw[<-hB2];exact LJ p.names.a p.names.c s.names 2 2 Y (by decide) (by decide) hok.nN hok.names (HM.out Y hY).1
  obtain⟨B3,hB3⟩:∃B,Aq s.chk=B:=⟨_,rfl⟩;have H3:Hid (∀Y:World,Below w2.heap.size w2 Y->Calls Tryz.prog 81 #[.agg #[.string ⟨s.chk.op.toArray⟩,.int .i64 s.chk.v.k,.int .i64 s.chk.v.i,.string ⟨s.chk.v.s.toArray⟩,.string ⟨s.chk.s.toArray⟩,.slice p.chk.a s.chk.l.length p.chk.c]] Y (Ret (.bool B3) Y)):=λY hY=>by
   rw[<-hB3];exact ES s.chk p.chk.a p.chk.c kc Y hok.chk (Ed (HM.out Y hY).2.2.2.2.1 (Nat.le_refl _))
  obtain⟨E,hE⟩:∃E,Cf ({s with tb:=[],ot:=[],names:=[],chk:=AL}:St)=E:=⟨_,rfl⟩;have HE:Hid (∀Y:World,Calls Tryz.prog 83 #[.agg (({s with tb:=[],ot:=[],names:=[],chk:=AL}:St).cells ({p with names:=⟨none,0⟩,chk:=⟨none,0⟩}:StP)).toArray] Y (Ret (.bool E) Y)):=Ea ({s with tb:=[],ot:=[],names:=[],chk:=AL}:St) ({p with names:=⟨none,0⟩,chk:=⟨none,0⟩}:StP) ⟨sl0,sl0,hok.key,hok.role,sl0,hok.nC,hok.nU,hok.nR,hok.nW,hok.nS⟩ hE;have hR:Am s=((N&&B1&&B2&&B3)&&E):=by
   unfold Am;iterate 8(rw[if_neg (by rw[hop];first|done|decide)])
   rw[if_pos (by rw[hop];first|done|decide)];rw[hE,HNN.out,hB1,hB2,hB3]
  rw[HR0.out]at hR;have HR:=Lib.hid hR;have o_create:(s.op==[99,114,101,97,116,101])=false:=by rw[hop];rfl
  have o_drop:(s.op==[100,114,111,112])=false:=by rw[hop];rfl
  have o_insert:(s.op==[105,110,115,101,114,116])=false:=by rw[hop];rfl
  have o_update:(s.op==[117,112,100,97,116,101])=false:=by rw[hop];rfl
  have o_delete:(s.op==[100,101,108,101,116,101])=false:=by rw[hop];rfl
  have o_select:(s.op==[115,101,108,101,99,116])=false:=by rw[hop];rfl
  have o_read:(s.op==[114,101,97,100])=false:=by rw[hop];rfl
  have o_write:(s.op==[119,114,105,116,101])=false:=by rw[hop];rfl
  have o_unread:(s.op==[117,110,114,101,97,100])=false:=by rw[hop];rfl
  have o_unwrite:(s.op==[117,110,119,114,105,116,101])=false:=by rw[hop];rfl
  have o_copy:(s.op==[99,111,112,121])=false:=by rw[hop];rfl
  have o_join:(s.op==[106,111,105,110])=false:=by rw[hop];rfl
  have o_group:(s.op==[103,114,111,117,112])=true:=by rw[hop];rfl
  clear hR hE hB1 hB2 hB3 hok hop HR0 HNN hoks HMQ HM;go_upto_region 34 with fail
  clear s0;go_cut [4] (λg wx=>g=.bool (N&&B1&&B2&&B3)/\Below w2.heap.size w2 wx)
  case first=>as_aux_lemma=>
   cases N with
   |false=>
    go_wp2_with fail;go_meet;exact⟨rfl,hcn⟩
   |true=>
    obtain⟨s0,s1,s2,s3,s4,s5,s6,s7,s8,s9,s10,s11,s12,s13,s14,s15,s16,s17,s18,s19,s20,s21,s22⟩:=HS2.out wn hcn;go_wp2_with fail;refine(H1.out wn hcn).mono ?_;rintro en wx ⟨rfl,hbx⟩;have hcx:Below w2.heap.size w2 wx:=hcn.trans (hbx.mono hcn.size);have hzx:=hcx.size;clear s0 s1 s2 s3 s4 s5 s6 s7 s8 s9 s10 s11 s12 s13 s14 s15 s16 s17 s18 s19 s20 s21 s22;cases B1 with
    |false=>
     go_wp2_with fail;go_meet;exact⟨rfl,hcx⟩
    |true=>
     obtain⟨s0,s1,s2,s3,s4,s5,s6,s7,s8,s9,s10,s11,s12,s13,s14,s15,s16,s17,s18,s19,s20,s21,s22⟩:=HS2.out wx hcx;go_wp2_with fail;refine(H2.out wx hcx).mono ?_;rintro en wy ⟨rfl,hby⟩;have hcy:Below w2.heap.size w2 wy:=hcx.trans (hby.mono hcx.size);have hzy:=hcy.size;clear s0 s1 s2 s3 s4 s5 s6 s7 s8 s9 s10 s11 s12 s13 s14 s15 s16 s17 s18 s19 s20 s21 s22;cases B2 with
     |false=>
      go_wp2_with fail;go_meet;exact⟨rfl,hcy⟩
     |true=>
      obtain⟨s0,s1,s2,s3,s4,s5,s6,s7,s8,s9,s10,s11,s12,s13,s14,s15,s16,s17,s18,s19,s20,s21,s22⟩:=HS2.out wy hcy;go_wp2_with fail;refine(H3.out wy hcy).mono ?_;rintro en wz ⟨rfl,hbz⟩;have hcz:Below w2.heap.size w2 wz:=hcy.trans (hbz.mono hcy.size);have hzz:=hcz.size;clear s0 s1 s2 s3 s4 s5 s6 s7 s8 s9 s10 s11 s12 s13 s14 s15 s16 s17 s18 s19 s20 s21 s22;go_wp2_with fail;go_meet;exact⟨rfl,hcz⟩
  obtain⟨rfl,hcc⟩:=hcut;obtain⟨Y,rfl⟩:∃W,W=wc:=⟨_,rfl⟩;obtain⟨G,hG⟩:∃G,(N&&B1&&B2&&B3)=G:=⟨_,rfl⟩;rw[hG];have HG:=Lib.hid hG;have hzc:=hcc.size;obtain⟨V,hV⟩:∃V,((((((((Y.setCell ⟨w0.heap.size,2,none⟩ (.string ⟨#[]⟩)).setCell ⟨w0.heap.size,3,none⟩ (.slice none 0 0)).setCell ⟨w0.heap.size,8,none⟩ (.string ⟨#[]⟩)).setCell ⟨w0.heap.size,9,none⟩ (.int .i64 0)).setCell ⟨w0.heap.size,10,none⟩ (.int .i64 0)).setCell ⟨w0.heap.size,11,none⟩ (.string ⟨#[]⟩)).setCell ⟨w0.heap.size,12,none⟩ (.string ⟨#[]⟩)).setCell ⟨w0.heap.size,13,none⟩ (.slice none 0 0))=V:=⟨_,rfl⟩;have kV:Blk V w0.heap.size 34 (({s with tb:=[],ot:=[],names:=[],chk:=AL}:St).cells ({p with names:=⟨none,0⟩,chk:=⟨none,0⟩}:StP)).toArray:=by
   rw[<-hV];exact(IU (KA (Kz (HR2.out Y hcc))))
  have hbV:Below w0.heap.size Y V:=by rw[<-hV];exact(bwS (bwS (bwS (bwS (bwS (bwS (bwS (bwS (Below.refl w0.heap.size Y) (Nat.le_refl _)) (Nat.le_refl _)) (Nat.le_refl _)) (Nat.le_refl _)) (Nat.le_refl _)) (Nat.le_refl _)) (Nat.le_refl _)) (Nat.le_refl _))
  have HV:=Lib.hid hV;have HKV:=Lib.hid kV;have hbf:=HBB.out Y V hcc hbV;clear hV kV hbV hG;have hkY:=HR2.out Y hcc;obtain⟨r0,r1,r2,r3,r4,r5,r6,r7,r8,r9,r10,r11,r12,r13,r14,r15,r16,r17,r18,r19,r20,r21,r22⟩:=hkY.st;obtain⟨z0,z1,z2,z3,z4,z5,z6,z7,z8,z9,z10,z11,z12,z13,z14,z15,z16,z17,z18,z19,z20,z21,z22⟩:=hkY.stF;clear hkY r0 z0 r1 z1 r4 z4 r5 z5 r6 z6 r7 z7 r14 z14 r15 z15 r16 z16 r17 z17 r18 z18 r19 z19 r20 z20 r21 z21 r22 z22;go_upto_region 36 with fail
  rw[show((((((((Y.setCell ⟨w0.heap.size,2,none⟩ (.string ⟨#[]⟩)).setCell ⟨w0.heap.size,3,none⟩ (.slice none 0 0)).setCell ⟨w0.heap.size,8,none⟩ (.string ⟨#[]⟩)).setCell ⟨w0.heap.size,9,none⟩ (.int .i64 0)).setCell ⟨w0.heap.size,10,none⟩ (.int .i64 0)).setCell ⟨w0.heap.size,11,none⟩ (.string ⟨#[]⟩)).setCell ⟨w0.heap.size,12,none⟩ (.string ⟨#[]⟩)).setCell ⟨w0.heap.size,13,none⟩ (.slice none 0 0))=V from HV.out];clear r2 z2 r3 z3 r8 z8 r9 z9 r10 z10 r11 z11 r12 z12 r13 z13;cases G with
  |false=>
   go_wp2_with fail;go_ret;exact⟨by rw[HR.out,HG.out];rfl,hbf⟩
  |true=>
   go_wp2_with (refine Ap (by rfl) 34 _ rfl w0.heap.size rfl 34 (({s with tb:=[],ot:=[],names:=[],chk:=AL}:St).cells ({p with names:=⟨none,0⟩,chk:=⟨none,0⟩}:StP)).toArray (0,0) _ HKV.out Tryz.underlying34 rfl Au ?_);refine(HE.out V).mono ?_;rintro en we ⟨rfl,hbe⟩;have hbf2:=hbf.trans (hbe.mono hbf.size);go_wp2_with fail;go_ret;exact⟨by rw[HR.out,HG.out];rfl,hbf2⟩
 have n_group:=Lib.hid hop;clear hop;have hF:R=false:=by
  rw[<-HR0.out];unfold Am;simp[n_create.out,n_drop.out,n_insert.out,n_update.out,n_delete.out,n_select.out,n_read.out,n_write.out,n_unread.out,n_unwrite.out,n_copy.out,n_join.out,n_group.out]
 subst hF;have o_create:(s.op==[99,114,101,97,116,101])=false:=by rw[beq_eq_false_iff_ne];exact n_create.out
 have o_drop:(s.op==[100,114,111,112])=false:=by rw[beq_eq_false_iff_ne];exact n_drop.out
 have o_insert:(s.op==[105,110,115,101,114,116])=false:=by rw[beq_eq_false_iff_ne];exact n_insert.out
 have o_update:(s.op==[117,112,100,97,116,101])=false:=by rw[beq_eq_false_iff_ne];exact n_update.out
 have o_delete:(s.op==[100,101,108,101,116,101])=false:=by rw[beq_eq_false_iff_ne];exact n_delete.out
 have o_select:(s.op==[115,101,108,101,99,116])=false:=by rw[beq_eq_false_iff_ne];exact n_select.out
 have o_read:(s.op==[114,101,97,100])=false:=by rw[beq_eq_false_iff_ne];exact n_read.out
 have o_write:(s.op==[119,114,105,116,101])=false:=by rw[beq_eq_false_iff_ne];exact n_write.out
 have o_unread:(s.op==[117,110,114,101,97,100])=false:=by rw[beq_eq_false_iff_ne];exact n_unread.out
 have o_unwrite:(s.op==[117,110,119,114,105,116,101])=false:=by rw[beq_eq_false_iff_ne];exact n_unwrite.out
 have o_copy:(s.op==[99,111,112,121])=false:=by rw[beq_eq_false_iff_ne];exact n_copy.out
 have o_join:(s.op==[106,111,105,110])=false:=by rw[beq_eq_false_iff_ne];exact n_join.out
 have o_group:(s.op==[103,114,111,117,112])=false:=by rw[beq_eq_false_iff_ne];exact n_group.out
 have hbf:=HBB.out _ _ hcn (Below.refl _ _);clear hoks HR0 HNN n_create n_drop n_insert n_update n_delete n_select n_read n_write n_unread n_unwrite n_copy n_join n_group;go_wp2_with fail;go_ret;exact⟨rfl,hbf⟩
end Go.Proofs.YtchilcchogcibaaGreatDoor
