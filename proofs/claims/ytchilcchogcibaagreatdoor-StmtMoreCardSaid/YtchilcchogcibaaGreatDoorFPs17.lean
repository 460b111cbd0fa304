/- The statement parser's statement, and stmt.Parse, as plain functions; What stands behind CREATE, as a plain function. -/
import Derived.Test.YtchilcchogcibaaGreatDoorFPs16
set_option maxRecDepth 100000
set_option maxHeartbeats 8000000
namespace Go.Proofs.YtchilcchogcibaaGreatDoor
section
open Go.RowKit Go.ChangeMaps Go.MapKept
attribute [local go_sem] ByteArray.extract_mk Ak AY
attribute [local go_sem ↓] Go.wp_at_zero Go.wp_at_succ
def TyG(g:Nat)(w:World):Prop:=∃W0:World,OY W0/\W0.heap.size<=g/\Below W0.heap.size W0 w
theorem TyG.out{g:Nat}{w:World}(h:TyG g w):OY w:=by
 obtain⟨W0,h1,_,h3⟩:=h;exact h1.below h3
theorem TyG.but{g:Nat}{w w':World}(h:TyG g w)(hb:But g w w'):TyG g w':=by
 obtain⟨W0,h1,h2,h3⟩:=h;exact⟨W0,h1,h2,But.inside h3 h2 hb⟩
theorem TyG.below{g B:Nat}{w w':World}(h:TyG g w)(hb:Below B w w')(hB:g<=B):TyG g w':=by
 obtain⟨W0,h1,h2,h3⟩:=h;exact⟨W0,h1,h2,h3.trans (hb.mono (by omega))⟩
def IK(l:List Tok)(o:Option (St×Nat)):Option (St×Nat):=o.bind λr=>if r.2=l.length then some r else none
theorem Dl(FN ix:Nat)(word:List UInt8)(eg:∀args (w:World),(callFunc FN args).run Tryz.prog w=.ok (.enter FN args) w)(P:Option (St×Nat))(g:Nat)(A:Option Addr)(c:Nat)(l:List Tok)(w:World)(hq:Instr.findNow .string (.string ⟨word.toArray⟩) (P9 g).toList 0=some (some (ix,meV g FN)))(h0:l[0]? = some ⟨1,word⟩)(hTy:TyG g w)(hp:PsE g c l w)(h:PsS g A c l 0 (psC A l.length c 0 ((stZ [] []).cells Cj)) w)
 (hF:∀(B:Option Addr) (Z:World),TyG g Z->PsE g c l Z->PsS g B c l 1 (psC B l.length c 1 ((stZ [] []).cells Cj)) Z->Calls Tryz.prog FN #[.pointer (some ⟨g,0,none⟩)] Z (Fz P g B c l Z)):
  Calls Tryz.prog 57 #[.pointer (some ⟨g,0,none⟩)] w (Fz (IK l P) g A c l w):=by
 obtain⟨R,hR⟩:∃R,IK l P=R:=⟨_,rfl⟩;rw[hR];have hgw:g<w.heap.size:=h.blk.lt;have hll:0<l.length:=by
  rcases Nat.eq_zero_or_pos l.length with e|e
  ·rw[List.getElem?_eq_none (by omega)]at h0;cases h0
  ·exact e
 obtain⟨b1,o1,t,rfl,hbB,hv,c0,c1⟩:=h.tk.at_ hll;obtain rfl:t=⟨1,word⟩:=by rw[h0]at hv;injection hv with hv;exact hv.symm
 rw[Nat.zero_mul,Nat.add_zero]at c0 c1;obtain⟨w0,v1,v2,v3,v4,v5,v6,v7,v8,w9,m0,m1,m2,m3,m4,m5,m6,m7,m8,m9,hm,hbm⟩:=ah g w;have hP9:=h.below hbm;have c0':w9.cell? ⟨b1,o1,none⟩=some (.int .i64 1):=(hbm.cell (p:=⟨b1,o1,none⟩) (show b1<_ by omega)).trans c0;have c1':w9.cell? ⟨b1,o1+1,none⟩=some (.string ⟨word.toArray⟩):=(hbm.cell (p:=⟨b1,o1+1,none⟩) (show b1<_ by omega)).trans c1;have x0:w9.cell? ⟨g,0,none⟩=some (.slice (some ⟨b1,o1,none⟩) l.length c):=(hP9.blk.cell 0).trans hP9.c0;have x1:w9.cell? ⟨g,1,none⟩=some (.int .i64 0):=(hP9.blk.cell 1).trans hP9.c1;have f1:=hP9.blk.frozen 1;have q1:=lookK (i:=ix) (f:=FN) word hm hq;have hP10:PsS g (some ⟨b1,o1,none⟩) c l 1 (psC (some ⟨b1,o1,none⟩) l.length c 1 ((stZ [] []).cells Cj)) (w9.setCell ⟨g,1,none⟩ (.int .i64 (1:Nat))):=by have:=hP9.move 1;rw[Ad]at this;exact this
 obtain⟨w10,hw10⟩:∃x,w9.setCell ⟨g,1,none⟩ (.int .i64 1)=x:=⟨_,rfl⟩;have hw10':w9.setCell ⟨g,1,none⟩ (.int .i64 (1:Nat))=w10:=hw10;rw[hw10']at hP10;have HB10:Hid (But g w w10):=by rw[<-hw10];exact(But.of_below (p:=g) hbm).set 1 _
 have HW10:=Lib.hid hw10;have HM:Hid (∀Z:World,Below w10.heap.size w10 Z->Calls Tryz.prog FN #[.pointer (some ⟨g,0,none⟩)] Z (Fz P g (some ⟨b1,o1,none⟩) c l Z)):=λZ hz=>
  hF _ Z ((hTy.but HB10.out).below hz (Nat.le_of_lt hP10.blk.lt)) ((hp.but HB10.out).below hz (Nat.le_of_lt hP10.blk.lt)) (hP10.below hz)
 obtain⟨G,hG⟩:∃x,P=x:=⟨_,rfl⟩;have hR:(G.bind λr=>if r.2=l.length then some r else none)=R:=by rw[<-hG];exact hR
 rw[hG]at HM;obtain⟨N,hN⟩:∃N,l.length=N:=⟨_,rfl⟩;have HSA:Hid (∀Z:World,Below w10.heap.size w10 Z->Z.cell? ⟨g,0,none⟩=some (.slice (some ⟨b1,o1,none⟩) N c)):=λZ hz=>by rw[<-hN];exact((hP10.below hz).blk.cell 0).trans hP10.c0
 rw[hN]at hR hll x0;have HR:=Lib.hid hR;have HN:=Lib.hid hN;have i0:¬(N:Int)=0:=by omega
 have i1:((N:Int)==0)=false:=by rw[beq_eq_false_iff_ne];exact i0
 have i2:(0:Int)<(N:Int):=by omega
 unfold meV at m1 m2 m3 m4 m5 m6 m7 m8 m9 q1;clear hR hG h h0 hp hTy hF hq hP9 hP10 hw10 hw10' hm hbm c0 c1 hv hN;go_in
 go_upto_region 6 with fail
 rw[HW10.out];clear m0 m1 m2 m3 m4 m5 m6 m7 m8 m9 q1 x0 x1 c0' c1' f1 HW10;cases G with
 |none=>
  have hR:R=none:=HR.out.symm;subst hR;refine wp_region_held_drew (S:=(λ_=>True)) (by kernel_rfl) ?_ (λhHeld=>?_)
  ·try dsimp only
   first|done|exact trivial
  refine tS [0,1,2] ?_;iterate 3(refine tC ?_;refine ap ?_)
  refine tN ?_;refine rdy 3 λK hK=>?_
  go_simp
  (refine(HM.out _ (by exact bl)).mono ?_)<;>rintro en w3 ⟨rfl,hb3⟩
  go_wp2_with fail;refine hK.out _ _ ?_ (λhHeld=>?_)
  ·try dsimp only
   first|done|exact trivial
  clear hK K;refine ap ?_;refine tS [4,5] ?_;iterate 2(refine tC ?_;refine ap ?_)
  refine tN ?_;refine tS [6,7,8,9,10,11,12,13,14,15] ?_;iterate 10(refine tX ?_;refine ap ?_)
  refine tN ?_;refine tS [16,17] ?_;iterate 2(refine tC ?_;refine ap ?_)
  refine tN ?_;refine wpAnyH_done (by kernel_rfl) ?_ _;go_wp2_with fail;go_ret;exact⟨rfl,HB10.out.drew.trans hb3⟩
 |some r=>
  obtain⟨s,n⟩:=r;have HR:Hid ((if n=N then some (s,n)else none)=R):=HR.out;by_cases h6:n=N
  ·have hR:R=some (s,n):=by rw[<-HR.out,if_pos h6]
   clear HR;subst hR;subst h6;have e6:((n:Int)==(n:Int))=true:=beq_self_eq_true _;refine wp_region_held_drew (S:=(λZ=>Z.cell? ⟨g,0,none⟩=some (.slice (some ⟨b1,o1,none⟩) n c))) (by kernel_rfl) ?_ (λhHeld=>?_)
   ·try dsimp only
    first|exact HSA.out _ (by exact bl)|exact HSB.out _ (by exact bl)
   refine tS [0,1,2] ?_;iterate 3(refine tC ?_;refine ap ?_)
   refine tN ?_;refine rdy 3 λK hK=>?_
   go_simp
   (refine(HM.out _ (by exact bl)).mono ?_)<;>rintro en w3 ⟨p,rfl,hP3,hQ3,hok3,hb3⟩<;>have HSB:Hid (∀Z:World,Below w3.heap.size w3 Z->Z.cell? ⟨g,0,none⟩=some (.slice (some ⟨b1,o1,none⟩) n c)):=(λZ hz=>HN.out ▸ (((hP3.below hz).blk.cell 0).trans hP3.c0))<;>have x1:w3.cell? ⟨g,1,none⟩=some (.int .i64 (n:Nat)):=(hP3.blk.cell 1).trans hP3.c1<;>have HP3:=Lib.hid hP3<;>have HQ3:=Lib.hid hQ3<;>have HO3:=Lib.hid hok3<;>clear hP3 hQ3 hok3
   go_wp2_with fail;refine hK.out _ _ ?_ (λhHeld=>?_)
   ·try dsimp only
    first|exact HSA.out _ (by exact bl)|exact HSB.out _ (by exact bl)
   clear hK K;refine ap ?_;refine tS [4,5,6,7,8,10,11,12,13,14] ?_;iterate 10(refine tC ?_;refine ap ?_)
   refine tN ?_;refine rdy 9 λK hK=>?_
   go_simp
   skip
   go_wp2_with fail;refine hK.out _ _ ?_ (λhHeld=>?_)
   ·try dsimp only
    first|exact HSA.out _ (by exact bl)|exact HSB.out _ (by exact bl)
   clear hK K;refine ap ?_;refine tS [15,16,17] ?_;iterate 3(refine tC ?_;refine ap ?_)
   refine tN ?_;refine wpAnyH_done (by kernel_rfl) ?_ _;go_wp2_with fail;go_ret;exact⟨p,rfl,HP3.out,HQ3.out.keep λb hb=>⟨⟨Nat.le_trans HB10.out.size hb.1,hb.2⟩,λ_=>rfl⟩,HO3.out,HB10.out.drew.trans hb3⟩
  ·have hR:R=none:=by rw[<-HR.out,if_neg h6]
   have e7:¬(n:Int)=(N:Int):=by omega
   have e6:((n:Int)==(N:Int))=false:=by rw[beq_eq_false_iff_ne];exact e7
   clear HR h6;subst hR;refine wp_region_held_drew (S:=(λZ=>Z.cell? ⟨g,0,none⟩=some (.slice (some ⟨b1,o1,none⟩) N c))) (by kernel_rfl) ?_ (λhHeld=>?_)
   ·try dsimp only
    first|exact HSA.out _ (by exact bl)|exact HSB.out _ (by exact bl)
   refine tS [0,1,2] ?_;iterate 3(refine tC ?_;refine ap ?_)
   refine tN ?_;refine rdy 3 λK hK=>?_
   go_simp
   (refine(HM.out _ (by exact bl)).mono ?_)<;>rintro en w3 ⟨p,rfl,hP3,hQ3,hok3,hb3⟩<;>have HSB:Hid (∀Z:World,Below w3.heap.size w3 Z->Z.cell? ⟨g,0,none⟩=some (.slice (some ⟨b1,o1,none⟩) N c)):=(λZ hz=>HN.out ▸ (((hP3.below hz).blk.cell 0).trans hP3.c0))<;>have x1:w3.cell? ⟨g,1,none⟩=some (.int .i64 (n:Nat)):=(hP3.blk.cell 1).trans hP3.c1<;>clear hP3 hQ3 hok3
   go_wp2_with fail;refine hK.out _ _ ?_ (λhHeld=>?_)
   ·try dsimp only
    first|exact HSA.out _ (by exact bl)|exact HSB.out _ (by exact bl)
   clear hK K;refine ap ?_;refine tS [4,5,6,7,8,10,11,12,13,14] ?_;iterate 10(refine tC ?_;refine ap ?_)
   refine tN ?_;refine rdy 9 λK hK=>?_
   go_simp
   skip
   go_wp2_with fail;refine hK.out _ _ ?_ (λhHeld=>?_)
   ·try dsimp only
    first|exact HSA.out _ (by exact bl)|exact HSB.out _ (by exact bl)
   clear hK K;refine ap ?_;refine tS [15,16,17] ?_;iterate 3(refine tC ?_;refine ap ?_)
   refine tN ?_;refine wpAnyH_done (by kernel_rfl) ?_ _;go_wp2_with fail;go_ret;exact⟨rfl,HB10.out.drew.trans hb3⟩
theorem Pv(g:Nat)(A:Option Addr)(c:Nat)(l:List Tok)(w:World)(h0:l[0]? = some ⟨1,[83,69,76,69,67,84]⟩)(hTy:TyG g w)(hp:PsE g c l w)(h:PsS g A c l 0 (psC A l.length c 0 ((stZ [] []).cells Cj)) w):
  Calls Tryz.prog 57 #[.pointer (some ⟨g,0,none⟩)] w (Fz (IK l (JG l [115,101,108,101,99,116] [[42],[70,82,79,77]])) g A c l w):=
 Dl 102 5 [83,69,76,69,67,84] (Go.Proofs.enters_of Tryz.func102 (by kernel_rfl) rfl) (JG l [115,101,108,101,99,116] [[42],[70,82,79,77]]) g A c l w (by kernel_rfl) h0 hTy hp h λB Z _ hp h=>OH g B c l Z hp h
theorem Tq(g:Nat)(A:Option Addr)(c:Nat)(l:List Tok)(w:World)(h0:l[0]? = some ⟨1,[68,82,79,80]⟩)(hTy:TyG g w)(hp:PsE g c l w)(h:PsS g A c l 0 (psC A l.length c 0 ((stZ [] []).cells Cj)) w):
  Calls Tryz.prog 57 #[.pointer (some ⟨g,0,none⟩)] w (Fz (IK l (N7 l)) g A c l w):=
 Dl 98 1 [68,82,79,80] (Go.Proofs.enters_of Tryz.func98 (by kernel_rfl) rfl) (N7 l) g A c l w (by kernel_rfl) h0 hTy hp h λB Z _ hp h=>SC g B c l Z hp h
theorem Px(g:Nat)(A:Option Addr)(c:Nat)(l:List Tok)(w:World)(h0:l[0]? = some ⟨1,[73,78,83,69,82,84]⟩)(hTy:TyG g w)(hp:PsE g c l w)(h:PsS g A c l 0 (psC A l.length c 0 ((stZ [] []).cells Cj)) w):
  Calls Tryz.prog 57 #[.pointer (some ⟨g,0,none⟩)] w (Fz (IK l (Gy l)) g A c l w):=
 Dl 99 2 [73,78,83,69,82,84] (Go.Proofs.enters_of Tryz.func99 (by kernel_rfl) rfl) (Gy l) g A c l w (by kernel_rfl) h0 hTy hp h λB Z _ hp h=>Nj g B c l Z hp h
def MB(o:Option St)(w:World)(en:Ending)(w':World):Prop:=
 match o with
 |none=>en=.returned (.tuple #[.agg ((stZ [] []).cells Cj).toArray,.int .i64 2])/\Below w.heap.size w w'
 |some x=>∃p,en=.returned (.tuple #[.agg (x.cells p).toArray,.int .i64 0])/\StQ 1000 x p (λb=>w.heap.size<=b/\b<w'.heap.size) w'/\x.Ok/\Below w.heap.size w w'
theorem JY(s:List UInt8)(l:List Tok)(G:Option (St×Nat))(w:World)(hs:s.length<=900000)(hc:Ii s=some l)(hl:l.length<=990)(ht:∀t∈l,t.s.length<=1000)(hV:FY w)(hEr:JP w)
 (hST:∀(g:Nat) (A:Option Addr) (c:Nat) (W:World),TyG g W->PsE g c l W->PsS g A c l 0 (psC A l.length c 0 ((stZ [] []).cells Cj)) W->Calls Tryz.prog 57 #[.pointer (some ⟨g,0,none⟩)] W (Fz G g A c l W)):
  Calls Tryz.prog 30 #[.string ⟨s.toArray⟩] w (MB (G.bind λr=>if Jf r.1 then some r.1 else none) w):=by
 obtain⟨w0,hw0⟩:∃w0,w.alloc (.cells #[.string ⟨#[]⟩,.string ⟨#[]⟩,.string ⟨#[]⟩,.slice none 0 0,.slice none 0 0,.string ⟨#[]⟩,.slice none 0 0,.slice none 0 0,.string ⟨#[]⟩,.int .i64 0,.int .i64 0,.string ⟨#[]⟩,.string ⟨#[]⟩,.slice none 0 0,.slice none 0 0,.slice none 0 0,.string ⟨#[]⟩,.int .i64 0,.int .i64 0,.string ⟨#[]⟩,.string ⟨#[]⟩,.slice none 0 0,.string ⟨#[]⟩] 34)=w0:=⟨_,rfl⟩;have k0:Blk w0 w.heap.size 34 ((stZ [] []).cells Cj).toArray:=by rw[<-hw0];exact Blk.new _ _ _
 have hb0:Below w.heap.size w w0:=by rw[<-hw0];exact bl
 have HC:=Lib.hid (N9 s w0 hs (hV.below hb0).1);rw[hc]at HC;have HW:=Lib.hid hw0;have hlt:=k0.lt;obtain⟨R,hR⟩:∃x,(G.bind λr=>if Jf r.1 then some r.1 else none)=x:=⟨_,rfl⟩;rw[hR];have HR:=Lib.hid hR;have HT:=Lib.hid ht;have HE:Hid (∀Z:World,Below w.heap.size w Z->FY Z):=λZ hz=>hV.below hz
 have HER:Hid (∀g W,w.heap.size<=g->Below w.heap.size w W->ErG g W):=λg W hg hb=>⟨w,hEr,hg,hb⟩
 have HTG:Hid (∀g W,w.heap.size<=g->Below w.heap.size w W->TyG g W):=λg W hg hb=>⟨w,hV.2.2,hg,hb⟩
 have HSTM:=Lib.hid hST;clear hw0 hc hR ht hV hEr hST;go_in
 go_upto_region 1 with fail
 rw[show w.alloc _=w0 from HW.out];clear HW;go_wp2_with fail;refine HC.out.mono ?_;rintro en w1 ⟨A,c,rfl,hlc,hcm,htk,hb1⟩;dsimp only[Ib]at hlc htk ⊢;have k1:=k0.below hb1 hlt;have hb:=hb0.trans (hb1.mono hb0.size);obtain⟨w2,hw2⟩:∃w2,w1.alloc (.cells #[.slice A l.length c,.int .i64 0,.string ⟨#[]⟩,.string ⟨#[]⟩,.string ⟨#[]⟩,.slice none 0 0,.slice none 0 0,.string ⟨#[]⟩,.slice none 0 0,.slice none 0 0,.string ⟨#[]⟩,.int .i64 0,.int .i64 0,.string ⟨#[]⟩,.string ⟨#[]⟩,.slice none 0 0,.slice none 0 0,.slice none 0 0,.string ⟨#[]⟩,.int .i64 0,.int .i64 0,.string ⟨#[]⟩,.string ⟨#[]⟩,.slice none 0 0,.string ⟨#[]⟩] 99)=w2:=⟨_,rfl⟩;have kp:Blk w2 w1.heap.size 99 #[.slice A l.length c,.int .i64 0,.string ⟨#[]⟩,.string ⟨#[]⟩,.string ⟨#[]⟩,.slice none 0 0,.slice none 0 0,.string ⟨#[]⟩,.slice none 0 0,.slice none 0 0,.string ⟨#[]⟩,.int .i64 0,.int .i64 0,.string ⟨#[]⟩,.string ⟨#[]⟩,.slice none 0 0,.slice none 0 0,.slice none 0 0,.string ⟨#[]⟩,.int .i64 0,.int .i64 0,.string ⟨#[]⟩,.string ⟨#[]⟩,.slice none 0 0,.string ⟨#[]⟩]:=by rw[<-hw2];exact Blk.new _ _ _
 have hb12:Below w1.heap.size w1 w2:=by rw[<-hw2];exact bl
 have hP:PsS w1.heap.size A c l 0 #[.slice A l.length c,.int .i64 0,.string ⟨#[]⟩,.string ⟨#[]⟩,.string ⟨#[]⟩,.slice none 0 0,.slice none 0 0,.string ⟨#[]⟩,.slice none 0 0,.slice none 0 0,.string ⟨#[]⟩,.int .i64 0,.int .i64 0,.string ⟨#[]⟩,.string ⟨#[]⟩,.slice none 0 0,.slice none 0 0,.slice none 0 0,.string ⟨#[]⟩,.int .i64 0,.int .i64 0,.string ⟨#[]⟩,.string ⟨#[]⟩,.slice none 0 0,.string ⟨#[]⟩] w2:=⟨kp,rfl,rfl,(htk.vs (Nat.le_refl _)).below hb12⟩;have HST:=Lib.hid (HSTM.out w1.heap.size A c w2 (HTG.out _ _ (by have:=k1.lt;omega) (hb.trans (hb12.mono hb.size))) ⟨hl,HT.out,hlc,HER.out _ _ (by have:=k1.lt;omega) (hb.trans (hb12.mono hb.size))⟩ hP);have k2:=k1.below hb12 k1.lt;have hbw2:=hb.trans (hb12.mono hb.size);have hzw:w.heap.size<w1.heap.size:=k1.lt;have HB2:=Lib.hid hbw2;have HK2:=Lib.hid k2;have HW2:=Lib.hid hw2;clear hw2 kp hP htk hb1 hb12 hb k0 k1 hb0 k2 hbw2 hlc hcm;go_upto_region 5 with fail
 rw[show World.alloc w1 _=w2 from HW2.out];clear HW2;go_wp2_with fail;refine HST.out.mono ?_;cases G with
 |none=>
  have hR:R=none:=HR.out.symm;subst hR;rintro en w3 ⟨rfl,hb3⟩;have hbz:Below w.heap.size w w3:=But.inside HB2.out (Nat.le_of_lt hzw) hb3;have kz:Blk w3 w.heap.size 34 ((stZ [] []).cells Cj).toArray:=hb3.blk HK2.out (by omega);have HB:=Lib.hid (Df hbz (Nat.le_refl _) ((stZ [] []).cells Cj).toArray);have HK1:=Lib.hid kz;have hres:(loadVar 34 ⟨w.heap.size,0,none⟩).run Tryz.prog (World.setRow w3 w.heap.size ((stZ [] []).cells Cj).toArray)=.ok (.agg ((stZ [] []).cells Cj).toArray) (World.setRow w3 w.heap.size ((stZ [] []).cells Cj).toArray):=run_loadVar_row _ _ 34 34 _ (0,0) _ (kz.row _) Tryz.underlying34 rfl Au;clear hbz kz;go_wp2_with (refine wpList_store_row rfl 34 _ _ rfl w.heap.size ((stZ [] []).cells Cj).toArray rfl rfl 34 _ HK1.out Au rfl (IY _ _) ?_);refine bodyPost_ret (v:=.tuple #[.agg ((stZ [] []).cells Cj).toArray,.int .i64 2]) (by first|(simp[results,Tryz.results30,asAddr,hres];done)|(simp[results,Tryz.results30,asAddr,hres,Sem.run_bind];done)) rfl ?_;exact⟨rfl,HB.out⟩
 |some r=>
  obtain⟨x,n⟩:=r;rintro en w3 ⟨p,rfl,hP3,hQ3,hok,hb3⟩;have kb:Blk w3 w1.heap.size 99 (.slice A l.length c::.int .i64 (n:Nat)::x.cells p).toArray:=hP3.blk;have hbw3:Below w.heap.size w w3:=But.inside HB2.out (Nat.le_of_lt hzw) hb3;have hk3:=hb3.blk HK2.out (by omega);have HRA:Hid (∀Z:World,Below w3.heap.size w3 Z->Z.rangeAt w1.heap.size 2 (x.cells p)):=λZ hz j v hv=>by
   rw[(kb.below hz kb.lt).cell (2+j),Nat.add_comm 2 j];simpa using hv
  have HMY:=Lib.hid (Va x p w3 hok (hQ3.keep λb hb=>⟨hb.2,λ_=>rfl⟩) (HE.out w3 hbw3));have HR2:Hid ((if Jf x then some x else none)=R):=HR.out;have HQ3:=Lib.hid hQ3;have HOK:=Lib.hid hok;have hsz2:w.heap.size<w2.heap.size:=HK2.out.lt;obtain⟨M,hM⟩:∃M,Jf x=M:=⟨_,rfl⟩;rw[hM]at HMY HR2;have HB3:=Lib.hid hbw3;have HK3:=Lib.hid hk3;have hz3:w.heap.size<w3.heap.size:=hk3.lt;clear hM hok kb hP3 hb3 HR HT HST HSTM HER HTG hQ3 hbw3 hk3;go_wp2_with (refine Bo (by rfl) 34 _ rfl w1.heap.size 2 rfl (x.cells p) _ (HRA.out _ (Below.refl _ _)) Tryz.underlying34 rfl Au ?_);refine HMY.out.mono ?_;rintro en w4 ⟨rfl,hb4⟩;cases M with
  |false=>
   have hR:R=none:=HR2.out.symm;subst hR;have hbz:Below w.heap.size w w4:=HB3.out.trans (hb4.mono (Nat.le_of_lt hz3));have kz:Blk w4 w.heap.size 34 ((stZ [] []).cells Cj).toArray:=HK3.out.below hb4 hz3;have HB:=Lib.hid (Df hbz (Nat.le_refl _) ((stZ [] []).cells Cj).toArray);have HK1:=Lib.hid kz;have hres:(loadVar 34 ⟨w.heap.size,0,none⟩).run Tryz.prog (World.setRow w4 w.heap.size ((stZ [] []).cells Cj).toArray)=.ok (.agg ((stZ [] []).cells Cj).toArray) (World.setRow w4 w.heap.size ((stZ [] []).cells Cj).toArray):=run_loadVar_row _ _ 34 34 _ (0,0) _ (kz.row _) Tryz.underlying34 rfl Au;clear hbz kz;go_wp2_with (refine wpList_store_row rfl 34 _ _ rfl w.heap.size ((stZ [] []).cells Cj).toArray rfl rfl 34 _ HK1.out Au rfl (IY _ _) ?_);refine bodyPost_ret (v:=.tuple #[.agg ((stZ [] []).cells Cj).toArray,.int .i64 2]) (by first|(simp[results,Tryz.results30,asAddr,hres];done)|(simp[results,Tryz.results30,asAddr,hres,Sem.run_bind];done)) rfl ?_;exact⟨rfl,HB.out⟩
  |true=>
   have hR:R=some x:=HR2.out.symm;subst hR;have hbz:Below w.heap.size w w4:=HB3.out.trans (hb4.mono (Nat.le_of_lt hz3));have kz:Blk w4 w.heap.size 34 ((stZ [] []).cells Cj).toArray:=HK3.out.below hb4 hz3;have HRZ:=Lib.hid (HRA.out w4 hb4);have HB:=Lib.hid (Df hbz (Nat.le_refl _) (x.cells p).toArray);have HK1:=Lib.hid kz;have HQF:Hid (StQ 1000 x p (λb=>w.heap.size<=b/\b<(World.setRow w4 w.heap.size (x.cells p).toArray).heap.size) (World.setRow w4 w.heap.size (x.cells p).toArray)):=HQ3.out.keep λb hb=>⟨⟨Nat.le_trans (Nat.le_of_lt hsz2) hb.1,by rw[Bg];exact Nat.lt_of_lt_of_le hb.2 hb4.size⟩,λo=>(Bf (BI _ _ _ _ (by have:=hb.1;omega)) o).trans (hb4.cell (p:=⟨b,o,none⟩) hb.2)⟩
   have hres:(loadVar 34 ⟨w.heap.size,0,none⟩).run Tryz.prog (w4.setRow w.heap.size (x.cells p).toArray)=.ok (.agg (x.cells p).toArray) (w4.setRow w.heap.size (x.cells p).toArray):=run_loadVar_row _ _ 34 34 _ (0,0) _ (kz.row _) Tryz.underlying34 rfl Au;clear hbz kz hb4 HRA;go_wp2_with (first|refine Bo (by rfl) 34 _ rfl w1.heap.size 2 rfl (x.cells p) _ HRZ.out Tryz.underlying34 rfl Au ?_|refine wpList_store_row rfl 34 _ _ rfl w.heap.size (x.cells p).toArray rfl rfl 34 _ HK1.out Au rfl (IY _ _) ?_);refine bodyPost_ret (v:=.tuple #[.agg (x.cells p).toArray,.int .i64 0]) (by first|(simp[results,Tryz.results30,asAddr,hres];done)|(simp[results,Tryz.results30,asAddr,hres,Sem.run_bind];done)) rfl ?_;exact⟨p,rfl,HQF.out,HOK.out,HB.out⟩
end
section
open Go.RowKit
attribute [local go_sem] ByteArray.extract_mk Ak AY
attribute [local go_sem ↓] Go.wp_at_zero Go.wp_at_succ
theorem Vw{l:List Tok}{n:List UInt8}{t:Int}{a:Nat}{r:Col×Nat}(h:LG l n t a=some r):a<r.2/\r.2<=l.length:=by
 unfold LG at h;split at h
 ·split at h
  ·split at h
   ·rename_i h3
    injection h with h
    subst h;have:=DZ h3;exact⟨by simp only;omega,this⟩
   ·cases h
  ·cases h
 ·split at h
  ·rename_i h3
   injection h with h
   subst h;have:=DZ h3;exact⟨Nat.lt_succ_self _,this⟩
  ·cases h
theorem ZU{l:List Tok}{a:Nat}{r:Col×Nat}(h:OE l a=some r):a<r.2/\r.2<=l.length:=by
 unfold OE at h;cases hn:AO l a with
 |none=>rw[hn]at h;cases h
 |some n=>
  rw[hn]at h;simp only[Option.bind_some]at h;cases ht:Ip l (a+1)with
  |none=>rw[ht]at h;cases h
  |some t=>
   rw[ht]at h;have h1:=Vw h;have h2:t.2=a+2:=by
    unfold Ip at ht;split at ht
    ·injection ht with ht;subst ht;rfl
    ·split at ht
     ·injection ht with ht;subst ht;rfl
     ·split at ht
      ·injection ht with ht;subst ht;rfl
      ·cases ht
   omega
def Gq(l:List Tok):Nat->Nat->Option (List Col×Nat)
 |0,_=>none
 |f+1,a=>if hit l a [75,69,89]then some ([],a+1)else(OE l a).bind λr=>(Gq l f r.2).map λq=>(r.1::q.1,q.2)
theorem SK{l:List Tok}:∀(f a:Nat) (r:List Col×Nat),Gq l f a=some r->r.2<=l.length/\r.1.length<=f
 |0,a,r,h=>by cases h
 |f+1,a,r,h=>by
  unfold Gq at h;split at h
  ·rename_i h3
   injection h with h
   subst h;exact⟨DZ h3,Nat.zero_le _⟩
  ·cases hq:OE l a with
   |none=>rw[hq]at h;cases h
   |some q=>
    rw[hq]at h;simp only[Option.bind_some]at h;cases hz:Gq l f q.2 with
    |none=>rw[hz]at h;cases h
    |some z=>
     rw[hz]at h
     injection h with h
     subst h;have:=SK f _ z hz;exact⟨this.1,by simp;omega⟩
def ER(l:List Tok):Nat->Nat->List (List UInt8)->List Rf->Option ((List (List UInt8)×List Rf×Ex)×Nat)
 |0,_,_,_=>none
 |f+1,a,us,rs=>if hit l a [44]then
   (if rs.length=0/\hit l (a+1) [85,78,73,81,85,69]then(Ae l (a+2) (Az l (a+3))).bind λr=>ER l f r.2 (us++[r.1]) rs
   else if hit l (a+1) [82,69,70,69,82,69,78,67,69,83]then(Je l (a+2)).bind λr=>ER l f r.2 us (rs++[r.1])
   else if hit l (a+1) [67,72,69,67,75]then(Aw l (a+1)).bind λq=>if hit l q.2 [41]then some ((us,rs,q.1),q.2+1)else none
   else none)
  else if hit l a [41]then some ((us,rs,ex0),a+1)else none
def stT(tb:List UInt8)(cols:List Col)(key:List UInt8)(us:List (List UInt8))(rs:List Rf)(e:Ex):St:=⟨[99,114,101,97,116,101],tb,[],[],cols,key,us,rs,e,[],[],ex0,[]⟩
def pT(c u r e:Sl):StP:=⟨slZ,c,u,r,e,slZ,slZ,slZ⟩
def KW(l:List Tok):Option (St×Nat):=
 if hit l 1 [84,65,66,76,69]then(AO l 2).bind λt=>if hit l 3 [40]then(Gq l (l.length+1) 4).bind λq=>(Ae l q.2 (Az l (q.2+1))).bind λk=>(ER l (l.length+1) k.2 [] []).map λr=>(stT t q.1 k.1 r.1.1 r.1.2.1 r.1.2.2,r.2)else none else none
def KK(cs0:Array Value)(s:List UInt8)(cs:Array Value)(_:World):Prop:=(∃b,cs=Aa (cs0.setIfInBounds 7 (.string ⟨s.toArray⟩)) b)/\s.length<=1000
theorem KK.stay{cs0:Array Value}{g:Nat}:Gs g (KK cs0):=λs cs W W' b ⟨⟨b0,h1⟩,h2⟩ _=>⟨⟨b,by rw[h1,AQ]⟩,h2⟩
theorem WL(g pv:Nat)(A:Option Addr)(c:Nat)(l:List Tok)(a:Nat)(cs0:Array Value)(w:World)(hp:PsE g c l w)(ha:a<=l.length)(hP:PsS g A c l a (Aa cs0 a) w)(h7:cs0[7]? = some (.string ⟨([]:List UInt8).toArray⟩))(hv:w.cell? ⟨pv,0,none⟩=some (.pointer (some ⟨g,0,none⟩)))(hpg:pv≠g):
  Calls Tryz.prog 165 #[.pointer (some ⟨pv,0,none⟩)] w (FP (Az l a) g A c l (KK cs0) w):=by
 have hl:=hp.n;have hpl:=Ag hv;have hgl:=hP.blk.lt;have HX:Hid (∀Z:World,Below w.heap.size w Z->Calls Tryz.prog 161 #[.pointer (some ⟨g,0,none⟩),.pointer (some ⟨g,7,none⟩)] Z (IJ (AO l a) 7 g A c l a (Aa cs0 a) Z)):=λZ hz=>
  Bv g A c l a _ 7 [] Z (by omega) (hP.below hz) (by decide) (by rw[JE _ _ _ (by decide)];exact h7) hp.s
 have HSV:Hid (∀Z:World,Below w.heap.size w Z->Z.cell? ⟨pv,0,none⟩=some (.pointer (some ⟨g,0,none⟩))):=λZ hz=>(hz.cell (p:=⟨pv,0,none⟩) hpl).trans hv
 obtain⟨R,hR⟩:∃R,Az l a=R:=⟨_,rfl⟩;rw[hR];unfold Az at hR;have HNL:Hid (∀s,AO l a=some s->s.length<=1000):=λs h=>by
  obtain⟨t,ht,rfl⟩:=Bj h;exact hp.s t ht
 obtain⟨o,ho⟩:∃o,AO l a=o:=⟨_,rfl⟩;rw[ho]at HX HNL hR;have HR:=Lib.hid hR;clear ho hR hp hP hv ha h7;go_in
 go_upto_region 1 with fail
 cases o with
 |none=>
  have hR:R=none:=HR.out.symm;subst hR;refine wp_region_held_drew (S:=(λZ=>Z.cell? ⟨pv,0,none⟩=some (.pointer (some ⟨g,0,none⟩)))) (by kernel_rfl) ?_ (λhHeld=>?_)
  ·try dsimp only
   first|exact HSV.out _ (by exact bl)|exact HS5.out _ (by exact bl)
  refine tS [0,1,2,3,4] ?_;iterate 5(refine tC ?_;refine ap ?_)
  refine tN ?_;refine rdy 5 λK hK=>?_
  go_simp
  (refine(HX.out _ (by exact bl)).mono ?_)<;>rintro en w5 ⟨rfl,hP5,hb5⟩<;>have hc5:But g w w5:=But.trans (But.of_below (by exact bl)) hb5<;>have HS5:Hid (∀Z:World,Below w5.heap.size w5 Z->Z.cell? ⟨pv,0,none⟩=some (.pointer (some ⟨g,0,none⟩))):=(λZ hz=>((hc5.trans (But.of_below hz)).cell hpl hpg 0).trans (HSV.out w (Below.refl _ _)))<;>clear hP5
  go_wp2_with fail;refine hK.out _ _ ?_ (λhHeld=>?_)
  ·try dsimp only
   first|exact HSV.out _ (by exact bl)|exact HS5.out _ (by exact bl)
  clear hK K;refine ap ?_;refine tS [6] (tC ?_);refine ap (tN ?_);refine wpAnyH_done (by kernel_rfl) ?_ _;go_wp2_with fail;go_ret;exact⟨rfl,hc5⟩
 |some s=>
  have hR:R=some (s,a+1):=HR.out.symm;subst hR;refine wp_region_held_drew (S:=(λZ=>Z.cell? ⟨pv,0,none⟩=some (.pointer (some ⟨g,0,none⟩)))) (by kernel_rfl) ?_ (λhHeld=>?_)
  ·try dsimp only
   first|exact HSV.out _ (by exact bl)|exact HS5.out _ (by exact bl)
  refine tS [0,1,2,3,4] ?_;iterate 5(refine tC ?_;refine ap ?_)
  refine tN ?_;refine rdy 5 λK hK=>?_
  go_simp
  (refine(HX.out _ (by exact bl)).mono ?_)<;>rintro en w5 ⟨rfl,hP5,hb5⟩<;>have hc5:But g w w5:=But.trans (But.of_below (by exact bl)) hb5<;>have HS5:Hid (∀Z:World,Below w5.heap.size w5 Z->Z.cell? ⟨pv,0,none⟩=some (.pointer (some ⟨g,0,none⟩))):=(λZ hz=>((hc5.trans (But.of_below hz)).cell hpl hpg 0).trans (HSV.out w (Below.refl _ _)))<;>have HP5:=Lib.hid hP5<;>clear hP5
  go_wp2_with fail;refine hK.out _ _ ?_ (λhHeld=>?_)
  ·try dsimp only
   first|exact HSV.out _ (by exact bl)|exact HS5.out _ (by exact bl)
  clear hK K;refine ap ?_;refine tS [6] (tC ?_);refine ap (tN ?_);refine wpAnyH_done (by kernel_rfl) ?_ _;go_wp2_with fail;go_ret;exact⟨rfl,_,HP5.out,⟨⟨a+1,by rw[Dp _ _ _ _ (by decide),AQ]⟩,HNL.out _ rfl⟩,hc5⟩
theorem Qr{α:Type}(pv:Nat)(o:Option (α×Nat))(K:α->Array Value->World->Prop)(g:Nat)(A:Option Addr)(c:Nat)(l:List Tok)(a:Nat)(cs:Array Value)(w:World)(hl:l.length<=990)(ha:a<=l.length)(h:PsS g A c l a cs w)(hK:Gs g K)(ho:a+1<=l.length->∀r,o=some r->r.2<=l.length)
 (hI:∀W,But g w W->a+1<=l.length->PsS g A c l (a+1) (Aa cs (a+1)) W->Calls Tryz.prog 165 #[.pointer (some ⟨pv,0,none⟩)] W (FP o g A c l K W)):
  Calls Tryz.prog 164 #[.pointer (some ⟨g,0,none⟩),.func (.func 165) #[] #[.pointer (some ⟨pv,0,none⟩)]] w (FP (Ae l a o) g A c l K w):=by
 have HT:=Lib.hid (Ac g A c l a cs [40] w (by omega) h);obtain⟨R,hR⟩:∃R,Ae l a o=R:=⟨_,rfl⟩;rw[hR];unfold Ae at hR;have HA:Hid (hit l a [40]=true->a+1<=l.length):=λh=>DZ h
 obtain⟨B,hB⟩:∃B,hit l a [40]=B:=⟨_,rfl⟩;rw[hB]at HT hR HA;have HR:=Lib.hid hR;have HI:=Lib.hid hI;have HK:=Lib.hid hK;have HO:=Lib.hid ho;clear hR hB h hI hK ho ha;go_in
 go_wp2_with fail;refine HT.out.mono ?_;rintro en w1 ⟨rfl,hP1,hb1⟩;have HB1:=Lib.hid hb1;cases B with
 |false=>
  have hR:R=none:=HR.out.symm;subst hR;clear hP1 hb1;go_wp2_with fail;go_ret;exact⟨rfl,HB1.out⟩
 |true=>
  have HR:Hid ((o.bind λr=>if hit l r.2 [41]then some (r.1,r.2+1)else none)=R):=HR.out;have hP1':PsS g A c l (a+1) (Aa cs (a+1)) w1:=hP1;have HX:=Lib.hid (HI.out w1 hb1 (HA.out rfl) hP1');have HAL:=Lib.hid (HA.out rfl);clear hP1 hP1' hb1 HI HT;go_wp2_with fail;refine HX.out.mono ?_;cases o with
  |none=>
   have hR:R=none:=HR.out.symm;subst hR;rintro en w2 ⟨rfl,hb2⟩;have HB2:=Lib.hid (HB1.out.trans hb2);clear hb2;go_wp2_with fail;go_ret;exact⟨rfl,HB2.out⟩
  |some r=>
   obtain⟨x,b⟩:=r;have hR:(if hit l b [41]then some (x,b+1)else none)=R:=HR.out;rintro en w2 ⟨rfl,cs2,hP2,hK2,hb2⟩;have hbl:b<=l.length:=HO.out HAL.out (x,b) rfl;have HT2:=Lib.hid (Ac g A c l b cs2 [41] w2 (by omega) hP2);have HB2:=Lib.hid (HB1.out.trans hb2);have HK2:=Lib.hid hK2;obtain⟨D,hD⟩:∃D,hit l b [41]=D:=⟨_,rfl⟩;rw[hD]at HT2 hR;have HR2:=Lib.hid hR;clear hP2 hK2 hb2 hD hR HR HX hbl;go_wp2_with fail;refine HT2.out.mono ?_;rintro en w3 ⟨rfl,hP3,hb3⟩;have HP3:=Lib.hid hP3;have HB3:=Lib.hid hb3;clear hP3 hb3;cases D with
   |false=>
    have hR:R=none:=HR2.out.symm;subst hR;go_wp2_with fail;go_ret;exact⟨rfl,HB2.out.trans HB3.out⟩
   |true=>
    have hR:R=some (x,b+1):=HR2.out.symm;subst hR;go_wp2_with fail;go_ret;exact⟨rfl,_,HP3.out,HK.out _ _ _ _ _ HK2.out HB3.out,HB2.out.trans HB3.out⟩
end
end Go.Proofs.YtchilcchogcibaaGreatDoor
