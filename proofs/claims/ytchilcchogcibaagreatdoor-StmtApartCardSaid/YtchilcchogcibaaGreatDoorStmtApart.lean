/- caddislaw05.StmtApart answers true: two statements that may be have the same text just if they are the same; blanks, and ends of lines, change nothing. -/
import Derived.Test.YtchilcchogcibaaGreatDoorFAppend
import Derived.Test.YtchilcchogcibaaGreatDoorPsA
import Derived.Test.YtchilcchogcibaaGreatDoorFPs5
set_option maxRecDepth 100000
set_option maxHeartbeats 8000000
namespace Go.Proofs.YtchilcchogcibaaGreatDoor
open Go.RowKit
attribute [local go_sem] ByteArray.extract_mk Ak AY
attribute [local go_sem ↓] Go.wp_at_zero Go.wp_at_succ
def apartT(t:List UInt8):List UInt8:=[10,32]++(t++[32,10])
theorem callV{f:Nat}{a b:Array Value}{w:World}{Q:Ending->World->Prop}(h:Calls Tryz.prog f a w Q)(e:a=b):Calls Tryz.prog f b w Q:=e ▸ h
theorem apart_parse{s:St}(h:Jf s=true)(hok:s.Ok){w:World}(hV:FY w)(hE:JP w):Calls Tryz.prog 30 #[.string ⟨(apartT (Dk s)).toArray⟩] w (MB (some s) w):=by
 obtain⟨hc,hl⟩:=may_cut h hok.num (t:=[10,32]) (u:=[32,10]) (by decide) (by decide);obtain⟨f,h0,h1,h2⟩:=may_back h hok.num;have:=aQ (apartT (Dk s)) (tokS s) f w (by have:=VP s hok (may_parts h).1;simp[apartT];omega) hc hl (tokS_len h hok.num) h0 h1 hV hE;rw[h2]at this;exact this
theorem stmtApart_walk(sa sb:St)(pa pb:StP)(w:World)(ha:sa.big)(hb:sb.big)(hQa:StQ maxLen sa pa (Old w.heap.size) w)(hQb:StQ maxLen sb pb (Old w.heap.size) w)(hV:FY w)(hEr:JP w):
  Calls Tryz.prog 9 #[.agg (sa.cells pa).toArray,.agg (sb.cells pb).toArray] w (Ret (.bool true) w):=by
 have hLX:=few_lens (s:=sa);have hLY:=few_lens (s:=sb);obtain⟨X,hX⟩:∃X,sa.few=X:=⟨_,rfl⟩;obtain⟨Y,hY⟩:∃Y,sb.few=Y:=⟨_,rfl⟩;rw[hX]at hLX;rw[hY]at hLY;obtain⟨w0,hw0⟩:∃w0,(w.alloc (.cells (sa.cells pa).toArray 34)).alloc (.cells (sb.cells pb).toArray 34)=w0:=⟨_,rfl⟩;have ka0:Blk w0 w.heap.size 34 (sa.cells pa).toArray:=by rw[<-hw0];exact(Blk.new _ _ _).alloc _
 have kb0:Blk w0 (w.heap.size+1) 34 (sb.cells pb).toArray:=by rw[<-hw0];exact Blk.new' _ _ _ _ (by simp)
 have hb0:Below w.heap.size w w0:=by rw[<-hw0];exact bl
 have hs0:w0.heap.size=w.heap.size+2:=by rw[<-hw0];simp
 have hz0:=hb0.size;have HW:=Lib.hid hw0;have HB0:=Lib.hid hb0;have hko:∀Z:World,Below w0.heap.size w0 Z->∀b,Old w.heap.size b->Old Z.heap.size b/\∀o,Z.cell? ⟨b,o,none⟩=w.cell? ⟨b,o,none⟩:=λZ hz=>DK (hb0.trans (hz.mono hz0)) (Nat.le_trans hz0 hz.size)
 have HFA:Hid (∀Z:World,Below w0.heap.size w0 Z->Calls Tryz.prog 14 #[.agg (sa.cells pa).toArray] Z (Zq X Z)):=λZ hz=>by rw[<-hX];exact few5_any sa pa Z ha (hQa.keep (hko Z hz))
 have HFB:Hid (∀Z:World,Below w0.heap.size w0 Z->Calls Tryz.prog 14 #[.agg (sb.cells pb).toArray] Z (Zq Y Z)):=λZ hz=>by rw[<-hY];exact few5_any sb pb Z hb (hQb.keep (hko Z hz))
 have HSH:Hid (∀Z:World,Below w0.heap.size w0 Z->Blk Z w.heap.size 34 (sa.cells pa).toArray/\Blk Z (w.heap.size+1) 34 (sb.cells pb).toArray):=λZ hz=>⟨ka0.below hz ka0.lt,kb0.below hz kb0.lt⟩
 have HEV:Hid (∀Z:World,Below w.heap.size w Z->FY Z/\JP Z):=λZ hz=>⟨hV.below hz,hEr.below hz rfl⟩
 clear hw0 hko hX hY ha hb hQa hQb hV hEr ka0 kb0 hb0;go_in
 go_upto_region 1 with fail
 rw[show World.alloc (World.alloc w _) _=w0 from HW.out];clear HW;refine Bl [4] (λZ=>Blk Z w.heap.size 34 (sa.cells pa).toArray/\Blk Z (w.heap.size+1) 34 (sb.cells pb).toArray) (by kernel_rfl) ?_ (λhHeld=>?_)
 ·try dsimp only
  exact HSH.out _ (by exact bl)
 refine tI 0 4 [4] (v:=.agg ((sa.cells pa).toArray)) (hy:=Sj (34) _ rfl (by rfl) (w.heap.size) rfl (34) ((sa.cells pa).toArray) _ (Tryz.underlying34) rfl (Au) (λwq hSw=>hSw.1)) ?_;refine ap ?_;refine tI 2 4 [3,4] (v:=.agg ((sb.cells pb).toArray)) (hy:=Sj (34) _ rfl (by rfl) ((w.heap.size+1)) rfl (34) ((sb.cells pb).toArray) _ (Tryz.underlying34) rfl (Au) (λwq hSw=>hSw.2)) ?_;refine ap ?_;refine AV (rs:=[1]) (by kernel_rfl) (by simp) ?_;refine AC.consT rfl (λK hK=>?_) AC.nil;go_simp
 (refine(HFA.out _ (by exact bl)).mono ?_)<;>rintro en w1 ⟨pX,rfl,okX,hQX,hb1⟩<;>have hz1:w0.heap.size<=w1.heap.size:=hb1.size
 go_wp2_with fail;refine hK.out _ _ (HSH.out _ (by exact bl)) λhHeld=>?_
 clear hK K;refine ap ?_;refine AV (rs:=[3]) (by kernel_rfl) (by simp) ?_;refine AC.consT rfl (λK hK=>?_) AC.nil;go_simp
 (refine(HFB.out _ (by exact bl)).mono ?_)<;>rintro en w3 ⟨pY,rfl,okY,hQY,hb3⟩<;>have hz3:=hb3.size
 go_wp2_with fail;refine hK.out _ _ (HSH.out _ (by exact bl)) λhHeld=>?_
 clear hK K;refine ap ?_;refine AV (rs:=[4]) (by kernel_rfl) (by simp) ?_;refine AC.consD rfl (by decide) (λK hK=>?_) AC.nil;refine BL (by rfl) (34) _ _ rfl (w.heap.size) ((X.cells pX).toArray) rfl rfl (34) (⟨(sa.cells pa).toArray,rfl,(HSH.out w3 (by exact bl)).1⟩) (Au) (IY X pX) ?_;refine hK.out _ _ ?_;clear hK K;refine ap ?_;refine AV (rs:=[5]) (by kernel_rfl) (by simp) ?_;refine AC.consD rfl (by decide) (λK hK=>?_) AC.nil;refine BL (by rfl) (34) _ _ rfl ((w.heap.size+1)) ((Y.cells pY).toArray) rfl rfl (34) (⟨(sb.cells pb).toArray,rfl,(BI w3 w.heap.size (w.heap.size+1) _ (by omega)).trans (HSH.out w3 (by exact bl)).2⟩) (Au) (IY Y pY) ?_;refine hK.out _ _ ?_;clear hK K;refine ap ?_;refine DI (by kernel_rfl) ?_ _;have hc3:Below w0.heap.size w0 w3:=by exact bl
 have kk:=HSH.out w3 hc3;obtain⟨W,hW⟩:∃W,(w3.setRow w.heap.size (X.cells pX).toArray).setRow (w.heap.size+1) (Y.cells pY).toArray=W:=⟨_,rfl⟩;rw[hW];have hn3:Below w.heap.size w w3:=HB0.out.trans (hc3.mono hz0);have kX:Blk W w.heap.size 34 (X.cells pX).toArray:=by rw[<-hW];exact(BI _ _ w.heap.size _ (by omega)).trans (kk.1.row _)
 have kY:Blk W (w.heap.size+1) 34 (Y.cells pY).toArray:=by
  rw[<-hW];exact Blk.row (show Blk _ (w.heap.size+1) 34 (sb.cells pb).toArray from(BI w3 w.heap.size (w.heap.size+1) _ (by omega)).trans kk.2) _
 have hsW:W.heap.size=w3.heap.size:=by rw[<-hW,Bg,Bg]
 have hcW:∀b o,w.heap.size+2<=b->W.cell? ⟨b,o,none⟩=w3.cell? ⟨b,o,none⟩:=λb o hb=>by
  rw[<-hW];exact(World.cell?_of_block (a:=⟨b,o,none⟩) (BI _ _ b _ (by omega))).trans (World.cell?_of_block (a:=⟨b,o,none⟩) (BI _ _ b _ (by omega)))
 have hnW:Below w.heap.size w W:=by rw[<-hW];exact Df (Df hn3 (Nat.le_refl _) _) (by omega) _
 have hQX':StQ 1000 X pX (Old W.heap.size) W:=hQX.keep λb hb=>by
  have hb':w0.heap.size<=b/\b<w1.heap.size:=hb;exact⟨show b<W.heap.size by omega,λo=>(hcW b o (by omega)).trans (hb3.cell (p:=⟨b,o,none⟩) hb'.2)⟩
 have hQY':StQ 1000 Y pY (Old W.heap.size) W:=hQY.keep λb hb=>by
  have hb':w1.heap.size<=b/\b<w3.heap.size:=hb;exact⟨show b<W.heap.size by omega,λo=>hcW b o (by omega)⟩
 obtain⟨m,hMX,hMY⟩:=hQX'.m2 hQY';obtain⟨hg1,hg2,hg3⟩:=hMX.hgt;have HVV:Hid (∀Z:World,Below W.heap.size W Z->FY Z/\JP Z):=λZ hz=>HEV.out Z (hnW.trans (hz.mono hnW.size))
 have HSM:Hid (∀Z:World,Below W.heap.size W Z->Calls Tryz.prog 28 #[.agg (X.cells pX).toArray,.agg (Y.cells pY).toArray] Z (Ret (.bool (Ji m X Y)) Z)):=λZ hz=>aO m X Y pX pY Z (hLX okX) (hLY okY) (hMX.keep (DK hz hz.size)) (hMY.keep (DK hz hz.size))
 have HTX:Hid (∀Z:World,Below W.heap.size W Z->Calls Tryz.prog 27 #[.agg (X.cells pX).toArray] Z (Ret (.tuple #[.string ⟨(Uh X).toArray⟩,.int .i64 (if Jf X then 0 else 1)]) Z)):=λZ hz=>TP X pX Z okX (hQX'.keep (DK hz hz.size)) (HVV.out Z hz).1
 have HTY:Hid (∀Z:World,Below W.heap.size W Z->Calls Tryz.prog 27 #[.agg (Y.cells pY).toArray] Z (Ret (.tuple #[.string ⟨(Uh Y).toArray⟩,.int .i64 (if Jf Y then 0 else 1)]) Z)):=λZ hz=>TP Y pY Z okY (hQY'.keep (DK hz hz.size)) (HVV.out Z hz).1
 have HKK:Hid (∀Z:World,Below W.heap.size W Z->Blk Z w.heap.size 34 (X.cells pX).toArray/\Blk Z (w.heap.size+1) 34 (Y.cells pY).toArray):=λZ hz=>⟨kX.below hz kX.lt,kY.below hz kY.lt⟩
 have HAW:Hid (∀Z:World,Below W.heap.size W Z->Calls Tryz.prog 29 #[] Z (Ret (.bool true) Z)):=λZ hz=>AHF Z (HVV.out Z hz).1 (HVV.out Z hz).2
 have HPX:Hid (Jf X=true->∀Z:World,Below W.heap.size W Z->Calls Tryz.prog 30 #[.string ⟨(apartT (Uh X)).toArray⟩] Z (MB (some X) Z)):=λhm Z hz=>by
  have:=apart_parse hm okX (HVV.out Z hz).1 (HVV.out Z hz).2;unfold Uh;rw[if_pos hm];exact this
 have HSS:Hid (Jf X=true->Jf Y=true->Ji m X Y=decide (Uh X=Uh Y)):=λh1 h2=>by
  rw[text_same hg1 hg2 hg3 h1 okX.num h2 okY.num];unfold Uh;rw[if_pos h1,if_pos h2]
 have HSP:Hid (∀(Z:World) (p:StP),Below W.heap.size W Z->StQ 1000 X p (Old Z.heap.size) Z->Calls Tryz.prog 28 #[.agg (X.cells p).toArray,.agg (X.cells pX).toArray] Z (Ret (.bool true) Z)):=λZ p hz hq=>by
  obtain⟨k,h1,h2⟩:=hq.m2 (hQX'.keep (DK hz hz.size));have:=aO k X X p pX Z (hLX okX) (hLX okX) h1 h2;rw[aK]at this;exact this
 have hlX:(Uh X).length<=200000:=by
  unfold Uh;split
  ·rename_i hm;exact VP X okX (may_parts hm).1
  ·exact Nat.zero_le _
 obtain⟨TX,hTX⟩:∃x,Uh X=x:=⟨_,rfl⟩;rw[hTX]at hlX;obtain⟨TY,hTY⟩:∃x,Uh Y=x:=⟨_,rfl⟩;obtain⟨MX,hMX0⟩:∃x,Jf X=x:=⟨_,rfl⟩;obtain⟨MY,hMY0⟩:∃x,Jf Y=x:=⟨_,rfl⟩;obtain⟨B,hB⟩:∃x,Ji m X Y=x:=⟨_,rfl⟩;obtain⟨EX,hEX⟩:∃x:Int,(if MX then 0 else 1)=x:=⟨_,rfl⟩;obtain⟨EY,hEY⟩:∃x:Int,(if MY then 0 else 1)=x:=⟨_,rfl⟩;have HEX:=Lib.hid hEX;have HEY:=Lib.hid hEY;rw[hTX,hMX0]at HTX HPX;rw[hTY,hMY0]at HTY;rw[hEX]at HTX;rw[hEY]at HTY;rw[hTX,hTY,hMX0,hMY0,hB]at HSS;rw[hB]at HSM;have HnW:=Lib.hid hnW;have q0:Below W.heap.size W W:=Below.refl _ _;have kX0:=HKK.out W q0;clear hW kk hQX hQY hb1 hb3 hcW hQX' hQY' HFA HFB HSH HB0 okX okY hn3 hHeld hMX hMY hg1 hg2 hg3 hTX hTY hMX0 hMY0 hEX hEY hB hLX hLY HEV HVV kX kY hc3 hnW hz0 hz1 hz3 hs0 hsW;go_wp2_with (refine Ap (by rfl) 34 _ rfl (w.heap.size) rfl 34 (X.cells pX).toArray (0,0) _ (kX0.1) Tryz.underlying34 rfl Au ?_);refine(HTX.out W q0).mono ?_;rintro en wa ⟨rfl,hba⟩;have kY0:=HKK.out wa hba;go_wp2_with (refine Ap (by rfl) 34 _ rfl ((w.heap.size+1)) rfl 34 (Y.cells pY).toArray (0,0) _ (kY0.2) Tryz.underlying34 rfl Au ?_);refine(HTY.out wa hba).mono ?_;rintro en wb ⟨rfl,hbb⟩;have hcb:Below W.heap.size W wb:=hba.trans (hbb.mono hba.size);clear HTX HTY kX0 kY0 hba hbb;cases MX with
 |false=>
  have he:EX=1:=HEX.out.symm;subst he;clear HPX HSS HSM HSP HKK HEX HEY;go_wp2_with fail;refine(HAW.out wb hcb).mono ?_;rintro en wz ⟨rfl,hbz⟩;go_wp2_with fail;go_ret;exact⟨rfl,HnW.out.trans ((hcb.trans (hbz.mono hcb.size)).mono HnW.out.size)⟩
 |true=>
  have he:EX=0:=HEX.out.symm;subst he;have HP:=Lib.hid (HPX.out rfl);have HS2:=Lib.hid (HSS.out rfl);clear HPX HSS HEX;cases MY with
  |false=>
   have he:EY=1:=HEY.out.symm;subst he;clear HSM HS2 HEY;go_upto_region 8 with fail
   obtain⟨wc,rfl⟩:∃z,z=wb:=⟨_,rfl⟩;have hcc:=hcb;have HPa:=Lib.hid (HP.out wc hcc);go_wp2_with fail;refine Calls.mono (callV HPa.out (by simp[apartT])) ?_;rintro en wd ⟨p,rfl,hq,-,hbd⟩;obtain⟨u,hu⟩:∃u,wd.alloc (.cells (X.cells p).toArray 34)=u:=⟨_,rfl⟩;have ku:Blk u wd.heap.size 34 (X.cells p).toArray:=by rw[<-hu];exact Blk.new _ _ _
   have hdu:Below wd.heap.size wd u:=by rw[<-hu];exact bl
   have hcd:Below W.heap.size W wd:=hcc.trans (hbd.mono hcc.size);have hcu:Below W.heap.size W u:=hcd.trans (hdu.mono hcd.size);have hqu:StQ 1000 X p (Old u.heap.size) u:=hq.keep λb hb=>⟨Nat.lt_of_lt_of_le hb.2 hdu.size,λo=>hdu.cell (p:=⟨b,o,none⟩) hb.2⟩
   have kx:=HKK.out u hcu;have HSu:=Lib.hid (HSP.out u p hcu hqu);have HU:=Lib.hid hu;clear hu hq hqu HPa HP HSP HKK;go_upto_region 9 with(refine wpList_store_row rfl 34 _ _ rfl wd.heap.size (X.cells p).toArray rfl rfl 34 _ (heap_alloc_last _ _) Au rfl (IY _ _) ?_)
   rw[show World.setRow _ _ _=u from(World.setRow_alloc_new _ _ _ _).trans HU.out];clear HU;go_wp2_with (first|refine Ap (by rfl) 34 _ rfl (wd.heap.size) rfl 34 (X.cells p).toArray (0,0) _ (ku) Tryz.underlying34 rfl Au ?_|refine Ap (by rfl) 34 _ rfl (w.heap.size) rfl 34 (X.cells pX).toArray (0,0) _ (kx.1) Tryz.underlying34 rfl Au ?_);refine HSu.out.mono ?_;rintro en ve ⟨rfl,hbe⟩;have hce:Below W.heap.size W ve:=hcu.trans (hbe.mono hcu.size);go_wp2_with fail;refine(HAW.out ve hce).mono ?_;rintro en wz ⟨rfl,hbz⟩;go_wp2_with fail;go_ret;exact⟨rfl,HnW.out.trans ((hce.trans (hbz.mono hce.size)).mono HnW.out.size)⟩
  |true=>
   have he:EY=0:=HEY.out.symm;subst he;have HB:=Lib.hid (HS2.out rfl);have kb:=HKK.out wb hcb;have HSb:=Lib.hid (HSM.out wb hcb);clear HS2 HSM HEY;by_cases hT:TX=TY
   ·have hB:B=true:=by rw[HB.out,decide_eq_true hT]
    subst hB hT;clear HB;go_wp2_with (first|refine Ap (by rfl) 34 _ rfl (w.heap.size) rfl 34 (X.cells pX).toArray (0,0) _ (kb.1) Tryz.underlying34 rfl Au ?_|refine Ap (by rfl) 34 _ rfl (w.heap.size+1) rfl 34 (Y.cells pY).toArray (0,0) _ (kb.2) Tryz.underlying34 rfl Au ?_);refine HSb.out.mono ?_;rintro en wc ⟨rfl,hbc⟩;have hcc:Below W.heap.size W wc:=hcb.trans (hbc.mono hcb.size);go_upto_region 8 with fail
    have HPa:=Lib.hid (HP.out wc hcc);go_wp2_with fail;refine Calls.mono (callV HPa.out (by simp[apartT])) ?_;rintro en wd ⟨p,rfl,hq,-,hbd⟩;obtain⟨u,hu⟩:∃u,wd.alloc (.cells (X.cells p).toArray 34)=u:=⟨_,rfl⟩;have ku:Blk u wd.heap.size 34 (X.cells p).toArray:=by rw[<-hu];exact Blk.new _ _ _
    have hdu:Below wd.heap.size wd u:=by rw[<-hu];exact bl
    have hcd:Below W.heap.size W wd:=hcc.trans (hbd.mono hcc.size);have hcu:Below W.heap.size W u:=hcd.trans (hdu.mono hcd.size);have hqu:StQ 1000 X p (Old u.heap.size) u:=hq.keep λb hb=>⟨Nat.lt_of_lt_of_le hb.2 hdu.size,λo=>hdu.cell (p:=⟨b,o,none⟩) hb.2⟩
    have kx:=HKK.out u hcu;have HSu:=Lib.hid (HSP.out u p hcu hqu);have HU:=Lib.hid hu;clear hu hq hqu HPa HP HSP HKK;go_upto_region 9 with(refine wpList_store_row rfl 34 _ _ rfl wd.heap.size (X.cells p).toArray rfl rfl 34 _ (heap_alloc_last _ _) Au rfl (IY _ _) ?_)
    rw[show World.setRow _ _ _=u from(World.setRow_alloc_new _ _ _ _).trans HU.out];clear HU;go_wp2_with (first|refine Ap (by rfl) 34 _ rfl (wd.heap.size) rfl 34 (X.cells p).toArray (0,0) _ (ku) Tryz.underlying34 rfl Au ?_|refine Ap (by rfl) 34 _ rfl (w.heap.size) rfl 34 (X.cells pX).toArray (0,0) _ (kx.1) Tryz.underlying34 rfl Au ?_);refine HSu.out.mono ?_;rintro en ve ⟨rfl,hbe⟩;have hce:Below W.heap.size W ve:=hcu.trans (hbe.mono hcu.size);go_wp2_with fail;refine(HAW.out ve hce).mono ?_;rintro en wz ⟨rfl,hbz⟩;go_wp2_with fail;go_ret;exact⟨rfl,HnW.out.trans ((hce.trans (hbz.mono hce.size)).mono HnW.out.size)⟩
   ·have hB:B=false:=by rw[HB.out,decide_eq_false hT]
    subst hB;have q2:(TX==TY)=false:=by simpa using hT
    clear HB;go_wp2_with (first|refine Ap (by rfl) 34 _ rfl (w.heap.size) rfl 34 (X.cells pX).toArray (0,0) _ (kb.1) Tryz.underlying34 rfl Au ?_|refine Ap (by rfl) 34 _ rfl (w.heap.size+1) rfl 34 (Y.cells pY).toArray (0,0) _ (kb.2) Tryz.underlying34 rfl Au ?_);refine HSb.out.mono ?_;rintro en wc ⟨rfl,hbc⟩;have hcc:Below W.heap.size W wc:=hcb.trans (hbc.mono hcb.size);go_upto_region 8 with fail
    have HPa:=Lib.hid (HP.out wc hcc);go_wp2_with fail;refine Calls.mono (callV HPa.out (by simp[apartT])) ?_;rintro en wd ⟨p,rfl,hq,-,hbd⟩;obtain⟨u,hu⟩:∃u,wd.alloc (.cells (X.cells p).toArray 34)=u:=⟨_,rfl⟩;have ku:Blk u wd.heap.size 34 (X.cells p).toArray:=by rw[<-hu];exact Blk.new _ _ _
    have hdu:Below wd.heap.size wd u:=by rw[<-hu];exact bl
    have hcd:Below W.heap.size W wd:=hcc.trans (hbd.mono hcc.size);have hcu:Below W.heap.size W u:=hcd.trans (hdu.mono hcd.size);have hqu:StQ 1000 X p (Old u.heap.size) u:=hq.keep λb hb=>⟨Nat.lt_of_lt_of_le hb.2 hdu.size,λo=>hdu.cell (p:=⟨b,o,none⟩) hb.2⟩
    have kx:=HKK.out u hcu;have HSu:=Lib.hid (HSP.out u p hcu hqu);have HU:=Lib.hid hu;clear hu hq hqu HPa HP HSP HKK;go_upto_region 9 with(refine wpList_store_row rfl 34 _ _ rfl wd.heap.size (X.cells p).toArray rfl rfl 34 _ (heap_alloc_last _ _) Au rfl (IY _ _) ?_)
    rw[show World.setRow _ _ _=u from(World.setRow_alloc_new _ _ _ _).trans HU.out];clear HU;go_wp2_with (first|refine Ap (by rfl) 34 _ rfl (wd.heap.size) rfl 34 (X.cells p).toArray (0,0) _ (ku) Tryz.underlying34 rfl Au ?_|refine Ap (by rfl) 34 _ rfl (w.heap.size) rfl 34 (X.cells pX).toArray (0,0) _ (kx.1) Tryz.underlying34 rfl Au ?_);refine HSu.out.mono ?_;rintro en ve ⟨rfl,hbe⟩;have hce:Below W.heap.size W ve:=hcu.trans (hbe.mono hcu.size);go_wp2_with fail;refine(HAW.out ve hce).mono ?_;rintro en wz ⟨rfl,hbz⟩;go_wp2_with fail;go_ret;exact⟨rfl,HnW.out.trans ((hce.trans (hbz.mono hce.size)).mono HnW.out.size)⟩
end Go.Proofs.YtchilcchogcibaaGreatDoor
