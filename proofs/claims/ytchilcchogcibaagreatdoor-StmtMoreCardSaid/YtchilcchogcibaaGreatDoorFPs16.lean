/- The statement parser's column, as a plain function. -/
import Derived.Test.YtchilcchogcibaaGreatDoorFPs15
set_option maxRecDepth 100000
set_option maxHeartbeats 8000000
namespace Go.Proofs.YtchilcchogcibaaGreatDoor
open Go.RowKit
attribute [local go_sem] ByteArray.extract_mk Ak AY
attribute [local go_sem ↓] Go.wp_at_zero Go.wp_at_succ
def tyA:List Value:=[.string ⟨([73,78,84]:List UInt8).toArray⟩,.string ⟨([84,69,88,84]:List UInt8).toArray⟩,.string ⟨([66,79,79,76]:List UInt8).toArray⟩]
theorem tix0(w:World):(Instr.index 175 (.agg tyA.toArray) (.int .i64 0)).run Tryz.prog w=.ok (.string ⟨#[73,78,84]⟩) w:=by kernel_rfl
theorem tix1(w:World):(Instr.index 175 (.agg tyA.toArray) (.int .i64 1)).run Tryz.prog w=.ok (.string ⟨#[84,69,88,84]⟩) w:=by kernel_rfl
theorem tix2(w:World):(Instr.index 175 (.agg tyA.toArray) (.int .i64 2)).run Tryz.prog w=.ok (.string ⟨#[66,79,79,76]⟩) w:=by kernel_rfl
attribute [local go_sem ↓] tix0 tix1 tix2
theorem bC:(Tryz.prog.info? 175).map (·.size)=some 3:=by kernel_rfl
def Ip(l:List Tok)(a:Nat):Option (Int×Nat):=if hit l a [73,78,84]then some (1,a+1)else if hit l a [84,69,88,84]then some (2,a+1)else if hit l a [66,79,79,76]then some (3,a+1)else none
def LG(l:List Tok)(n:List UInt8)(t:Int)(a:Nat):Option (Col×Nat):=if hit l a [78,79,84]then(if hit l (a+1) [78,85,76,76]then(if hit l (a+2) [44]then some (⟨n,t,true⟩,a+3)else none)else none)else if hit l a [44]then some (⟨n,t,false⟩,a+1)else none
def OE(l:List Tok)(a:Nat):Option (Col×Nat):=(AO l a).bind λn=>(Ip l (a+1)).bind λt=>LG l n t.1 t.2
def OG(x:Col):Prop:=x.n.length<=1000
theorem Xx:(Tryz.prog.info? 96).map (λi=>(i.zero,i.size,i.bytes))=some (some (.agg #[.string ⟨#[]⟩,.int .i64 0,.bool false]),3,32):=by kernel_rfl
theorem Qv(g:Nat)(A:Option Addr)(c:Nat)(l:List Tok)(a:Nat)(cs0 cs:Array Value)(xs:List Col)(ws w:World)(hp:PsE g c l w)(hT:∀Z,But g w Z->OY Z)(ha:a<=l.length)(hP:PsS g A c l a cs w)(hg:g<ws.heap.size)(hbs:But g ws w)(hn:xs.length<=990)(h6:6<cs0.size)(hK:KL 6 96 3 (·.flatMap Col.cells) OG cs0 ws.heap.size xs cs w):
  Calls Tryz.prog 163 #[.pointer (some ⟨g,0,none⟩)] w (FP ((OE l a).map λr=>(xs++[r.1],r.2)) g A c l (KL 6 96 3 (·.flatMap Col.cells) OG cs0 ws.heap.size) ws):=by
 have hl:=hp.n;obtain⟨A',c',b0,rfl,hown,hfit,-⟩:=hK;obtain⟨sv,hsv⟩:∃v,Value.slice A' xs.length c'=v:=⟨_,rfl⟩;rw[hsv]at hown hP;have HC0:Hid (∀b,(Aa (cs0.setIfInBounds 6 sv) b)[6]? = some sv):=λb=>by rw[JE _ _ _ (by decide),Array.getElem?_setIfInBounds_self_of_lt h6]
 have HCS:Hid (∀b u,(Aa (cs0.setIfInBounds 6 sv) b).setIfInBounds 6 u=Aa (cs0.setIfInBounds 6 u) b):=λb u=>JW _ _ _ _ _ (by decide)
 have hgw0:g<w.heap.size:=hP.blk.lt;obtain⟨vb,hvb⟩:∃v,w.heap.size=v:=⟨_,rfl⟩;obtain⟨w0,hw0⟩:∃x,w.alloc (.cells #[.string ⟨#[]⟩,.int .i64 0,.bool false] 96)=x:=⟨_,rfl⟩;have k0:Blk w0 vb 96 #[.string ⟨#[]⟩,.int .i64 0,.bool false]:=by rw[<-hw0,<-hvb];exact Blk.new _ _ _
 have hb0:Below w.heap.size w w0:=by rw[<-hw0];exact bl
 have hP0:=hP.below hb0;have hgv:g<vb:=by omega
 have HNC:=Lib.hid (Gf g A c l a _ vb 0 [] w0 (by omega) hP0 (Nat.le_of_lt hgv) (.inl (Nat.ne_of_gt hgv)) (k0.cell 0) (k0.frozen 0) hp.s);have HNL:Hid (∀s,AO l a=some s->s.length<=1000):=λs h=>by
  obtain⟨t,ht,rfl⟩:=Bj h;exact hp.s t ht
 obtain⟨R,hR⟩:∃R,OE l a=R:=⟨_,rfl⟩;rw[hR];unfold OE at hR;obtain⟨ON,hON⟩:∃o,AO l a=o:=⟨_,rfl⟩;rw[hON]at HNC HNL hR;have HR:=Lib.hid hR;have HVN:Hid (∀k,sv.ownBlock=some k->k≠vb):=λk hk=>by have:=(hown.lt k hk).2;omega
 have HFV:=Lib.hid hfit;have HBS:=Lib.hid hbs;have HGW:=Lib.hid hg;have HW0:=Lib.hid hw0;have HK0:=Lib.hid k0;have HO:=Lib.hid hown;have HP0:=Lib.hid hP0;have HBW0:=Lib.hid (But.of_below (p:=g) hb0);have HVB:=Lib.hid hvb;have HTY:=Lib.hid hT;have HPEW:=Lib.hid hp;obtain⟨n,hN⟩:∃n,xs.length=n:=⟨_,rfl⟩;rw[hN]at hn;have HN:=Lib.hid hN;clear hON hR hw0 k0 hP0 hown hN hsv hfit hP hbs hp hb0 hg h6 hgw0 hT;go_in
 go_upto_region 2 with fail
 rw[show w.alloc _=w0 from HW0.out]
 try rw[hvb]
 clear HW0;go_wp2_with fail;refine HNC.out.mono ?_;cases ON with
 |none=>
  rintro en w2 ⟨rfl,hb2⟩;have hR:R=none:=HR.out.symm;subst hR;have HB2:=Lib.hid (HBS.out.trans (HBW0.out.trans (But.of_below hb2)));clear hb2 HNC;go_wp2_with fail;go_ret;exact⟨rfl,HB2.out⟩
 |some nm=>
  have HR:Hid (((Ip l (a+1)).bind λt=>LG l nm t.1 t.2)=R):=HR.out;have hnm:=HNL.out _ rfl;rintro en w2 ⟨rfl,w1,hb1,hw2⟩;have hP1:=HP0.out.below hb1;have hP2:PsS g A c l (a+1) (Aa (cs0.setIfInBounds 6 sv) (a+1)) w2:=by
   have h1:=((show PsS g A c l a _ _ from⟨hP1.blk.far (p:=⟨vb,0,none⟩) (Nat.ne_of_lt hgv) (.string ⟨nm.toArray⟩),hP1.c0,hP1.c1,hP1.tk.below (bwS bwR (Nat.le_of_lt hgv))⟩).below (Below.drew (Below.refl _ _))).move (a+1);rw[AQ]at h1;rw[hw2];exact h1
  have kv2:Blk w2 vb 96 #[.string ⟨nm.toArray⟩,.int .i64 0,.bool false]:=by
   rw[hw2];exact(((HK0.out.below hb1 HK0.out.lt).set_ 0 (.string ⟨nm.toArray⟩)).drew).far (p:=⟨g,1,none⟩) (Nat.ne_of_gt hgv) _
  have hwv:w.heap.size<=vb:=Nat.le_of_eq HVB.out;have hbw2:But g w w2:=by
   rw[hw2];exact(((HBW0.out.trans (But.of_below (p:=g) hb1)).own (g:=vb) hwv 0 (.string ⟨nm.toArray⟩)).drew).set 1 _
  have hTY:OY w2:=HTY.out w2 hbw2;have HRT:Hid (World.rangeAt w2 0 0 tyA):=λj v hv=>by
   obtain⟨h0,h1,h2⟩:=hTY;rw[Nat.zero_add];rcases j with _|_|_|j
   ·exact h0.trans hv
   ·exact h1.trans hv
   ·exact h2.trans hv
   ·simp[tyA]at hv
  clear hw2 hb1 hP1 HNC hTY;go_upto_block 0 with(refine Bo (by rfl) 175 _ rfl 0 0 rfl tyA _ HRT.out Tryz.underlying175 rfl bC ?_)
  have HT1:=Lib.hid (Ac g A c l (a+1) _ [73,78,84] w2 (by omega) hP2);obtain⟨B1,hB1⟩:∃B,hit l (a+1) [73,78,84]=B:=⟨_,rfl⟩;obtain⟨B2,hB2⟩:∃B,hit l (a+1) [84,69,88,84]=B:=⟨_,rfl⟩;obtain⟨B3,hB3⟩:∃B,hit l (a+1) [66,79,79,76]=B:=⟨_,rfl⟩;have HR0:=HR;rw[hB1]at HT1;have HB2:=Lib.hid hB2;have HB3:=Lib.hid hB3;have hty:Ip l (a+1)=(if B1 then some ((1:Int),a+2)else if B2 then some (2,a+2)else if B3 then some (3,a+2)else none):=by
   unfold Ip;rw[hB1,HB2.out,HB3.out]
  have HTA:=Lib.hid hty;have HKV:=Lib.hid kv2;have HBW2:=Lib.hid hbw2;have hR0:=HR0.out;clear hB1 kv2 hbw2 hP2 hty hB2 hB3;go_cut []from 11 to 21 (λwx=>∃(T:Int) (b:Nat),(Ip l (a+1)=some (T,b)/\1<=T/\T<=3/\b=a+2\/Ip l (a+1)=none/\T=0/\b=a+1)/\PsS g A c l b (Aa (cs0.setIfInBounds 6 sv) b) wx/\Blk wx vb 96 #[.string ⟨nm.toArray⟩,.int .i64 T,.bool false]/\But g w wx)
  case first=>
   clear hR0;go_wp2_with fail;refine wp_loop_rounds 4 ?_;rw[rounds_succ];go_wp2_with fail;refine HT1.out.mono ?_;rintro en w3 ⟨rfl,hP3,hb3⟩;have kv3:=hb3.blk HKV.out (Nat.ne_of_gt hgv);have hbw3:=HBW2.out.trans hb3;clear hb3 HT1;cases B1 with
   |true=>
    have hP3':PsS g A c l (a+2) (Aa (cs0.setIfInBounds 6 sv) (a+2)) w3:=by
     have h1:=hP3;rw[AQ]at h1;exact h1
    have x1:w3.cell? ⟨vb,1,none⟩=some (.int .i64 0):=kv3.cell 1;have f1:=kv3.frozen 1;have HP4:Hid (PsS g A c l (a+2) (Aa (cs0.setIfInBounds 6 sv) (a+2)) (w3.setCell ⟨vb,1,none⟩ (.int .i64 1))):=⟨hP3'.blk.far (p:=⟨vb,1,none⟩) (Nat.ne_of_lt hgv) _,hP3'.c0,hP3'.c1,hP3'.tk.below (bwS bwR (Nat.le_of_lt hgv))⟩;have HK4:Hid (Blk (w3.setCell ⟨vb,1,none⟩ (.int .i64 1)) vb 96 #[.string ⟨nm.toArray⟩,.int .i64 1,.bool false]):=kv3.set_ 1 _;have HB4:Hid (But g w (w3.setCell ⟨vb,1,none⟩ (.int .i64 1))):=hbw3.own (g:=vb) hwv 1 _;clear hP3 hP3' kv3 hbw3;go_wp2_with fail;go_meet;exact⟨1,a+2,.inl ⟨by rw[HTA.out];first|rfl|simp,by decide,by decide,rfl⟩,HP4.out,HK4.out,HB4.out⟩
   |false=>
    have hP3':PsS g A c l (a+1) (Aa (cs0.setIfInBounds 6 sv) (a+1)) w3:=by
     have h1:=hP3;rw[AQ]at h1;exact h1
    have HT2:=Lib.hid (Ac g A c l (a+1) _ [84,69,88,84] w3 (by omega) hP3');rw[HB2.out]at HT2;have HKV:=Lib.hid kv3;have HBW2:=Lib.hid hbw3;clear hP3 hP3' kv3 hbw3;go_wp2_with fail;rw[rounds_succ];go_wp2_with fail;refine HT2.out.mono ?_;rintro en w3 ⟨rfl,hP3,hb3⟩;have kv3:=hb3.blk HKV.out (Nat.ne_of_gt hgv);have hbw3:=HBW2.out.trans hb3;clear hb3 HT2;cases B2 with
    |true=>
     have hP3':PsS g A c l (a+2) (Aa (cs0.setIfInBounds 6 sv) (a+2)) w3:=by
      have h1:=hP3;rw[AQ]at h1;exact h1
     have x1:w3.cell? ⟨vb,1,none⟩=some (.int .i64 0):=kv3.cell 1;have f1:=kv3.frozen 1;have HP4:Hid (PsS g A c l (a+2) (Aa (cs0.setIfInBounds 6 sv) (a+2)) (w3.setCell ⟨vb,1,none⟩ (.int .i64 2))):=⟨hP3'.blk.far (p:=⟨vb,1,none⟩) (Nat.ne_of_lt hgv) _,hP3'.c0,hP3'.c1,hP3'.tk.below (bwS bwR (Nat.le_of_lt hgv))⟩;have HK4:Hid (Blk (w3.setCell ⟨vb,1,none⟩ (.int .i64 2)) vb 96 #[.string ⟨nm.toArray⟩,.int .i64 2,.bool false]):=kv3.set_ 1 _;have HB4:Hid (But g w (w3.setCell ⟨vb,1,none⟩ (.int .i64 2))):=hbw3.own (g:=vb) hwv 1 _;clear hP3 hP3' kv3 hbw3;go_wp2_with fail;go_meet;exact⟨2,a+2,.inl ⟨by rw[HTA.out];first|rfl|simp,by decide,by decide,rfl⟩,HP4.out,HK4.out,HB4.out⟩
    |false=>
     have hP3':PsS g A c l (a+1) (Aa (cs0.setIfInBounds 6 sv) (a+1)) w3:=by
      have h1:=hP3;rw[AQ]at h1;exact h1
     have HT2:=Lib.hid (Ac g A c l (a+1) _ [66,79,79,76] w3 (by omega) hP3');rw[HB3.out]at HT2;have HKV:=Lib.hid kv3;have HBW2:=Lib.hid hbw3;clear hP3 hP3' kv3 hbw3;go_wp2_with fail;rw[rounds_succ];go_wp2_with fail;refine HT2.out.mono ?_;rintro en w3 ⟨rfl,hP3,hb3⟩;have kv3:=hb3.blk HKV.out (Nat.ne_of_gt hgv);have hbw3:=HBW2.out.trans hb3;clear hb3 HT2;cases B3 with
     |true=>
      have hP3':PsS g A c l (a+2) (Aa (cs0.setIfInBounds 6 sv) (a+2)) w3:=by
       have h1:=hP3;rw[AQ]at h1;exact h1
      have x1:w3.cell? ⟨vb,1,none⟩=some (.int .i64 0):=kv3.cell 1;have f1:=kv3.frozen 1;have HP4:Hid (PsS g A c l (a+2) (Aa (cs0.setIfInBounds 6 sv) (a+2)) (w3.setCell ⟨vb,1,none⟩ (.int .i64 3))):=⟨hP3'.blk.far (p:=⟨vb,1,none⟩) (Nat.ne_of_lt hgv) _,hP3'.c0,hP3'.c1,hP3'.tk.below (bwS bwR (Nat.le_of_lt hgv))⟩;have HK4:Hid (Blk (w3.setCell ⟨vb,1,none⟩ (.int .i64 3)) vb 96 #[.string ⟨nm.toArray⟩,.int .i64 3,.bool false]):=kv3.set_ 1 _;have HB4:Hid (But g w (w3.setCell ⟨vb,1,none⟩ (.int .i64 3))):=hbw3.own (g:=vb) hwv 1 _;clear hP3 hP3' kv3 hbw3;go_wp2_with fail;go_meet;exact⟨3,a+2,.inl ⟨by rw[HTA.out];first|rfl|simp,by decide,by decide,rfl⟩,HP4.out,HK4.out,HB4.out⟩
     |false=>
      have hP3':PsS g A c l (a+1) (Aa (cs0.setIfInBounds 6 sv) (a+1)) w3:=by
       have h1:=hP3;rw[AQ]at h1;exact h1
      have HP3:=Lib.hid hP3';have HK3:=Lib.hid kv3;have HB3':=Lib.hid hbw3;clear hP3 hP3' kv3 hbw3;go_wp2_with fail;rw[rounds_succ];go_wp2_with fail;go_meet;exact⟨0,a+1,.inr ⟨by rw[HTA.out];first|rfl|simp,rfl,rfl⟩,HP3.out,HK3.out,HB3'.out⟩
  case rest=>
   obtain⟨T,b,hTb,hP4,kv4,hbw4⟩:=hcut;obtain⟨w4,rfl⟩:∃x,x=wc:=⟨_,rfl⟩;rcases hTb with⟨ht,hT1,hT3,rfl⟩|⟨ht,rfl,rfl⟩
   ·rw[ht]at hR0;have HR:=Lib.hid hR0;have n1:¬T<1:=by omega
    have HR:Hid (LG l nm T (a+2)=R):=HR.out;have x4:w4.cell? ⟨vb,1,none⟩=some (.int .i64 T):=kv4.cell 1;have HTN:=Lib.hid (Ac g A c l (a+2) _ [78,79,84] w4 (by omega) hP4);rw[AQ]at HTN;unfold LG at HR;obtain⟨BN,hBN⟩:∃B,hit l (a+2) [78,79,84]=B:=⟨_,rfl⟩;rw[hBN]at HTN HR;have HK4:=Lib.hid kv4;have HB4:=Lib.hid hbw4;clear hP4 kv4 hbw4 hBN;go_wp2_with fail;refine HTN.out.mono ?_;clear x4;rintro en w5 ⟨rfl,hP5,hb5⟩;have kv5:=hb5.blk HK4.out (Nat.ne_of_gt hgv);have hbw5:=HB4.out.trans hb5;clear hb5 HTN;cases BN with
    |false=>
     have HR:Hid ((if hit l (a+2) [44]then some ((⟨nm,T,false⟩:Col),a+2+1)else none)=R):=HR.out;have hP2:PsS g A c l (a+2) (Aa (cs0.setIfInBounds 6 sv) (a+2)) w5:=hP5;have hcO:=HC0.out (a+2);have hbut2:=HBS.out.trans hbw5;have hown2:w5.ownsRow ws.heap.size 96 3 sv n (xs.flatMap Col.cells):=by rw[<-HN.out];exact DD HO.out hbw5 HGW.out
     clear hP5 hbw5;obtain⟨w2,hw2⟩:∃x,w5=x:=⟨_,rfl⟩;rw[hw2]at hP2 hbut2 hown2 kv5 ⊢;have kv2:=kv5;clear kv5 hw2 w5;have xO:w2.cell? ⟨g,6,none⟩=some sv:=(hP2.blk.cell 6).trans hcO;have fO:=hP2.blk.frozen 6;have hgw2:g<w2.heap.size:=hP2.blk.lt;have hws2:ws.heap.size<=w2.heap.size:=hbut2.size;have HS2:Hid (∀Z:World,Below w2.heap.size w2 Z->(Z.cell? ⟨vb,0,none⟩=some (.string ⟨nm.toArray⟩)/\Z.cell? ⟨vb,1,none⟩=some (.int .i64 T)/\Z.cell? ⟨vb,2,none⟩=some (.bool false))/\Z.cell? ⟨g,6,none⟩=some sv):=λZ hz=>⟨⟨(kv2.below hz kv2.lt).cell 0,(kv2.below hz kv2.lt).cell 1,(kv2.below hz kv2.lt).cell 2⟩,(hz.cell (p:=⟨g,6,none⟩) hgw2).trans xO⟩
     have HCO:=Lib.hid hcO;have HP2:=Lib.hid hP2;have HOW:=Lib.hid hown2;have HOL:=Lib.hid hown2.lt;have HKV:=Lib.hid kv2;have HB2:=Lib.hid hbut2;have hgws:g<ws.heap.size:=HGW.out;obtain⟨i0,hi0,zi0,zi1,zi2⟩:=info_parts Xx;clear hP2 hown2 kv2 hbut2 hcO;go_upto_region 16 with fail
     clear xO;refine Bl [12] (λZ=>(Z.cell? ⟨vb,0,none⟩=some (.string ⟨nm.toArray⟩)/\Z.cell? ⟨vb,1,none⟩=some (.int .i64 T)/\Z.cell? ⟨vb,2,none⟩=some (.bool false))/\Z.cell? ⟨g,6,none⟩=some sv) (by kernel_rfl) ?_ (λhHeld=>?_)
     ·try dsimp only
      first|exact HS5.out|exact HS2.out _ (by exact bl)
     refine tI 0 12 [12] ?_;refine ap ?_;refine tI 1 12 [12] ?_;refine ap ?_;refine tI 2 12 [12] ?_;refine ap ?_;refine tI 3 12 [12] ?_;refine ap ?_;refine tI 4 12 [12] ?_;refine ap ?_;refine tI 5 12 [12] ?_;refine ap ?_;refine tI 6 12 [12] ?_;refine ap ?_;refine AV (rs:=[7]) (by kernel_rfl) (by simp) ?_;refine AC.consT rfl (λK hK=>?_) AC.nil;go_simp
     skip
     go_wp2_with fail;refine hK.out _ _ ?_ (λhHeld=>?_)
     ·try dsimp only
      first|exact HS5.out|exact HS2.out _ (by exact bl)
     clear hK K;refine ap ?_;refine AV (rs:=[8]) (by kernel_rfl) (by simp) ?_;refine AC.consT rfl (λK hK=>?_) AC.nil;refine step_append_lies _ rfl (.tmp 38) (.tmp 40) 24 rfl ws.heap.size 96 i0 _ 3 32 Tryz.underlying24 hi0 zi0 zi1 zi2 rfl (by decide) sv n (xs.flatMap Col.cells) (by simp[Act.eval]) (HOW.out.drew.alloc _) ⟨w2.heap.size,0,none⟩ 1 1 ([.string ⟨nm.toArray⟩,.int .i64 T,.bool false]:List Value) (by simp[Act.eval]) rfl (World.news_of_block (cs:=(([.string ⟨nm.toArray⟩,.int .i64 T,.bool false]:List Value)).toArray) (t:=96) (fr:=(0,0)) (heap_alloc_new w2.drew _)) (by simp[Value.oneCell']) (by omega) (by unfold maxLen;omega) (by omega) (by simp;omega) _ rfl ?_;intro g5 cap w5 hown5 hg5 hor5 hl5;replace hg5:World.grownBy (w2.drew.alloc (.cells (([.string ⟨nm.toArray⟩,.int .i64 T,.bool false]:List Value)).toArray 96)) w5 sv.ownBlock:=hg5;have hkv5:=(HKV.out.drew.alloc (.cells (([.string ⟨nm.toArray⟩,.int .i64 T,.bool false]:List Value)).toArray 96)).grown hg5 (λe=>HVN.out _ e.symm rfl);have hP5:=(HP2.out.below (show Below w2.heap.size w2 (w2.drew.alloc (.cells (([.string ⟨nm.toArray⟩,.int .i64 T,.bool false]:List Value)).toArray 96)) by exact bl)).grown hg5 (λk hk=>(by have:=(HOL.out k hk).1;omega));have hbut5:But g ws w5:=FL (HB2.out.drew.alloc (.cells (([.string ⟨nm.toArray⟩,.int .i64 T,.bool false]:List Value)).toArray 96)) hg5 (λk hk=>(HOL.out k hk).1);have HS5:Hid (((λZ:World=>Z.cell? ⟨vb,0,none⟩=some (.string ⟨nm.toArray⟩)/\Z.cell? ⟨vb,1,none⟩=some (.int .i64 T)/\Z.cell? ⟨vb,2,none⟩=some (.bool false)) w5)/\w5.cell? ⟨g,6,none⟩=some sv):=⟨⟨hkv5.cell 0,hkv5.cell 1,hkv5.cell 2⟩,(hP5.blk.cell 6).trans HCO.out⟩;have fO:=hP5.blk.frozen 6;have HP5:=Lib.hid hP5;have HB5:=Lib.hid hbut5;have HO5:=Lib.hid hown5;have HG5:=Lib.hid hg5;have HR5:=Lib.hid hor5;clear hP5 hbut5 hown5 hkv5 hg5 hor5;refine hK.out _ _ ?_ (λhHeld=>?_)
     ·try dsimp only
      first|exact HS5.out|exact HS2.out _ (by exact bl)
     clear hK K;refine ap ?_;refine tI 9 12 [10,11,12] ?_;refine ap ?_;refine tI 10 12 [11,12] ?_;refine ap ?_;refine tI 11 12 [12] ?_;refine ap ?_;refine AV (rs:=[12]) (by kernel_rfl) (by simp) ?_;refine AC.consD rfl (by decide) (λK hK=>?_) AC.nil
     skip
     go_simp;go_wp2_with fail;refine hK.out _ _ ?_;clear hK K;refine ap ?_;refine DI (by kernel_rfl) ?_ _;obtain⟨wE,hwE⟩:∃x,World.setCell w5 ⟨g,6,none⟩ (.slice (some ⟨g5,0,none⟩) (n+1) cap)=x:=⟨_,rfl⟩;have hPE:PsS g A c l (a+2) (Aa (cs0.setIfInBounds 6 (.slice (some ⟨g5,0,none⟩) (n+1) cap)) (a+2)) wE:=by
      have h1:=HP5.out.set 6 (by decide) (.slice (some ⟨g5,0,none⟩) (n+1) cap);rw[HCS.out,hwE]at h1;exact h1
     have hBE:But g ws wE:=by rw[<-hwE];exact HB5.out.set 6 _
     have hKE:KL 6 96 3 (·.flatMap Col.cells) OG cs0 ws.heap.size (xs++[(⟨nm,T,false⟩:Col)]) (Aa (cs0.setIfInBounds 6 (.slice (some ⟨g5,0,none⟩) (n+1) cap)) (a+2)) wE:=by
      have hN:=HN.out;subst hN;refine⟨some ⟨g5,0,none⟩,cap,a+2,by simp, ?_,λy hy=>?_,hBE.size⟩
      ·rw[<-hwE];simpa[Col.cells]using I7 HO5.out (p:=⟨g,6,none⟩) (λk hk _ e=>by simp at e;omega) (.slice (some ⟨g5,0,none⟩) (xs.length+1) cap)
      ·rcases List.mem_append.1 hy with h|h
       ·exact HFV.out y h
       ·rw[List.mem_singleton]at h;subst h;exact hnm
     have HTC:=Lib.hid (Ac g A c l (a+2) _ [44] wE (by omega) hPE);obtain⟨BC,hBC⟩:∃B,hit l (a+2) [44]=B:=⟨_,rfl⟩;have hR:(if hit l (a+2) [44]then some ((⟨nm,T,false⟩:Col),(a+2)+1)else none)=R:=HR.out;rw[hBC]at HTC hR;have HRE:=Lib.hid hR;have HWE:=Lib.hid hwE;have HBE:=Lib.hid hBE;have HKE:=Lib.hid hKE;clear hR hBC hwE hBE hKE hPE HP5 HO5 HB5 HG5 HR5 HS5 hHeld;go_wp2_with fail;rw[show World.setCell w5 _ _=wE from HWE.out];refine HTC.out.mono ?_;rintro en wF ⟨rfl,hPF,hbF⟩;have HPF:=Lib.hid hPF;have HBF:=Lib.hid hbF;clear hPF hbF HTC HWE;cases BC with
     |false=>
      have hR:R=none:=HRE.out.symm;subst hR;go_wp2_with fail;go_ret;exact⟨rfl,HBE.out.trans HBF.out⟩
     |true=>
      have hR:R=some _:=HRE.out.symm;subst hR;go_wp2_with fail;go_ret;exact⟨rfl,_,HPF.out,KL.stay hgws _ _ _ _ _ HKE.out HBF.out,HBE.out.trans HBF.out⟩
    |true=>
     have HTU:=Lib.hid (Ac g A c l (a+3) _ [78,85,76,76] w5 (by omega) hP5);rw[AQ]at HTU;have HR:Hid ((if hit l (a+3) [78,85,76,76]then(if hit l (a+4) [44]then some ((⟨nm,T,true⟩:Col),a+4+1)else none)else none)=R):=HR.out;obtain⟨BU,hBU⟩:∃B,hit l (a+3) [78,85,76,76]=B:=⟨_,rfl⟩;rw[hBU]at HTU HR;have HK5:=Lib.hid kv5;have HB5':=Lib.hid hbw5;clear hP5 kv5 hbw5 hBU;go_wp2_with fail;refine HTU.out.mono ?_;rintro en w6 ⟨rfl,hP6,hb6⟩;have kv6:=hb6.blk HK5.out (Nat.ne_of_gt hgv);have hbw6:=HB5'.out.trans hb6;have x2:w6.cell? ⟨vb,2,none⟩=some (.bool false):=kv6.cell 2;have f2:=kv6.frozen 2;obtain⟨w7,hw7⟩:∃x,w6.setCell ⟨vb,2,none⟩ (.bool BU)=x:=⟨_,rfl⟩;have kv7:Blk w7 vb 96 #[.string ⟨nm.toArray⟩,.int .i64 T,.bool BU]:=by rw[<-hw7];exact kv6.set_ 2 _
     have hP7:PsS g A c l (a+3+BU.toNat) (Aa (cs0.setIfInBounds 6 sv) (a+3+BU.toNat)) w7:=by
      rw[<-hw7];exact⟨hP6.blk.far (p:=⟨vb,2,none⟩) (Nat.ne_of_lt hgv) _,hP6.c0,hP6.c1,hP6.tk.below (bwS bwR (Nat.le_of_lt hgv))⟩
     have hbw7:But g w w7:=by rw[<-hw7];exact hbw6.own (g:=vb) hwv 2 _
     have x7:w7.cell? ⟨vb,2,none⟩=some (.bool BU):=kv7.cell 2;have HW7:=Lib.hid hw7;clear hb6 HTU hP6 kv6 hbw6 hw7;go_upto_region 14 with fail
     rw[show World.setCell w6 _ _=w7 from HW7.out];clear HW7 x2 f2;cases BU with
     |false=>
      have hR:R=none:=HR.out.symm;subst hR;have HB7:=Lib.hid (HBS.out.trans hbw7);clear hP7 kv7 hbw7;go_wp2_with fail;go_ret;exact⟨rfl,HB7.out⟩
     |true=>
      have HR:Hid ((if hit l (a+4) [44]then some ((⟨nm,T,true⟩:Col),a+4+1)else none)=R):=HR.out;have hP2:PsS g A c l (a+4) (Aa (cs0.setIfInBounds 6 sv) (a+4)) w7:=hP7;have hcO:=HC0.out (a+4);have hbut2:=HBS.out.trans hbw7;have hown2:w7.ownsRow ws.heap.size 96 3 sv n (xs.flatMap Col.cells):=by rw[<-HN.out];exact DD HO.out hbw7 HGW.out
      clear hP7 hbw7;obtain⟨w2,hw2⟩:∃x,w7=x:=⟨_,rfl⟩;rw[hw2]at hP2 hbut2 hown2 kv7 x7 ⊢;have kv2:=kv7;clear kv7 hw2 w7;have xO:w2.cell? ⟨g,6,none⟩=some sv:=(hP2.blk.cell 6).trans hcO;have fO:=hP2.blk.frozen 6;have hgw2:g<w2.heap.size:=hP2.blk.lt;have hws2:ws.heap.size<=w2.heap.size:=hbut2.size;have HS2:Hid (∀Z:World,Below w2.heap.size w2 Z->(Z.cell? ⟨vb,0,none⟩=some (.string ⟨nm.toArray⟩)/\Z.cell? ⟨vb,1,none⟩=some (.int .i64 T)/\Z.cell? ⟨vb,2,none⟩=some (.bool true))/\Z.cell? ⟨g,6,none⟩=some sv):=λZ hz=>⟨⟨(kv2.below hz kv2.lt).cell 0,(kv2.below hz kv2.lt).cell 1,(kv2.below hz kv2.lt).cell 2⟩,(hz.cell (p:=⟨g,6,none⟩) hgw2).trans xO⟩
      have HCO:=Lib.hid hcO;have HP2:=Lib.hid hP2;have HOW:=Lib.hid hown2;have HOL:=Lib.hid hown2.lt;have HKV:=Lib.hid kv2;have HB2:=Lib.hid hbut2;have hgws:g<ws.heap.size:=HGW.out;obtain⟨i0,hi0,zi0,zi1,zi2⟩:=info_parts Xx;clear hP2 hown2 kv2 hbut2 hcO;go_upto_region 16 with fail
      clear xO;refine Bl [12] (λZ=>(Z.cell? ⟨vb,0,none⟩=some (.string ⟨nm.toArray⟩)/\Z.cell? ⟨vb,1,none⟩=some (.int .i64 T)/\Z.cell? ⟨vb,2,none⟩=some (.bool true))/\Z.cell? ⟨g,6,none⟩=some sv) (by kernel_rfl) ?_ (λhHeld=>?_)
      ·try dsimp only
       first|exact HS5.out|exact HS2.out _ (by exact bl)
      refine tI 0 12 [12] ?_;refine ap ?_;refine tI 1 12 [12] ?_;refine ap ?_;refine tI 2 12 [12] ?_;refine ap ?_;refine tI 3 12 [12] ?_;refine ap ?_;refine tI 4 12 [12] ?_;refine ap ?_;refine tI 5 12 [12] ?_;refine ap ?_;refine tI 6 12 [12] ?_;refine ap ?_;refine AV (rs:=[7]) (by kernel_rfl) (by simp) ?_;refine AC.consT rfl (λK hK=>?_) AC.nil;go_simp
      skip
      go_wp2_with fail;refine hK.out _ _ ?_ (λhHeld=>?_)
      ·try dsimp only
       first|exact HS5.out|exact HS2.out _ (by exact bl)
      clear hK K;refine ap ?_;refine AV (rs:=[8]) (by kernel_rfl) (by simp) ?_;refine AC.consT rfl (λK hK=>?_) AC.nil;refine step_append_lies _ rfl (.tmp 38) (.tmp 40) 24 rfl ws.heap.size 96 i0 _ 3 32 Tryz.underlying24 hi0 zi0 zi1 zi2 rfl (by decide) sv n (xs.flatMap Col.cells) (by simp[Act.eval]) (HOW.out.drew.alloc _) ⟨w2.heap.size,0,none⟩ 1 1 ([.string ⟨nm.toArray⟩,.int .i64 T,.bool true]:List Value) (by simp[Act.eval]) rfl (World.news_of_block (cs:=(([.string ⟨nm.toArray⟩,.int .i64 T,.bool true]:List Value)).toArray) (t:=96) (fr:=(0,0)) (heap_alloc_new w2.drew _)) (by simp[Value.oneCell']) (by omega) (by unfold maxLen;omega) (by omega) (by simp;omega) _ rfl ?_;intro g5 cap w5 hown5 hg5 hor5 hl5;replace hg5:World.grownBy (w2.drew.alloc (.cells (([.string ⟨nm.toArray⟩,.int .i64 T,.bool true]:List Value)).toArray 96)) w5 sv.ownBlock:=hg5;have hkv5:=(HKV.out.drew.alloc (.cells (([.string ⟨nm.toArray⟩,.int .i64 T,.bool true]:List Value)).toArray 96)).grown hg5 (λe=>HVN.out _ e.symm rfl);have hP5:=(HP2.out.below (show Below w2.heap.size w2 (w2.drew.alloc (.cells (([.string ⟨nm.toArray⟩,.int .i64 T,.bool true]:List Value)).toArray 96)) by exact bl)).grown hg5 (λk hk=>(by have:=(HOL.out k hk).1;omega));have hbut5:But g ws w5:=FL (HB2.out.drew.alloc (.cells (([.string ⟨nm.toArray⟩,.int .i64 T,.bool true]:List Value)).toArray 96)) hg5 (λk hk=>(HOL.out k hk).1);have HS5:Hid (((λZ:World=>Z.cell? ⟨vb,0,none⟩=some (.string ⟨nm.toArray⟩)/\Z.cell? ⟨vb,1,none⟩=some (.int .i64 T)/\Z.cell? ⟨vb,2,none⟩=some (.bool true)) w5)/\w5.cell? ⟨g,6,none⟩=some sv):=⟨⟨hkv5.cell 0,hkv5.cell 1,hkv5.cell 2⟩,(hP5.blk.cell 6).trans HCO.out⟩;have fO:=hP5.blk.frozen 6;have HP5:=Lib.hid hP5;have HB5:=Lib.hid hbut5;have HO5:=Lib.hid hown5;have HG5:=Lib.hid hg5;have HR5:=Lib.hid hor5;clear hP5 hbut5 hown5 hkv5 hg5 hor5;refine hK.out _ _ ?_ (λhHeld=>?_)
      ·try dsimp only
       first|exact HS5.out|exact HS2.out _ (by exact bl)
      clear hK K;refine ap ?_;refine tI 9 12 [10,11,12] ?_;refine ap ?_;refine tI 10 12 [11,12] ?_;refine ap ?_;refine tI 11 12 [12] ?_;refine ap ?_;refine AV (rs:=[12]) (by kernel_rfl) (by simp) ?_;refine AC.consD rfl (by decide) (λK hK=>?_) AC.nil
      skip
      go_simp;go_wp2_with fail;refine hK.out _ _ ?_;clear hK K;refine ap ?_;refine DI (by kernel_rfl) ?_ _;obtain⟨wE,hwE⟩:∃x,World.setCell w5 ⟨g,6,none⟩ (.slice (some ⟨g5,0,none⟩) (n+1) cap)=x:=⟨_,rfl⟩;have hPE:PsS g A c l (a+4) (Aa (cs0.setIfInBounds 6 (.slice (some ⟨g5,0,none⟩) (n+1) cap)) (a+4)) wE:=by
       have h1:=HP5.out.set 6 (by decide) (.slice (some ⟨g5,0,none⟩) (n+1) cap);rw[HCS.out,hwE]at h1;exact h1
      have hBE:But g ws wE:=by rw[<-hwE];exact HB5.out.set 6 _
      have hKE:KL 6 96 3 (·.flatMap Col.cells) OG cs0 ws.heap.size (xs++[(⟨nm,T,true⟩:Col)]) (Aa (cs0.setIfInBounds 6 (.slice (some ⟨g5,0,none⟩) (n+1) cap)) (a+4)) wE:=by
       have hN:=HN.out;subst hN;refine⟨some ⟨g5,0,none⟩,cap,a+4,by simp, ?_,λy hy=>?_,hBE.size⟩
       ·rw[<-hwE];simpa[Col.cells]using I7 HO5.out (p:=⟨g,6,none⟩) (λk hk _ e=>by simp at e;omega) (.slice (some ⟨g5,0,none⟩) (xs.length+1) cap)
       ·rcases List.mem_append.1 hy with h|h
        ·exact HFV.out y h
        ·rw[List.mem_singleton]at h;subst h;exact hnm
      have HTC:=Lib.hid (Ac g A c l (a+4) _ [44] wE (by omega) hPE);obtain⟨BC,hBC⟩:∃B,hit l (a+4) [44]=B:=⟨_,rfl⟩;have hR:(if hit l (a+4) [44]then some ((⟨nm,T,true⟩:Col),(a+4)+1)else none)=R:=HR.out;rw[hBC]at HTC hR;have HRE:=Lib.hid hR;have HWE:=Lib.hid hwE;have HBE:=Lib.hid hBE;have HKE:=Lib.hid hKE;clear hR hBC hwE hBE hKE hPE HP5 HO5 HB5 HG5 HR5 HS5 hHeld;go_wp2_with fail;rw[show World.setCell w5 _ _=wE from HWE.out];refine HTC.out.mono ?_;rintro en wF ⟨rfl,hPF,hbF⟩;have HPF:=Lib.hid hPF;have HBF:=Lib.hid hbF;clear hPF hbF HTC HWE;cases BC with
      |false=>
       have hR:R=none:=HRE.out.symm;subst hR;go_wp2_with fail;go_ret;exact⟨rfl,HBE.out.trans HBF.out⟩
      |true=>
       have hR:R=some _:=HRE.out.symm;subst hR;go_wp2_with fail;go_ret;exact⟨rfl,_,HPF.out,KL.stay hgws _ _ _ _ _ HKE.out HBF.out,HBE.out.trans HBF.out⟩
   ·rw[ht]at hR0;have hR:R=none:=hR0.symm;subst hR;have HBN:=Lib.hid (HBS.out.trans hbw4);have x1:w4.cell? ⟨vb,1,none⟩=some (.int .i64 0):=kv4.cell 1;clear hP4 kv4 hbw4 hR0;go_wp2_with fail;go_ret;exact⟨rfl,HBN.out⟩
end Go.Proofs.YtchilcchogcibaaGreatDoor
