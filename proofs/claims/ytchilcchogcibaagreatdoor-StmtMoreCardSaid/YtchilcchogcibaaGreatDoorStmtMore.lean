/- caddislaw05.StmtMore answers true: a statement's text with a word, a sign, or a number behind is none; without its last octet it is none, or another one. -/
import Derived.Test.YtchilcchogcibaaGreatDoorPsB
import Derived.Test.YtchilcchogcibaaGreatDoorPsC
set_option maxRecDepth 100000
set_option maxHeartbeats 8000000
namespace Go.Proofs.YtchilcchogcibaaGreatDoor
open Go.RowKit
attribute [local go_sem] ByteArray.extract_mk Ak AY
attribute [local go_sem ↓] Go.wp_at_zero Go.wp_at_succ
theorem dO{s:St}(h:s.Ok)(hm:Jf s=true):s.lens:=by
 have m:1000<=maxLen:=by unfold maxLen;decide
 obtain⟨h1,h2,h3⟩:=bg (BF hm).1;exact⟨h.nN,h.nC,h.nU,h.nR,h.nW,h.nS,Nat.le_trans (TC h1) m,Nat.le_trans (TC h2) m,λx hx=>Nat.le_trans (dG (h3 x hx)) m⟩
theorem VX{s:St}(h:Jf s=true)(hok:s.Ok){p:List UInt8}{c:UInt8}(e:Dk s=p++[c]):∃o:Option St,(o≠some s/\∀x,o=some x->Jf x=true)/\∀w,FY w->JP w->Calls Tryz.prog 30 #[.string ⟨p.toArray⟩] w (MB o w):=by
 have hl:p.length<=900000:=by
  have:=VP s hok (BF h).1;rw[e]at this;simp at this;omega
 cases hc:Ii p with
 |none=>exact⟨none,⟨by simp,λx hx=>by cases hx⟩,λw hV _=>Zl p w hl hc hV⟩
 |some l=>
  obtain⟨f,h0,h1,-⟩:=U4 h hok.num;have g0:=(V8 h hok.num e hc).trans h0;obtain⟨-,k2,k3⟩:=NF hc;exact⟨stmtP l f,⟨cO h hok.num e hc g0,λx hx=>(Wx k3 g0 hx).2.2⟩,λw hV hE=>aQ p l f w hl hc k2 (λt ht=>Nat.le_trans (Xm (k3 t ht)) (by decide)) g0 h1 hV hE⟩
theorem VR{s:St}(h:Jf s=true)(hok:s.Ok)(k:Nat)(w:World)(hV:FY w)(hE:JP w):Calls Tryz.prog 30 #[.string ⟨(Dk s++IV k).toArray⟩] w (MB none w):=by
 have hm:(IV k).length<=4:=by
  unfold IV;split<;>decide
 have hl:(Dk s++IV k).length<=900000:=by
  have:=VP s hok (BF h).1;rw[List.length_append];omega
 cases hc:Ii (Dk s++IV k)with
 |none=>exact Zl _ w hl hc hV
 |some l=>
  obtain⟨-,k2,k3⟩:=NF hc;have he:=bu h hok.num k hc;obtain⟨f,h0,h1,h2⟩:=Y6 h hok.num k;subst he;have:=aQ _ _ f w hl hc k2 (λt ht=>Nat.le_trans (Xm (k3 t ht)) (by decide)) h0 h1 hV hE;rw[h2]at this;exact this
theorem stmtMore_walk(sa:St)(pa:StP)(n:Nat)(w:World)(ha:sa.big)(hn:n<=255)(hQa:StQ maxLen sa pa (Old w.heap.size) w)(hV:FY w)(hEr:JP w):
  Calls Tryz.prog 10 #[.agg (sa.cells pa).toArray,.int .u8 (n:Int)] w (Ret (.bool true) w):=by
 have hLX:=dC (s:=sa);obtain⟨X,hX⟩:∃X,sa.few=X:=⟨_,rfl⟩;rw[hX]at hLX;obtain⟨w0,hw0⟩:∃w0,w.alloc (.cells (sa.cells pa).toArray 34)=w0:=⟨_,rfl⟩;have ka0:Blk w0 w.heap.size 34 (sa.cells pa).toArray:=by rw[<-hw0];exact Blk.new _ _ _
 have hb0:Below w.heap.size w w0:=by rw[<-hw0];exact bl
 have hs0:w0.heap.size=w.heap.size+1:=by rw[<-hw0];simp
 have hz0:=hb0.size;have HW:=Lib.hid hw0;have hFA:=few5_any sa pa w0 ha (hQa.keep (DK hb0 hz0));rw[hX]at hFA;have HFA:=Lib.hid hFA;have HEV:Hid (∀Z:World,Below w.heap.size w Z->FY Z/\JP Z):=λZ hz=>⟨hV.below hz,hEr.below hz rfl⟩
 clear hw0 hX ha hQa hV hEr hFA;go_in
 go_upto_region 1 with fail
 rw[show World.alloc w _=w0 from HW.out];clear HW;go_wp2_with (refine Ap (by rfl) 34 _ rfl (w.heap.size) rfl 34 (sa.cells pa).toArray (0,0) _ (ka0) Tryz.underlying34 rfl Au ?_);refine HFA.out.mono ?_;rintro en w1 ⟨pX,rfl,okX,hQX,hb1⟩;have hz1:w0.heap.size<=w1.heap.size:=hb1.size;have kb1:Blk w1 w.heap.size 34 (sa.cells pa).toArray:=ka0.below hb1 ka0.lt;clear HFA ka0;go_upto_region 2 with(refine wpList_store_row rfl 34 _ _ rfl w.heap.size (X.cells pX).toArray rfl rfl 34 _ kb1 Au rfl (IY _ _) ?_)
 obtain⟨W,hW⟩:∃W,w1.setRow w.heap.size (X.cells pX).toArray=W:=⟨_,rfl⟩;rw[hW];have kX:Blk W w.heap.size 34 (X.cells pX).toArray:=by rw[<-hW];exact kb1.row _
 have hsW:W.heap.size=w1.heap.size:=by rw[<-hW,Bg]
 have hcW:∀b o,w.heap.size+1<=b->W.cell? ⟨b,o,none⟩=w1.cell? ⟨b,o,none⟩:=λb o hb=>by
  rw[<-hW];exact World.cell?_of_block (a:=⟨b,o,none⟩) (BI _ _ b _ (by omega))
 have hn1:Below w.heap.size w w1:=hb0.trans (hb1.mono hz0);have hnW:Below w.heap.size w W:=by rw[<-hW];exact Df hn1 (Nat.le_refl _) _
 have hQX':StQ 1000 X pX (Old W.heap.size) W:=hQX.keep λb hb=>by
  have hb':w0.heap.size<=b/\b<w1.heap.size:=hb;exact⟨show b<W.heap.size by omega,λo=>hcW b o (by omega)⟩
 have HVV:Hid (∀Z:World,Below W.heap.size W Z->FY Z/\JP Z):=λZ hz=>HEV.out Z (hnW.trans (hz.mono hnW.size))
 have HTX:Hid (Calls Tryz.prog 27 #[.agg (X.cells pX).toArray] W (Ret (.tuple #[.string ⟨(Uh X).toArray⟩,.int .i64 (if Jf X then 0 else 1)]) W)):=TP X pX W okX hQX' (HVV.out W (Below.refl _ _)).1;have HKK:Hid (∀Z:World,Below W.heap.size W Z->Blk Z w.heap.size 34 (X.cells pX).toArray):=λZ hz=>kX.below hz kX.lt
 have HAW:Hid (∀Z:World,Below W.heap.size W Z->Calls Tryz.prog 29 #[] Z (Ret (.bool true) Z)):=λZ hz=>AHF Z (HVV.out Z hz).1 (HVV.out Z hz).2
 have HnW:=Lib.hid hnW;have q0:Below W.heap.size W W:=Below.refl _ _;cases hMX:Jf X with
 |false=>
  have hT:=WU hMX;rw[hT,hMX]at HTX;clear hW hQX hb1 hcW hQX' okX hn1 hLX HEV HVV hnW hz0 hz1 hs0 hsW hT hMX hn;go_wp2_with (refine Ap (by rfl) 34 _ rfl (w.heap.size) rfl 34 (X.cells pX).toArray (0,0) _ (kX) Tryz.underlying34 rfl Au ?_);refine HTX.out.mono ?_;rintro en wb ⟨rfl,hcb⟩;go_wp2_with fail;refine(HAW.out wb hcb).mono ?_;rintro en wz ⟨rfl,hbz⟩;go_wp2_with fail;go_ret;exact⟨rfl,HnW.out.trans ((hcb.trans (hbz.mono hcb.size)).mono HnW.out.size)⟩
 |true=>
  have hT:Uh X=Dk X:=by unfold Uh;rw[if_pos hMX]
  obtain⟨p,c,hpc,-⟩:=TT (BF hMX).1;obtain⟨o,⟨ho,hom⟩,hLP⟩:=VX hMX okX hpc;have HMP:Hid (∀(k:Nat) (Z:World),Below W.heap.size W Z->Calls Tryz.prog 30 #[.string ⟨(p++[c]++IV k).toArray⟩] Z (MB none Z)):=λk Z hz=>by
   rw[<-hpc];exact VR hMX okX k Z (HVV.out Z hz).1 (HVV.out Z hz).2
  have HLP:Hid (∀Z:World,Below W.heap.size W Z->Calls Tryz.prog 30 #[.string ⟨p.toArray⟩] Z (MB o Z)):=λZ hz=>hLP Z (HVV.out Z hz).1 (HVV.out Z hz).2
  have HSP:Hid (∀(Z:World) (x:St) (q:StP),o=some x->Below W.heap.size W Z->x.Ok->StQ 1000 x q (Old Z.heap.size) Z->Calls Tryz.prog 28 #[.agg (x.cells q).toArray,.agg (X.cells pX).toArray] Z (Ret (.bool false) Z)):=λZ x q he hz hok hq=>by
   obtain⟨k,h1,h2⟩:=hq.m2 (hQX'.keep (DK hz hz.size));have:=aO k x X q pX Z (dO hok (hom x he)) (hLX okX) h1 h2;obtain⟨g1,g2,g3⟩:=h1.hgt;rw[show Ji k x X=false by
    cases hs:Ji k x X
    ·rfl
    ·exact absurd (he.trans (congrArg some (U3 g1 g2 g3 hs))) ho]at this
   exact this
  rw[hT,hpc,hMX]at HTX;have hpl:p.length<=200000:=by
   have:=VP X okX (BF hMX).1;rw[hpc]at this;simp at this;omega
  obtain⟨T,hT2⟩:∃t,p++[c]=t:=⟨_,rfl⟩;have hTl:T.length=p.length+1:=by rw[<-hT2];simp
  have HTP:Hid (T.take p.length=p):=by show _=_;rw[<-hT2];simp
  have hne:T≠[]:=by rintro rfl;simp at hTl
  have q2:(T==[])=false:=by simpa using hne
  rw[hT2]at HTX HMP;clear hW hQX hb1 hcW hQX' okX hn1 hLX HEV HVV hnW hz0 hz1 hs0 hsW hT hMX hLP hpc hom ho hT2;go_wp2_with (refine Ap (by rfl) 34 _ rfl (w.heap.size) rfl 34 (X.cells pX).toArray (0,0) _ (kX) Tryz.underlying34 rfl Au ?_);refine HTX.out.mono ?_;rintro en wb ⟨rfl,hcb⟩;clear HTX;go_upto_region 6 with fail
  obtain⟨wc,hwc⟩:∃z,wb.alloc (.cells #[.string ⟨#[32,120]⟩,.string ⟨#[32,41]⟩,.string ⟨#[32,53]⟩,.string ⟨#[32,44]⟩,.string ⟨#[32,39,120,39]⟩] 9)=z:=⟨_,rfl⟩;rw[hwc];have kc:Blk wc wb.heap.size 9 #[.string ⟨#[32,120]⟩,.string ⟨#[32,41]⟩,.string ⟨#[32,53]⟩,.string ⟨#[32,44]⟩,.string ⟨#[32,39,120,39]⟩]:=by rw[<-hwc];exact Blk.new _ _ _
  have hbc:Below wb.heap.size wb wc:=by rw[<-hwc];exact bl
  have hcc:Below W.heap.size W wc:=hcb.trans (hbc.mono hcb.size);obtain⟨r,hr,hr5⟩:∃r:Nat,Int.tmod (n:Int) 5=(r:Int)/\r<5:=⟨n % 5,by rw[Int.tmod_eq_emod_of_nonneg (by omega)];omega,Nat.mod_lt _ (by decide)⟩;have hcell:wc.cell? ⟨wb.heap.size,r,none⟩=some (.string ⟨(IV r).toArray⟩):=by
   rcases(show r=0\/r=1\/r=2\/r=3\/r=4 by omega)with rfl|rfl|rfl|rfl|rfl
   ·exact kc.cell 0
   ·exact kc.cell 1
   ·exact kc.cell 2
   ·exact kc.cell 3
   ·exact kc.cell 4
  have hMl:(IV r).length<=4:=by
   unfold IV;split<;>decide
  have HPm:=Lib.hid (HMP.out r wc hcc);obtain⟨M,hM⟩:∃m,IV r=m:=⟨_,rfl⟩;rw[hM]at hcell hMl HPm;clear hwc hM HMP kc;go_wp2_with fail;refine HPm.out.mono ?_;rintro en wd ⟨rfl,hbd⟩;have hcd:Below W.heap.size W wd:=hcc.trans (hbd.mono hcc.size);clear HPm hcell hr;obtain⟨u,hzu⟩:∃u,wd.alloc (.cells ((stZ [] []).cells Cj).toArray 34)=u:=⟨_,rfl⟩;have ku:Blk u wd.heap.size 34 ((stZ [] []).cells Cj).toArray:=by rw[<-hzu];exact Blk.new _ _ _
  have hdu:Below wd.heap.size wd u:=by rw[<-hzu];exact bl
  have hcu:Below W.heap.size W u:=hcd.trans (hdu.mono hcd.size);have HUu:=Lib.hid hzu;clear hzu;go_upto_region 7 with(refine wpList_store_row rfl 34 _ _ rfl wd.heap.size ((stZ [] []).cells Cj).toArray rfl rfl 34 _ (heap_alloc_last _ _) Au rfl (IY _ _) ?_)
  rw[show World.setRow _ _ _=u from(World.setRow_alloc_new _ _ _ _).trans HUu.out];clear HUu;go_wp2_with fail;rw[HTP.out];refine(HLP.out u hcu).mono ?_;clear HLP HTP q2 hne hTl;cases o with
  |none=>
   rintro en ve ⟨rfl,hbe⟩;have hce:Below W.heap.size W ve:=hcu.trans (hbe.mono hcu.size);clear HSP HKK;obtain⟨v,hzv⟩:∃u,ve.alloc (.cells ((stZ [] []).cells Cj).toArray 34)=u:=⟨_,rfl⟩;have kv:Blk v ve.heap.size 34 ((stZ [] []).cells Cj).toArray:=by rw[<-hzv];exact Blk.new _ _ _
   have hdv:Below ve.heap.size ve v:=by rw[<-hzv];exact bl
   have hcv:Below W.heap.size W v:=hce.trans (hdv.mono hce.size);have HUv:=Lib.hid hzv;clear hzv;go_upto_region 8 with(refine wpList_store_row rfl 34 _ _ rfl ve.heap.size ((stZ [] []).cells Cj).toArray rfl rfl 34 _ (heap_alloc_last _ _) Au rfl (IY _ _) ?_)
   rw[show World.setRow _ _ _=v from(World.setRow_alloc_new _ _ _ _).trans HUv.out];clear HUv;go_wp2_with fail;refine(HAW.out v hcv).mono ?_;rintro en wz ⟨rfl,hbz⟩;go_wp2_with fail;go_ret;exact⟨rfl,HnW.out.trans ((hcv.trans (hbz.mono hcv.size)).mono HnW.out.size)⟩
  |some x=>
   rintro en ve ⟨q,rfl,hq,hok,hbe⟩;have hce:Below W.heap.size W ve:=hcu.trans (hbe.mono hcu.size);obtain⟨v,hzv⟩:∃u,ve.alloc (.cells ((x).cells q).toArray 34)=u:=⟨_,rfl⟩;have kv:Blk v ve.heap.size 34 ((x).cells q).toArray:=by rw[<-hzv];exact Blk.new _ _ _
   have hdv:Below ve.heap.size ve v:=by rw[<-hzv];exact bl
   have hcv:Below W.heap.size W v:=hce.trans (hdv.mono hce.size);have HUv:=Lib.hid hzv;clear hzv;go_upto_region 8 with(refine wpList_store_row rfl 34 _ _ rfl ve.heap.size ((x).cells q).toArray rfl rfl 34 _ (heap_alloc_last _ _) Au rfl (IY _ _) ?_)
   rw[show World.setRow _ _ _=v from(World.setRow_alloc_new _ _ _ _).trans HUv.out];clear HUv;have hqv:StQ 1000 x q (Old v.heap.size) v:=hq.keep λb hb=>⟨Nat.lt_of_lt_of_le hb.2 hdv.size,λo=>hdv.cell (p:=⟨b,o,none⟩) hb.2⟩
   have kx:=HKK.out v hcv;have HSv:=Lib.hid (HSP.out v x q rfl hcv hok hqv);clear HSP HKK hq hqv hok;go_wp2_with (first|refine Ap (by rfl) 34 _ rfl ve.heap.size rfl 34 (x.cells q).toArray (0,0) _ kv Tryz.underlying34 rfl Au ?_|refine Ap (by rfl) 34 _ rfl w.heap.size rfl 34 (X.cells pX).toArray (0,0) _ kx Tryz.underlying34 rfl Au ?_);refine HSv.out.mono ?_;rintro en vs ⟨rfl,hbs⟩;have hcs:Below W.heap.size W vs:=hcv.trans (hbs.mono hcv.size);go_wp2_with fail;refine(HAW.out vs hcs).mono ?_;rintro en wz ⟨rfl,hbz⟩;go_wp2_with fail;go_ret;exact⟨rfl,HnW.out.trans ((hcs.trans (hbz.mono hcs.size)).mono HnW.out.size)⟩
end Go.Proofs.YtchilcchogcibaaGreatDoor
