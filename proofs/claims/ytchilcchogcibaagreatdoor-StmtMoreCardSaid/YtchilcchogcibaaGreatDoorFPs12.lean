/- The statement parser's lists in its own cells, its named, and what stands behind MIGRATE COPY in ( and ), as plain functions. -/
import Derived.Test.YtchilcchogcibaaGreatDoorFPs11
set_option maxRecDepth 100000
set_option maxHeartbeats 8000000
namespace Go.Proofs.YtchilcchogcibaaGreatDoor
open Go.RowKit
attribute [local go_sem] ByteArray.extract_mk Ak AY
attribute [local go_sem ↓] Go.wp_at_zero Go.wp_at_succ
def KL{α:Type}(o:Nat)(e:TypeId)(sz:Nat)(cells:List α->List Value)(ok:α->Prop)(cs0:Array Value)(base:Nat)(xs:List α)(cs:Array Value)(w:World):Prop:=
 ∃A' c' b,cs=Aa (cs0.setIfInBounds o (.slice A' xs.length c')) b/\w.ownsRow base e sz (.slice A' xs.length c') xs.length (cells xs)/\(∀x∈xs,ok x)/\base<=w.heap.size
theorem KL.stay{α:Type}{o:Nat}{e:TypeId}{sz:Nat}{cells:List α->List Value}{ok:α->Prop}{cs0:Array Value}{base g:Nat}(hg:g<base):Gs g (KL o e sz cells ok cs0 base):=λxs cs W W' b ⟨A',c',b0,h1,h2,h3,h4⟩ hb=>
 ⟨A',c',b,by rw[h1,AQ],DD h2 hb hg,h3,Nat.le_trans h4 hb.size⟩
theorem KL.from{α:Type}{o:Nat}{e:TypeId}{sz:Nat}{cells:List α->List Value}{ok:α->Prop}{cs0:Array Value}{B B':Nat}(hB:B'<=B)(xs:List α)(cs:Array Value)(w:World)(h:KL o e sz cells ok cs0 B xs cs w):KL o e sz cells ok cs0 B' xs cs w:=by
 obtain⟨A',c',b,h1,h2,h3,h4⟩:=h;exact⟨A',c',b,h1,⟨h2.1,h2.2.imp id λ⟨k,cap,cur,hv,hk,r⟩=>⟨k,cap,cur,hv,Nat.le_trans hB hk,r⟩⟩,h3,Nat.le_trans hB h4⟩
theorem JE(cs:Array Value)(b o:Nat)(ho:o≠1):(Aa cs b)[o]? = cs[o]? :=by unfold Aa;rw[Array.getElem?_setIfInBounds_ne (by omega)]
theorem JW(cs:Array Value)(o b:Nat)(u v:Value)(ho:o≠1):(Aa (cs.setIfInBounds o u) b).setIfInBounds o v=Aa (cs.setIfInBounds o v) b:=by
 rw[Dp _ _ _ _ ho];congr 1;apply Array.ext_getElem?;intro i;simp only[Array.getElem?_setIfInBounds,Array.size_setIfInBounds];by_cases h2:o=i<;>simp[h2]
def J9(s:List UInt8):Prop:=s.length<=1000
theorem Xw:(Tryz.prog.info? 9).map (λi=>(i.zero,i.size,i.bytes))=some (some (.string ⟨#[]⟩),1,16):=by kernel_rfl
theorem Jr(g:Nat)(A:Option Addr)(c:Nat)(l:List Tok)(a:Nat)(cs0 cs:Array Value)(xs:List (List UInt8))(ws w:World)(hp:PsE g c l w)(ha:a<=l.length)(hP:PsS g A c l a cs w)(hg:g<ws.heap.size)(hbs:But g ws w)(hn:xs.length<=990)(h5:5<cs0.size)(hK:KL 5 9 1 (·.map IR) J9 cs0 ws.heap.size xs cs w):
  Calls Tryz.prog 179 #[.pointer (some ⟨g,0,none⟩)] w (FP ((AO l a).map λs=>(xs++[s],a+1)) g A c l (KL 5 9 1 (·.map IR) J9 cs0 ws.heap.size) ws):=by
 have hl:=hp.n;obtain⟨A',c',b0,rfl,hown,hfit,-⟩:=hK;obtain⟨sv,hsv⟩:∃v,Value.slice A' xs.length c'=v:=⟨_,rfl⟩;rw[hsv]at hown hP;have HC0:Hid (∀b,(Aa (cs0.setIfInBounds 5 sv) b)[5]? = some sv):=λb=>by rw[JE _ _ _ (by decide),Array.getElem?_setIfInBounds_self_of_lt h5]
 obtain⟨w0,hw0⟩:∃w0,w.alloc (.cells #[.string ⟨#[]⟩] 9)=w0:=⟨_,rfl⟩;have k0:Blk w0 w.heap.size 9 #[.string ⟨#[]⟩]:=by rw[<-hw0];exact Blk.new _ _ _
 have hb0:Below w.heap.size w w0:=by rw[<-hw0];exact bl
 have hgw0:g<w.heap.size:=hP.blk.lt;have hP0:=hP.below hb0;have HNC:=Lib.hid (Gf g A c l a _ w.heap.size 0 [] w0 (by omega) hP0 (Nat.le_of_lt hgw0) (.inl (by omega)) (k0.cell 0) (k0.frozen 0) hp.s);have hown0:=CJ hown hb0;have HVN:Hid (∀k,sv.ownBlock=some k->k≠w.heap.size):=λk hk=>Nat.ne_of_lt (hown.lt k hk).2
 have HFV:=Lib.hid hfit;have HBS:=Lib.hid (hbs.trans (But.of_below (p:=g) hb0));have HGW:=Lib.hid hg;have HSW:=Lib.hid hbs.size;have HW:=Lib.hid hw0;have HK0:=Lib.hid k0;have HP0:=Lib.hid hP0;have HO0:=Lib.hid hown0;have HG0:=Lib.hid hgw0;have HCS:Hid (∀b u,(Aa (cs0.setIfInBounds 5 sv) b).setIfInBounds 5 u=Aa (cs0.setIfInBounds 5 u) b):=λb u=>JW _ _ _ _ _ (by decide)
 obtain⟨n,hN⟩:∃n,xs.length=n:=⟨_,rfl⟩;rw[hN]at HO0 hn;have HN:=Lib.hid hN;have HNL:Hid (∀s,AO l a=some s->s.length<=1000):=λs h=>by
  obtain⟨t,ht,rfl⟩:=Bj h;exact hp.s t ht
 obtain⟨o,ho⟩:∃o,AO l a=o:=⟨_,rfl⟩;rw[ho]at HNC HNL ⊢;clear ho hw0 k0 hP0 hown0 hN hsv hown hfit hP hbs hp hb0 hg hgw0 h5;go_in
 go_upto_region 2 with fail
 rw[show w.alloc _=w0 from HW.out];clear HW;go_wp2_with fail;refine HNC.out.mono ?_;intro en w2 hr;obtain⟨s,a2,B,rfl,hP2,kv2,hown2,hbut2,hres⟩:∃(s:List UInt8) (a2:Nat) (B:Bool),en=.returned (.bool B)/\PsS g A c l a2 (Aa (cs0.setIfInBounds 5 sv) a2) w2/\Blk w2 w.heap.size 9 #[.string ⟨s.toArray⟩]/\w2.ownsRow ws.heap.size 9 1 sv n (xs.map IR)/\But g ws w2/\(o=none/\B=false\/o=some s/\B=true/\a2=a+1):=by
  cases o with
  |none=>
   obtain⟨rfl,hb2⟩:=hr;have hP:=HP0.out.below hb2;have h1:=hP.self;rw[AQ]at h1;exact⟨[],a,false,rfl,by rw[h1];exact hP,HK0.out.below hb2 HK0.out.lt,CJ HO0.out hb2,HBS.out.trans (But.of_below hb2),.inl ⟨rfl,rfl⟩⟩
  |some s=>
   obtain⟨rfl,w1,hb1,hw2⟩:=hr;have hlk:=HK0.out.lt;have hg0:=HG0.out;have hP1:=HP0.out.below hb1;refine⟨s,a+1,true,rfl, ?_, ?_, ?_, ?_,.inr ⟨rfl,rfl,rfl⟩⟩
   ·rw[hw2,<-AQ _ b0];exact((show PsS g A c l a _ _ from⟨hP1.blk.far (p:=⟨w.heap.size,0,none⟩) (by show g≠w.heap.size;omega) (.string ⟨s.toArray⟩),hP1.c0,hP1.c1,hP1.tk.below (bwS bwR (Nat.le_of_lt hg0))⟩).below (Below.drew (Below.refl _ _))).move (a+1)
   ·rw[hw2];exact(((HK0.out.below hb1 hlk).set_ 0 (.string ⟨s.toArray⟩)).drew).far (p:=⟨g,1,none⟩) (by show w.heap.size≠g;omega) _
   ·rw[hw2];exact I7 (World.ownsRow.drew ((CJ HO0.out hb1).kept (Nk w1 ⟨w.heap.size,0,none⟩ (.string ⟨s.toArray⟩)) (.inr λe=>HVN.out _ e rfl))) (p:=⟨g,1,none⟩) (λk hk _ e=>by have:=HGW.out;simp at e;omega) _
   ·rw[hw2];exact(((HBS.out.trans (But.of_below (p:=g) hb1)).own (g:=w.heap.size) HSW.out 0 (.string ⟨s.toArray⟩)).drew).set 1 _
 have hcO:=HC0.out a2;have HRES:=Lib.hid hres;clear hr hres HNC;have xO:w2.cell? ⟨g,5,none⟩=some sv:=(hP2.blk.cell 5).trans hcO;have fO:=hP2.blk.frozen 5;have hgw2:g<w2.heap.size:=hP2.blk.lt;have hws2:ws.heap.size<=w2.heap.size:=hbut2.size;have HS2:Hid (∀Z:World,Below w2.heap.size w2 Z->(Z.cell? ⟨w.heap.size,0,none⟩=some (.string ⟨s.toArray⟩))/\Z.cell? ⟨g,5,none⟩=some sv):=λZ hz=>⟨(kv2.below hz kv2.lt).cell 0,(hz.cell (p:=⟨g,5,none⟩) hgw2).trans xO⟩
 have HCO:=Lib.hid hcO;have HP2:=Lib.hid hP2;have HOW:=Lib.hid hown2;have HOL:=Lib.hid hown2.lt;have HKV:=Lib.hid kv2;have HB2:=Lib.hid hbut2;have hgws:g<ws.heap.size:=HGW.out;obtain⟨i0,hi0,zi0,zi1,zi2⟩:=info_parts Xw;clear hP2 hown2 kv2 hbut2 hcO;go_upto_region 3 with fail
 clear xO;refine Bl [12] (λZ=>(Z.cell? ⟨w.heap.size,0,none⟩=some (.string ⟨s.toArray⟩))/\Z.cell? ⟨g,5,none⟩=some sv) (by kernel_rfl) ?_ (λhHeld=>?_)
 ·try dsimp only
  first|exact HS5.out|exact HS2.out _ (by exact bl)
 refine tI 0 12 [12] ?_;refine ap ?_;refine tI 1 12 [12] ?_;refine ap ?_;refine tI 2 12 [12] ?_;refine ap ?_;refine tI 3 12 [12] ?_;refine ap ?_;refine tI 4 12 [12] ?_;refine ap ?_;refine tI 5 12 [12] ?_;refine ap ?_;refine tI 6 12 [12] ?_;refine ap ?_;refine AV (rs:=[7]) (by kernel_rfl) (by simp) ?_;refine AC.consT rfl (λK hK=>?_) AC.nil;go_simp
 skip
 go_wp2_with fail;refine hK.out _ _ ?_ (λhHeld=>?_)
 ·try dsimp only
  first|exact HS5.out|exact HS2.out _ (by exact bl)
 clear hK K;refine ap ?_;refine AV (rs:=[8]) (by kernel_rfl) (by simp) ?_;refine AC.consT rfl (λK hK=>?_) AC.nil;refine step_append_lies _ rfl (.tmp 12) (.tmp 14) 23 rfl ws.heap.size 9 i0 _ 1 16 Tryz.underlying23 hi0 zi0 zi1 zi2 rfl (by decide) sv n (xs.map IR) (by simp[Act.eval]) (HOW.out.drew.alloc _) ⟨w2.heap.size,0,none⟩ 1 1 ([.string ⟨s.toArray⟩]:List Value) (by simp[Act.eval]) rfl (World.news_of_block (cs:=(([.string ⟨s.toArray⟩]:List Value)).toArray) (t:=9) (fr:=(0,0)) (heap_alloc_new w2.drew _)) (by simp[Value.oneCell']) (by omega) (by unfold maxLen;omega) (by omega) (by simp;omega) _ rfl ?_;intro g5 cap w5 hown5 hg5 hor5 hl5;replace hg5:World.grownBy (w2.drew.alloc (.cells (([.string ⟨s.toArray⟩]:List Value)).toArray 9)) w5 sv.ownBlock:=hg5;have hkv5:=(HKV.out.drew.alloc (.cells (([.string ⟨s.toArray⟩]:List Value)).toArray 9)).grown hg5 (λe=>HVN.out _ e.symm rfl);have hP5:=(HP2.out.below (show Below w2.heap.size w2 (w2.drew.alloc (.cells (([.string ⟨s.toArray⟩]:List Value)).toArray 9)) by exact bl)).grown hg5 (λk hk=>(by have:=(HOL.out k hk).1;omega));have hbut5:But g ws w5:=FL (HB2.out.drew.alloc (.cells (([.string ⟨s.toArray⟩]:List Value)).toArray 9)) hg5 (λk hk=>(HOL.out k hk).1);have HS5:Hid (((λZ:World=>Z.cell? ⟨w.heap.size,0,none⟩=some (.string ⟨s.toArray⟩)) w5)/\w5.cell? ⟨g,5,none⟩=some sv):=⟨hkv5.cell 0,(hP5.blk.cell 5).trans HCO.out⟩;have fO:=hP5.blk.frozen 5;have HP5:=Lib.hid hP5;have HB5:=Lib.hid hbut5;have HO5:=Lib.hid hown5;have HG5:=Lib.hid hg5;have HR5:=Lib.hid hor5;clear hP5 hbut5 hown5 hkv5 hg5 hor5;refine hK.out _ _ ?_ (λhHeld=>?_)
 ·try dsimp only
  first|exact HS5.out|exact HS2.out _ (by exact bl)
 clear hK K;refine ap ?_;refine tI 9 12 [10,11,12] ?_;refine ap ?_;refine tI 10 12 [11,12] ?_;refine ap ?_;refine tI 11 12 [12] ?_;refine ap ?_;refine AV (rs:=[12]) (by kernel_rfl) (by simp) ?_;refine AC.consD rfl (by decide) (λK hK=>?_) AC.nil
 skip
 go_simp;go_wp2_with fail;refine hK.out _ _ ?_;clear hK K;refine ap ?_;refine DI (by kernel_rfl) ?_ _;go_wp2_with fail;go_ret;rcases HRES.out with⟨ho,hB⟩|⟨ho,hB,ha2⟩
 ·subst hB ho;exact⟨rfl,HB5.out.set 5 _⟩
 ·subst hB ho ha2;have hN:=HN.out;subst hN;refine⟨rfl,_,HP5.out.set 5 (by decide) _,⟨some ⟨g5,0,none⟩,cap,a+1,by rw[HCS.out];simp,by simpa[IR]using I7 HO5.out (p:=⟨g,5,none⟩) (λk hk _ e=>by simp at e;omega) (.slice (some ⟨g5,0,none⟩) (xs.length+1) cap),λy hy=>?_,by simp;exact HB5.out.size⟩,HB5.out.set 5 _⟩;rcases List.mem_append.1 hy with h|h
  ·exact HFV.out y h
  ·rw[List.mem_singleton]at h;subst h;exact HNL.out _ rfl
theorem Iw(A:Option Addr)(n c a:Nat)(s:St)(p:StP)(t:List UInt8):(psC A n c a (s.cells p)).setIfInBounds 3 (.string ⟨t.toArray⟩)=psC A n c a (({s with tb:=t}:St).cells p):=by
 simp only[psC,List.setIfInBounds_toArray,St.cells];rfl
theorem Tt(A:Option Addr)(n c a:Nat)(s:St)(p:StP)(t:List UInt8):(psC A n c a (s.cells p)).setIfInBounds 4 (.string ⟨t.toArray⟩)=psC A n c a (({s with ot:=t}:St).cells p):=by
 simp only[psC,List.setIfInBounds_toArray,St.cells];rfl
theorem Pz(A:Option Addr)(n c a:Nat)(s:St)(p:StP)(t:List UInt8):(psC A n c a (s.cells p)).setIfInBounds 7 (.string ⟨t.toArray⟩)=psC A n c a (({s with key:=t}:St).cells p):=by
 simp only[psC,List.setIfInBounds_toArray,St.cells];rfl
theorem NV(A:Option Addr)(n c a:Nat)(s:St)(p:StP)(t:List UInt8):(psC A n c a (s.cells p)).setIfInBounds 24 (.string ⟨t.toArray⟩)=psC A n c a (({s with role:=t}:St).cells p):=by
 simp only[psC,List.setIfInBounds_toArray,St.cells];rfl
theorem JX(A:Option Addr)(n c a:Nat)(s:St)(p:StP)(t:List (List UInt8))(A':Option Addr)(c':Nat):(psC A n c a (s.cells p)).setIfInBounds 5 (.slice A' t.length c')=psC A n c a (({s with names:=t}:St).cells {p with names:=⟨A',c'⟩}):=by
 simp only[psC,List.setIfInBounds_toArray,St.cells];rfl
theorem Ql(A:Option Addr)(n c a:Nat)(s:St)(p:StP)(t:List Col)(A':Option Addr)(c':Nat):(psC A n c a (s.cells p)).setIfInBounds 6 (.slice A' t.length c')=psC A n c a (({s with cols:=t}:St).cells {p with cols:=⟨A',c'⟩}):=by
 simp only[psC,List.setIfInBounds_toArray,St.cells];rfl
theorem Qk(A:Option Addr)(n c a:Nat)(s:St)(p:StP)(t:List (List UInt8))(A':Option Addr)(c':Nat):(psC A n c a (s.cells p)).setIfInBounds 8 (.slice A' t.length c')=psC A n c a (({s with uniq:=t}:St).cells {p with uniq:=⟨A',c'⟩}):=by
 simp only[psC,List.setIfInBounds_toArray,St.cells];rfl
theorem KE(A:Option Addr)(n c a:Nat)(s:St)(p:StP)(t:List Rf)(A':Option Addr)(c':Nat):(psC A n c a (s.cells p)).setIfInBounds 9 (.slice A' t.length c')=psC A n c a (({s with refs:=t}:St).cells {p with refs:=⟨A',c'⟩}):=by
 simp only[psC,List.setIfInBounds_toArray,St.cells];rfl
theorem XZ(A:Option Addr)(n c a:Nat)(s:St)(p:StP)(t:List Se)(A':Option Addr)(c':Nat):(psC A n c a (s.cells p)).setIfInBounds 17 (.slice A' t.length c')=psC A n c a (({s with sets:=t}:St).cells {p with sets:=⟨A',c'⟩}):=by
 simp only[psC,List.setIfInBounds_toArray,St.cells];rfl
theorem Fb(A:Option Addr)(n c a:Nat)(s:St)(p:StP)(t:Ex)(A':Option Addr)(c':Nat):Gm (psC A n c a (s.cells p)) 10 (t.cells A' c')=psC A n c a (({s with chk:=t}:St).cells {p with chk:=⟨A',c'⟩}):=by
 simp only[psC,Ex.cells,Gm,List.setIfInBounds_toArray,St.cells];rfl
theorem Py(A:Option Addr)(n c a:Nat)(s:St)(p:StP)(t:Ex)(A':Option Addr)(c':Nat):Gm (psC A n c a (s.cells p)) 18 (t.cells A' c')=psC A n c a (({s with whr:=t}:St).cells {p with whr:=⟨A',c'⟩}):=by
 simp only[psC,Ex.cells,Gm,List.setIfInBounds_toArray,St.cells];rfl
def Az(l:List Tok)(a:Nat):Option (List UInt8×Nat):=(AO l a).map λs=>(s,a+1)
theorem Ey{l:List Tok}{b:Nat}{r:List UInt8×Nat}(h:Az l b=some r):b<r.2/\r.2<=l.length:=by
 unfold Az at h;cases hn:AO l b with
 |none=>rw[hn]at h;cases h
 |some s=>
  rw[hn]at h
  injection h with h
  subst h;have:=Dz hn;exact⟨Nat.lt_succ_self _,this⟩
theorem Qn{α:Type} (step:Nat->Option (α×Nat))(K:List α->Array Value->World->Prop)(g:Nat)(A:Option Addr)(c:Nat)(l:List Tok)(a:Nat)(cs:Array Value)(w:World)(hl:l.length<=990)(ha:a<=l.length)(h:PsS g A c l a cs w)(hK:Gs g K)(hK0:K [] cs w)(hs:∀b r,step b=some r->b<r.2/\r.2<=l.length)
 (hI:∀xs b cs' W,But g w W->xs.length<=b->b<=l.length->PsS g A c l b cs' W->K xs cs' W->Calls Tryz.prog 179 #[.pointer (some ⟨g,0,none⟩)] W (FP ((step b).map λr=>(xs++[r.1],r.2)) g A c l K w)):
  Calls Tryz.prog 173 #[.pointer (some ⟨g,0,none⟩),.func (.func 179) #[.pointer (some ⟨g,0,none⟩)] #[]] w (FP (Bd l step (l.length+1) a) g A c l K w):=by
 obtain⟨R,hR⟩:∃R,Bd l step (l.length+1) a=R:=⟨_,rfl⟩;rw[hR];have HR0:Hid ((Bd l step (l.length+1) a).map (λq=>([]++q.1,q.2))=R):=by
  show _=_
  rw[hR];cases R<;>simp
 obtain⟨N,hN⟩:∃N,l.length=N:=⟨_,rfl⟩;rw[hN]at HR0 ha hs hI hl;have HI:=Lib.hid hI;have HK:=Lib.hid hK;have HS:=Lib.hid hs;have HP0:=Lib.hid h;have HK0:=Lib.hid hK0;have HN:=Lib.hid hN;clear hR hN h hI hK hs hK0;go_in
 go_wp2_with fail;go_loopw [] (λwr=>∃(f:Nat) (xs:List α) (b:Nat) (cs':Array Value),N+1<=f+b/\xs.length<=b/\b<=N/\Hid ((Bd l step f b).map (λq=>(xs++q.1,q.2))=R)/\Hid (PsS g A c l b cs' wr)/\Hid (K xs cs' wr)/\But g w wr) (λwr=>N - Ko g wr)
 case atStart=>exact⟨N+1,[],a,cs,by omega,Nat.zero_le _,ha,HR0,HP0,HK0,But.refl _ _⟩
 case round=>
  obtain⟨f,xs,b,cs',hf,hxb,hbn,HJ,HP,HKW,hbw⟩:=hrel;obtain⟨W,rfl⟩:∃W,W=wr:=⟨_,rfl⟩;obtain⟨f,rfl⟩:∃k,f=k+1:=⟨f - 1,by omega⟩;have hJ:((step b).bind λr=>if hit l r.2 [44]then(Bd l step f (r.2+1)).map λq=>(r.1::q.1,q.2)else some ([r.1],r.2)).map (λq=>(xs++q.1,q.2))=R:=HJ.out;have HC:=Lib.hid (HI.out xs b cs' W hbw hxb hbn HP.out HKW.out);have HSB:=Lib.hid (λr=>HS.out b r);obtain⟨o,ho⟩:∃o,step b=o:=⟨_,rfl⟩;rw[ho]at HC hJ HSB;have HJ2:=Lib.hid hJ;clear ho hJ HJ;go_wp2_with fail;refine HC.out.mono ?_;cases o with
  |none=>
   have hR:R=none:=HJ2.out.symm;subst hR;rintro en w1 ⟨rfl,hb1⟩;have HB1:=Lib.hid hb1;clear hb1;go_wp2_with fail;go_ret;exact⟨rfl,HB1.out⟩
  |some r=>
   obtain⟨x,b'⟩:=r;obtain⟨hlt,hle⟩:b<b'/\b'<=N:=HSB.out _ rfl;have hJ:(if hit l b' [44]then(Bd l step f (b'+1)).map λq=>(x::q.1,q.2)else some ([x],b')).map (λq=>(xs++q.1,q.2))=R:=HJ2.out;rintro en w1 ⟨rfl,cs1,hP1,hK1,hb1⟩;have HT:=Lib.hid (Ac g A c l b' cs1 [44] w1 (by omega) hP1);have HL:Hid (hit l b' [44]=true->b'+1<=N):=λh=>by have:=DZ h;rw[HN.out]at this;omega
   obtain⟨D,hD⟩:∃D,hit l b' [44]=D:=⟨_,rfl⟩;rw[hD]at HT hJ HL;have HJ:=Lib.hid hJ;have HB1:=Lib.hid hb1;have HK1:=Lib.hid hK1;have HPA:=Lib.hid (PsS.at_ HP.out);clear hD hJ HJ2 HC hP1 hb1 hK1;go_wp2_with fail;refine HT.out.mono ?_;rintro en w2 ⟨rfl,hP2,hb2⟩;have HB2:=Lib.hid hb2;have HP2:=Lib.hid hP2;clear hP2 hb2;cases D with
   |false=>
    have hR:R=some (xs++[x],b'):=HJ.out.symm;subst hR;go_wp2_with fail;go_ret;exact⟨rfl,_,HP2.out,HK.out _ _ _ _ _ HK1.out HB2.out,HB1.out.trans HB2.out⟩
   |true=>
    have hl2:b'+1<=N:=HL.out rfl;have HF:Hid ((Bd l step f (b'+1)).map (λq=>((xs++[x])++q.1,q.2))=R):=by
     show _=_
     rw[<-HJ.out,if_pos rfl,Option.map_map];cases Bd l step f (b'+1)<;>simp
    clear HJ;go_wp2_with fail;go_roundw
    case rel=>exact⟨f,xs++[x],b'+1,_,by omega,by simp;omega,hl2,HF,HP2,Lib.hid (HK.out _ _ _ _ _ HK1.out HB2.out),HB1.out.trans HB2.out⟩
    case measure=>
     have e2:Ko g w2=b'+1:=PsS.at_ HP2.out;have e1:=HPA.out;omega
theorem Vz(g pv:Nat)(A:Option Addr)(c:Nat)(l:List Tok)(a:Nat)(cs0:Array Value)(w:World)(hp:PsE g c l w)(ha:a<=l.length)(hP:PsS g A c l a (Aa cs0 a) w)(h5:5<cs0.size)(h50:cs0.setIfInBounds 5 (.slice none 0 0)=cs0)(hv:w.cell? ⟨pv,0,none⟩=some (.pointer (some ⟨g,0,none⟩))):
  Calls Tryz.prog 178 #[.pointer (some ⟨pv,0,none⟩)] w (FP (Bd l (Az l) (l.length+1) a) g A c l (KL 5 9 1 (·.map IR) J9 cs0 w.heap.size) w):=by
 have hl:=hp.n;have hgl:=hP.blk.lt;have HL:=Lib.hid (Qn (Az l) (KL 5 9 1 (·.map IR) J9 cs0 w.heap.size) g A c l a _ w hp.n ha hP (KL.stay hgl) ⟨none,0,a,by rw[show([]:List (List UInt8)).length=0 from rfl,h50],World.ownsRow_nil _ _ _ _,(λv hv=>by cases hv),Nat.le_refl _⟩ (λb r h=>Ey h)
  (λxs b cs' W hW hx hb hPW hKW=>by
   have:=Jr g A c l b cs0 cs' xs w W (hp.but hW) hb hPW hgl hW (by omega) h5 hKW;unfold Az;rw[Option.map_map];exact this))
 obtain⟨o,ho⟩:∃o,Bd l (Az l) (l.length+1) a=o:=⟨_,rfl⟩;rw[ho]at HL ⊢;clear hp ha hP hgl hl ho h5 h50;go_in
 go_wp2_with fail;refine HL.out.mono ?_;intro en w1 hr;cases o with
 |none=>
  obtain⟨rfl,hb1⟩:=hr;have HB1:=Lib.hid hb1;clear hb1 HL;go_wp2_with fail;go_ret;exact⟨rfl,HB1.out⟩
 |some r=>
  obtain⟨rfl,h1⟩:=hr;have H1:=Lib.hid h1;clear h1 HL;go_wp2_with fail;go_ret;exact⟨rfl,H1.out⟩
theorem Qq{α:Type}(pv:Nat)(o:Option (α×Nat))(K:α->Array Value->World->Prop)(g:Nat)(A:Option Addr)(c:Nat)(l:List Tok)(a:Nat)(cs:Array Value)(w:World)(hl:l.length<=990)(ha:a<=l.length)(h:PsS g A c l a cs w)(hK:Gs g K)(ho:a+1<=l.length->∀r,o=some r->r.2<=l.length)
 (hI:∀W,But g w W->a+1<=l.length->PsS g A c l (a+1) (Aa cs (a+1)) W->Calls Tryz.prog 178 #[.pointer (some ⟨pv,0,none⟩)] W (FP o g A c l K W)):
  Calls Tryz.prog 164 #[.pointer (some ⟨g,0,none⟩),.func (.func 178) #[] #[.pointer (some ⟨pv,0,none⟩)]] w (FP (Ae l a o) g A c l K w):=by
 have HT:=Lib.hid (Ac g A c l a cs [40] w (by omega) h);obtain⟨R,hR⟩:∃R,Ae l a o=R:=⟨_,rfl⟩;rw[hR];unfold Ae at hR;have HA:Hid (hit l a [40]=true->a+1<=l.length):=λh=>DZ h
 obtain⟨B,hB⟩:∃B,hit l a [40]=B:=⟨_,rfl⟩;rw[hB]at HT hR HA;have HR:=Lib.hid hR;have HI:=Lib.hid hI;have HK:=Lib.hid hK;have HO:=Lib.hid ho;clear hR hB h hI hK ho ha;go_in
 go_wp2_with fail;refine HT.out.mono ?_;rintro en w1 ⟨rfl,hP1,hb1⟩;have HB1:=Lib.hid hb1;cases B with
 |false=>
  have hR:R=none:=HR.out.symm;subst hR;clear hP1 hb1;go_wp2_with fail;go_ret;exact⟨rfl,HB1.out⟩
 |true=>
  have HR:Hid ((o.bind λr=>if hit l r.2 [41]then some (r.1,r.2+1)else none)=R):=HR.out;have hP1':PsS g A c l (a+1) (Aa cs (a+1)) w1:=hP1;have HX:=Lib.hid (HI.out w1 hb1 (HA.out rfl) hP1');have HAL:=Lib.hid (HA.out rfl);clear hP1 hP1' hb1 HI HT;go_wp2_with fail;refine HX.out.mono ?_;cases o with
  |none=>
   have hR:R=none:=HR.out.symm;subst hR;rintro en w2 ⟨rfl,hb2⟩;have HB2:=Lib.hid (HB1.out.trans hb2);clear hb2;go_wp2_with fail;go_ret;exact⟨rfl,HB2.out⟩
  |some r=>
   obtain⟨x,b⟩:=r;have hR:(if hit l b [41]then some (x,b+1)else none)=R:=HR.out;rintro en w2 ⟨rfl,cs2,hP2,hK2,hb2⟩;have hbl:b<=l.length:=HO.out HAL.out (x,b) rfl;have HT2:=Lib.hid (Ac g A c l b cs2 [41] w2 (by omega) hP2);have HB2:=Lib.hid (HB1.out.trans hb2);have HK2:=Lib.hid hK2;obtain⟨D,hD⟩:∃D,hit l b [41]=D:=⟨_,rfl⟩;rw[hD]at HT2 hR;have HR2:=Lib.hid hR;clear hP2 hK2 hb2 hD hR HR HX hbl;go_wp2_with fail;refine HT2.out.mono ?_;rintro en w3 ⟨rfl,hP3,hb3⟩;have HP3:=Lib.hid hP3;have HB3:=Lib.hid hb3;clear hP3 hb3;cases D with
   |false=>
    have hR:R=none:=HR2.out.symm;subst hR;go_wp2_with fail;go_ret;exact⟨rfl,HB2.out.trans HB3.out⟩
   |true=>
    have hR:R=some (x,b+1):=HR2.out.symm;subst hR;go_wp2_with fail;go_ret;exact⟨rfl,_,HP3.out,HK.out _ _ _ _ _ HK2.out HB3.out,HB2.out.trans HB3.out⟩
end Go.Proofs.YtchilcchogcibaaGreatDoor
