/- The statement parser's value, and what stands behind INSERT, as plain functions. -/
import Derived.Test.YtchilcchogcibaaGreatDoorFOrdersL
import Derived.Test.YtchilcchogcibaaGreatDoorFPs8b
set_option maxRecDepth 100000
set_option maxHeartbeats 8000000
namespace Go.Proofs.YtchilcchogcibaaGreatDoor
open Go.RowKit
attribute [local go_sem] ByteArray.extract_mk Ak AY
attribute [local go_sem ↓] Go.wp_at_zero Go.wp_at_succ CY CE
def QK(l:List Tok)(a n:Nat):Option (V×Nat):=if a+n<=l.length then(if (ED ((l.drop a).take n)).2.2=0/\(ED ((l.drop a).take n)).2.1=n/\(ED ((l.drop a).take n)).1.op=[108,105,116]then some ((ED ((l.drop a).take n)).1.v,a+n)else none)else none
def Dh(l:List Tok)(a:Nat):Option (V×Nat):=if hit l a [45]then QK l a 2 else QK l a 1
theorem YS{l:List Tok}{a n:Nat}{r:V×Nat}(h:QK l a n=some r):r.2=a+n/\a+n<=l.length:=by
 unfold QK at h;split at h
 ·rename_i h1
  split at h
  ·injection h with h
   subst h;exact⟨rfl,h1⟩
  ·cases h
 ·cases h
theorem NC{l:List Tok}{a:Nat}{r:V×Nat}(h:Dh l a=some r):a<r.2/\r.2<=l.length:=by
 unfold Dh at h;split at h<;>(have:=YS h;omega)
theorem YX{w:World}{B:Nat}{A:Option Addr}{l:List Tok}(h:TkS w B A l)(n:Nat):TkS w B A (l.take n):=by
 intro hl;rw[List.length_take]at hl;obtain⟨b,o,rfl,hb,hr⟩:=h (by omega);refine⟨b,o,rfl,hb,λi v hv=>hr i v ?_⟩;rw[List.getElem?_take]at hv;split at hv
 ·exact hv
 ·cases hv
def RetVr(r:Option (V×Nat))(g b o:Nat)(w:World)(en:Ending)(w':World):Prop:=
 match r with
 |none=>en=.returned (.bool false)/\Below w.heap.size w w'
 |some r=>∃w1,en=.returned (.bool true)/\Below w.heap.size w w1/\Fq r.1.i/\r.1.s.length<=1000/\w'=(w1.setCells b o r.1.cells).setCell ⟨g,1,none⟩ (.int .i64 (r.2:Nat))
def stI(tb:List UInt8)(vs:List V):St:=⟨[105,110,115,101,114,116],tb,[],[],[],[],[],[],ex0,vs,[],ex0,[]⟩
def pI(A:Option Addr)(c:Nat):StP:=⟨slZ,slZ,slZ,slZ,slZ,⟨A,c⟩,slZ,slZ⟩
def Gy(l:List Tok):Option (St×Nat):=
 if hit l 1 [73,78,84,79]then(AO l 2).bind λt=>if hit l 3 [86,65,76,85,69,83]then(if hit l 4 [40]then(Bd l (Dh l) (l.length+1) 5).bind λr=>if hit l r.2 [41]then some (stI t r.1,r.2+1)else none else none)else none else none
theorem Nk(w:World)(p:Addr)(u:Value):w.grownBy (w.setCell p u) (some p.block):=⟨rfl,rfl,rfl,by simp,λk _ hne=>Below.heap_setCell w p u k (λe=>hne (by rw[e]))⟩
theorem I7{w:World}{base:Nat}{e:TypeId}{size:Nat}{v:Value}{n:Nat}{xs:List Value}(h:w.ownsRow base e size v n xs){p:Addr}(hp:∀k,base<=k->k<w.heap.size->k≠p.block)(u:Value):(w.setCell p u).ownsRow base e size v n xs:=
 h.kept (Nk w p u) (.inr λe=>hp _ (h.lt _ e).1 (h.lt _ e).2 rfl)
theorem DD{g:Nat}{w w':World}{base:Nat}{e:TypeId}{size:Nat}{v:Value}{n:Nat}{xs:List Value}(h:w.ownsRow base e size v n xs)(hb:But g w w')(hg:g<base):w'.ownsRow base e size v n xs:=
 ⟨h.1,h.2.imp id λ⟨k,cap,cur,hv,hk,hh,r⟩=>⟨k,cap,cur,hv,hk,(hb.block k (Array.getElem?_eq_some_iff.1 hh).1 (by omega)).trans hh,r⟩⟩
theorem PsS.grown{g:Nat}{A:Option Addr}{c:Nat}{l:List Tok}{a:Nat}{cs:Array Value}{w w':World}{row:Option Nat}(h:PsS g A c l a cs w)(hg:w.grownBy w' row)(hr:∀k,row=some k->g<k):PsS g A c l a cs w':=
 ⟨h.blk.grown hg (λe=>absurd (hr g e.symm) (Nat.lt_irrefl _)),h.c0,h.c1,h.tk.below (Below.grown (Below.refl g w) hg (Nat.le_of_lt h.blk.lt) (λk hk=>Nat.le_of_lt (hr k hk)))⟩
theorem FL{p:Nat}{a w w':World}{row:Option Nat}(h:But p a w)(hg:w.grownBy w' row)(hr:∀k,row=some k->a.heap.size<=k):But p a w':=
 ⟨hg.os.trans h.os,hg.tape.trans h.tape,hg.output.trans h.output,Nat.le_trans h.size hg.size,λk hk hp=>(hg.block k (Nat.lt_of_lt_of_le hk h.size) (λe=>by have:=hr k e.symm;omega)).trans (h.block k hk hp)⟩
theorem YU(v:V):v.cells.toArray.all (·.oneCell')=true:=by simp[V.cells,Value.oneCell']
theorem Tn(g:Nat)(A:Option Addr)(c:Nat)(l:List Tok)(a:Nat)(cs:Array Value)(b o:Nat)(w0:World)(hp:PsE g c l w0)(ha:a<=l.length)(h:PsS g A c l a cs w0)(hb:b≠g)(ht:w0.there b o 3)(hbl:b<w0.heap.size):
  Calls Tryz.prog 171 #[.pointer (some ⟨g,0,none⟩),.pointer (some ⟨b,o,none⟩)] w0 (RetVr (Dh l a) g b o w0):=by
 obtain⟨hl,hs,hc,hE⟩:=hp;have lp:=h.blk.lt;have HI:=Lib.hid (MK g A c l a cs [45] w0 h);obtain⟨A1,hA1⟩:∃x,(if c=a then A else A.map (·.add (a * 2)))=x:=⟨_,rfl⟩;have hT1:=Ug (a:=a) h.tk hc;rw[hA1]at hT1;obtain⟨R,hR⟩:∃R,Dh l a=R:=⟨_,rfl⟩;rw[hR];unfold Dh at hR;obtain⟨B,hB⟩:∃B,hit l a [45]=B:=⟨_,rfl⟩;rw[hB]at HI hR;have HR0:=Lib.hid hR;have HX0:Hid (∀n:Nat,a+n<=l.length->∀Z:World,Below w0.heap.size w0 Z->Calls Tryz.prog 213 #[.slice A1 n (c - a)] Z (FO (ED ((l.drop a).take n)) Z)):=λn hn Z hz=>by
  have hlen:((l.drop a).take n).length=n:=by rw[List.length_take,List.length_drop];omega
  have:=Nb A1 (c - a) ((l.drop a).take n) Z (by omega) (λt ht=>Nat.le_trans (hs t (List.mem_of_mem_drop (List.mem_of_mem_take ht))) (by decide)) (YX ((hT1.below (hz.mono (Nat.le_of_lt lp))).more (Nat.le_trans (Nat.le_of_lt lp) hz.size)) n) (hE.below hz (Nat.le_of_lt lp)).out;rw[hlen]at this;exact this
 have HS0:Hid (∀w':World,Below w0.heap.size w0 w'->(w'.cell? ⟨g,0,none⟩=some (.slice A l.length c)/\w'.cell? ⟨g,1,none⟩=some (.int .i64 (a:Nat)))):=
  λw' hb=>⟨((h.blk.below hb lp).cell 0).trans h.c0,((h.blk.below hb lp).cell 1).trans h.c1⟩
 have HT0:Hid (∀w':World,Below w0.heap.size w0 w'->w'.there b o 3):=λw' hb j hj=>⟨by rw[hb.cell (p:=⟨b,o+j,none⟩) hbl];exact(ht j hj).1,by rw[(EJ hb).2 b (o+j) hbl];exact(ht j hj).2⟩
 have HF0:=Lib.hid (h.blk.frozen 1);have HA1:=Lib.hid hA1;have HB:=Lib.hid hb;have HLP:=Lib.hid lp;obtain⟨L,hL⟩:∃L,l.length=L:=⟨_,rfl⟩;rw[hL]at HX0 HS0 hl ha hc;have HL:=Lib.hid hL;clear hR hB hT1 hA1 h hE hs ht hb hbl hL lp;go_in
 go_wp2_with fail;refine HI.out.mono ?_;rintro en w1 ⟨rfl,hb01⟩;have HB01:=Lib.hid hb01;have HS1:Hid (∀w':World,Below w1.heap.size w1 w'->(w'.cell? ⟨g,0,none⟩=some (.slice A L c)/\w'.cell? ⟨g,1,none⟩=some (.int .i64 (a:Nat)))):=λw' hb=>HS0.out w' (hb01.trans (hb.mono hb01.size))
 clear hb01 HS0 HI;cases B with
 |false=>
  go_upto_region 4 with fail
  have hR:QK l a 1=R:=HR0.out;unfold QK at hR;have HX:=Lib.hid (HX0.out 1);by_cases hn:a+1<=L
  ·rw[HL.out,if_pos hn]at hR;have HX:=Lib.hid (HX.out hn);obtain⟨R1,hR1⟩:∃x,ED ((l.drop a).take 1)=x:=⟨_,rfl⟩;rw[hR1]at HX hR;obtain⟨e,tk,err⟩:=R1;have HR:Hid ((if err=0/\tk=1/\e.op=[108,105,116]then some (e.v,a+1)else none)=R):=hR;have i1:(0:Int)<=(a:Int):=by omega
   have i3:(a:Int)<=(a:Int)+1:=by omega
   have i4:(a:Int)+1<=(c:Int):=by omega
   have b0:¬((L:Int)<(a:Int)+1):=by omega
   have b1:(a:Int)+1<=(L:Int):=by omega
   have wr:IntKind.i64.wrap ((a:Int)+1)=(a:Int)+1:=IntWalk.i64_in _ (by omega);clear hR hR1 HR0 HX0;refine rgn HS1 λhHeld=>?_
   refine tS [0,1,2,3,4,5,6,7,8,9,10,11] ?_;iterate 12(refine tC ?_;refine ap ?_)
   refine tN ?_;refine wpAnyH_done (by kernel_rfl) ?_ _;obtain⟨w,hw⟩:∃x,World.drew w1=x:=⟨_,rfl⟩;rw[hw];have hbw1:Below w1.heap.size w1 w:=by rw[<-hw];exact Below.drew (Below.refl _ _)
   have hbw:=HB01.out.trans (hbw1.mono HB01.out.size);have HSH:Hid (∀w':World,Below w.heap.size w w'->(w'.cell? ⟨g,0,none⟩=some (.slice A L c)/\w'.cell? ⟨g,1,none⟩=some (.int .i64 (a:Nat)))):=λw' hb=>HS1.out w' (hbw1.trans (hb.mono hbw1.size))
   have HTH:Hid (∀w':World,Below w.heap.size w w'->w'.there b o 3):=λw' hb=>HT0.out w' (hbw.trans (hb.mono hbw.size))
   have HF1:Hid (w.frozen? ⟨g,1,none⟩=false):=by show _=_;rw[(EJ hbw).2 g 1 HLP.out];exact HF0.out
   have lp:g<w.heap.size:=Nat.lt_of_lt_of_le HLP.out hbw.size;have HX:Hid (∀Z:World,Below w.heap.size w Z->Calls Tryz.prog 213 #[.slice A1 1 (c - a)] Z (FO (e,tk,err) Z)):=λZ hz=>HX.out Z (hbw.trans (hz.mono hbw.size))
   have HBW:=Lib.hid hbw;clear hw hbw hbw1 HS1 HT0 HF0;go_upto_region 6 with fail
   refine rgn HSH λhHeld=>?_
   refine tS [0,1,2,3,4,5,6,7,8,9,10,11,12,13] ?_;iterate 14(refine tC ?_;refine ap ?_)
   refine tN ?_;refine tS [14] (tC (v:=.slice A1 1 (c - a)) (hy:=by refine Or.inl ⟨by rfl, ?_⟩;intro wq hSw;(try dsimp only at hSw);go_simp;first|done|(rw[<-HA1.out];done)|(rw[<-HA1.out];refine⟨rfl, ?_⟩;omega)) ?_)<;>refine ap (tN ?_)
   refine wpAnyH_ready (rs:=[15,20]) (by kernel_rfl) (by simp) ?_;refine(AllReadyH.cons rfl (λK hK=>?_) (AllReadyH.cons rfl (λK hK=>?_) AllReadyH.nil))
   ·skip
    go_simp;refine(HX.out _ (by exact bl)).mono ?_<;>rintro en w5 ⟨A5,c5,rfl,hE5,hb5⟩<;>have hz5:=hb5.size<;>have hb15:Below w.heap.size w w5:=(by first|exact(Below.drew (Below.refl _ w)).trans hb5|exact((Below.drew (Below.refl _ w)).alloc (Nat.le_refl _) _).trans (hb5.mono (by simp)))<;>have hz15:=hb15.size<;>(try have HKZ:Hid (Blk w5 w.heap.size 30 #[.string ⟨#[]⟩,.int .i64 0,.int .i64 0,.string ⟨#[]⟩,.string ⟨#[]⟩,.slice none 0 0]):=Blk.below (Blk.new' w.drew w.heap.size _ _ rfl) hb5 (by simp))
    go_wp2_with fail;refine hK.out _ _ (HSH.out _ (by exact bl)) λhHeld=>?_
    clear hK K;refine ap ?_;refine tS [16,17,18,19] ?_;iterate 4(refine tC ?_;refine ap ?_)
    refine tN ?_;refine rdy 20 λK hK=>?_
    go_simp
    skip
    go_wp2_with fail;refine hK.out _ _ (HSH.out _ (by exact bl)) λhHeld=>?_
    clear hK K;refine ap ?_;refine rdy 21 λK hK=>?_
    first
    |
     refine BL (by rfl) 30 _ _ rfl w5.heap.size (e.cells A5 c5).toArray rfl rfl 30 ⟨#[.string ⟨#[]⟩,.int .i64 0,.int .i64 0,.string ⟨#[]⟩,.string ⟨#[]⟩,.slice none 0 0],rfl,heap_alloc_last _ _⟩ Ef (Gz _ _ _) ?_;refine hK.out _ _ (HSH.out _ (Df (by exact bl) hb15.size _)) (λhHeld=>?_);clear hK K;refine ap ?_;obtain⟨w6,hw6⟩:∃x,World.setRow (w5.alloc (.cells #[.string ⟨#[]⟩,.int .i64 0,.int .i64 0,.string ⟨#[]⟩,.string ⟨#[]⟩,.slice none 0 0] 30)) w5.heap.size (e.cells A5 c5).toArray=x:=⟨_,rfl⟩;have hb6:Below w.heap.size w w6:=by rw[<-hw6];exact Df (by exact bl) hb15.size _
     have k6:Blk w6 w5.heap.size 30 (e.cells A5 c5).toArray:=by rw[<-hw6];exact Blk.row (heap_alloc_last _ _) _
     have hE6:=hE5.keep (Q':=λx=>w.heap.size<=x/\x<w6.heap.size) (w':=w6) λx hx=>⟨⟨by first|exact hx.1|(have:=hx.1;simp at this;omega),by rw[<-hw6,Bg];have:=hx.2;simp;omega⟩,λo=>by rw[<-hw6];exact Bf ((BI _ _ _ _ (by have:=hx.2;omega)).trans (Below.heap_alloc _ _ _ hx.2)) o⟩
     have hkw:w.heap.size<=w5.heap.size:=hb15.size;have hkl:w5.heap.size<w6.heap.size:=k6.lt;rw[hw6]at hHeld ⊢;obtain⟨k,hk⟩:∃k,w5.heap.size=k:=⟨_,rfl⟩;rw[hk]at k6 hkw hkl ⊢;clear hw6 hk
    |
     refine BL (by rfl) 30 _ _ rfl w.heap.size (e.cells A5 c5).toArray rfl rfl 30 ⟨#[.string ⟨#[]⟩,.int .i64 0,.int .i64 0,.string ⟨#[]⟩,.string ⟨#[]⟩,.slice none 0 0],rfl,HKZ.out⟩ Ef (Gz _ _ _) ?_;refine hK.out _ _ (HSH.out _ (Df hb15 (Nat.le_refl _) _)) (λhHeld=>?_);clear hK K;refine ap ?_;obtain⟨w6,hw6⟩:∃x,World.setRow w5 w.heap.size (e.cells A5 c5).toArray=x:=⟨_,rfl⟩;have hb6:Below w.heap.size w w6:=by rw[<-hw6];exact Df hb15 (Nat.le_refl _) _
     have k6:Blk w6 w.heap.size 30 (e.cells A5 c5).toArray:=by rw[<-hw6];exact Blk.row HKZ.out _
     have hE6:=hE5.keep (Q':=λx=>w.heap.size<=x/\x<w6.heap.size) (w':=w6) λx hx=>⟨⟨by have:=hx.1;simp at this;omega,by rw[<-hw6,Bg];exact hx.2⟩,λo=>by rw[<-hw6];exact Bf (BI _ _ _ _ (by have:=hx.1;simp at this;omega)) o⟩
     have hkw:w.heap.size<=w.heap.size:=Nat.le_refl _;have hkl:w.heap.size<w6.heap.size:=k6.lt;rw[hw6]at hHeld ⊢;obtain⟨k,hk⟩:∃k,w.heap.size=k:=⟨_,rfl⟩;rw[show Value.pointer (some ⟨w.heap.size,0,none⟩)=.pointer (some ⟨k,0,none⟩) by rw[hk]];rw[hk]at k6;have hkw:w.heap.size<=k:=Nat.le_of_eq hk;have hkl:k<w6.heap.size:=k6.lt;clear hw6 hk
    refine tS [22,23] ?_;iterate 2(refine tC ?_;refine ap ?_)
    refine tN ?_;refine wpAnyH_done (by kernel_rfl) ?_ _;have HRG:Hid (World.rangeAt w6 k 1 e.v.cells):=λj v hv=>by
     rw[k6.cell];rcases j with _|_|_|j
     ·exact hv
     ·exact hv
     ·exact hv
     ·simp[V.cells]at hv
    have HT6:=Lib.hid (HTH.out w6 hb6);have x1:w6.cell? ⟨g,1,none⟩=some (.int .i64 (a:Nat)):=(HSH.out w6 hb6).2;have f1:w6.frozen? ⟨g,1,none⟩=false:=by rw[(EJ hb6).2 g 1 lp];exact HF1.out
    have q0:w6.cell? ⟨k,0,none⟩=some (.string ⟨e.op.toArray⟩):=k6.cell 0;have HE6:=Lib.hid hE6;have HB6:=Lib.hid (HBW.out.trans (hb6.mono HBW.out.size));clear k6 hE5 hE6 hb5 hb15 hz5 hb6;by_cases he:err=0
    ·subst he;by_cases ht:tk=1
     ·subst ht;by_cases ho:e.op=[108,105,116]
      ·have hR:R=some (e.v,a+1):=by rw[<-HR.out,if_pos ⟨rfl,rfl,ho⟩]
       have eL:(e.op==[108,105,116])=true:=by rw[ho];rfl
       have eN:(e.op != [108,105,116])=false:=by rw[bne,eL];rfl
       subst hR;obtain⟨w7,hw7⟩:∃x,w6.setCells b o e.v.cells=x:=⟨_,rfl⟩;have x7:w7.cell? ⟨g,1,none⟩=some (.int .i64 (a:Nat)):=by
        rw[<-hw7,World.cell?_setCells_out _ _ _ _ _ (λh1 _=>absurd h1.symm HB.out)];exact x1
       have f7:w7.frozen? ⟨g,1,none⟩=false:=by rw[<-hw7,World.frozen?_setCells];exact f1
       have HW7:=Lib.hid hw7;clear hw7 x1 f1 ho HR;go_wp2_with (first|refine Bo (by rfl) 27 _ rfl k 1 rfl e.v.cells _ HRG.out Tryz.underlying27 rfl JD ?_|(refine wpList_store_mid rfl 27 _ _ rfl b o e.v.cells.toArray rfl rfl HT6.out JD (YU _) ?_;rw[show World.setCells w6 b o _=w7 from HW7.out]));go_ret;exact⟨w6,rfl,HB6.out,HE6.out.1.1,HE6.out.1.2.2.2,by rw[show World.setCells w6 b o _=w7 from HW7.out];go_num⟩
      ·have hR:R=none:=by rw[<-HR.out,if_neg (λh=>ho h.2.2)]
       have eL:(e.op==[108,105,116])=false:=by rw[beq_eq_false_iff_ne];exact ho
       have eN:(e.op != [108,105,116])=true:=by rw[bne,eL];rfl
       subst hR;clear x1 f1 ho HR;go_wp2_with fail;go_ret;exact⟨rfl,HB6.out⟩
     ·have hR:R=none:=by rw[<-HR.out,if_neg (λh=>ht h.2.1)]
      have e1:((tk:Int) != 1)=true:=by rw[bne_iff_ne];omega
      have e2:((tk:Int)==1)=false:=by rw[beq_eq_false_iff_ne];omega
      subst hR;clear x1 f1 ht HR q0;go_wp2_with fail;go_ret;exact⟨rfl,HB6.out⟩
    ·have hR:R=none:=by rw[<-HR.out,if_neg (λh=>he h.1)]
     have e1:(err != 0)=true:=by simpa using he
     subst hR;clear x1 f1 he HR q0;go_wp2_with fail;go_ret;exact⟨rfl,HB6.out⟩
   ·skip
    go_simp
    skip
    go_wp2_with fail;refine hK.out _ _ (HSH.out _ (by exact bl)) λhHeld=>?_
    clear hK K;refine ap ?_;refine rdy 15 λK hK=>?_
    go_simp;refine(HX.out _ (by exact bl)).mono ?_<;>rintro en w5 ⟨A5,c5,rfl,hE5,hb5⟩<;>have hz5:=hb5.size<;>have hb15:Below w.heap.size w w5:=(by first|exact(Below.drew (Below.refl _ w)).trans hb5|exact((Below.drew (Below.refl _ w)).alloc (Nat.le_refl _) _).trans (hb5.mono (by simp)))<;>have hz15:=hb15.size<;>(try have HKZ:Hid (Blk w5 w.heap.size 30 #[.string ⟨#[]⟩,.int .i64 0,.int .i64 0,.string ⟨#[]⟩,.string ⟨#[]⟩,.slice none 0 0]):=Blk.below (Blk.new' w.drew w.heap.size _ _ rfl) hb5 (by simp))
    go_wp2_with fail;refine hK.out _ _ (HSH.out _ (by exact bl)) λhHeld=>?_
    clear hK K;refine ap ?_;refine tS [16,17,18,19] ?_;iterate 4(refine tC ?_;refine ap ?_)
    refine tN ?_;refine rdy 21 λK hK=>?_
    first
    |
     refine BL (by rfl) 30 _ _ rfl w5.heap.size (e.cells A5 c5).toArray rfl rfl 30 ⟨#[.string ⟨#[]⟩,.int .i64 0,.int .i64 0,.string ⟨#[]⟩,.string ⟨#[]⟩,.slice none 0 0],rfl,heap_alloc_last _ _⟩ Ef (Gz _ _ _) ?_;refine hK.out _ _ (HSH.out _ (Df (by exact bl) hb15.size _)) (λhHeld=>?_);clear hK K;refine ap ?_;obtain⟨w6,hw6⟩:∃x,World.setRow (w5.alloc (.cells #[.string ⟨#[]⟩,.int .i64 0,.int .i64 0,.string ⟨#[]⟩,.string ⟨#[]⟩,.slice none 0 0] 30)) w5.heap.size (e.cells A5 c5).toArray=x:=⟨_,rfl⟩;have hb6:Below w.heap.size w w6:=by rw[<-hw6];exact Df (by exact bl) hb15.size _
     have k6:Blk w6 w5.heap.size 30 (e.cells A5 c5).toArray:=by rw[<-hw6];exact Blk.row (heap_alloc_last _ _) _
     have hE6:=hE5.keep (Q':=λx=>w.heap.size<=x/\x<w6.heap.size) (w':=w6) λx hx=>⟨⟨by first|exact hx.1|(have:=hx.1;simp at this;omega),by rw[<-hw6,Bg];have:=hx.2;simp;omega⟩,λo=>by rw[<-hw6];exact Bf ((BI _ _ _ _ (by have:=hx.2;omega)).trans (Below.heap_alloc _ _ _ hx.2)) o⟩
     have hkw:w.heap.size<=w5.heap.size:=hb15.size;have hkl:w5.heap.size<w6.heap.size:=k6.lt;rw[hw6]at hHeld ⊢;obtain⟨k,hk⟩:∃k,w5.heap.size=k:=⟨_,rfl⟩;rw[hk]at k6 hkw hkl ⊢;clear hw6 hk
    |
     refine BL (by rfl) 30 _ _ rfl w.heap.size (e.cells A5 c5).toArray rfl rfl 30 ⟨#[.string ⟨#[]⟩,.int .i64 0,.int .i64 0,.string ⟨#[]⟩,.string ⟨#[]⟩,.slice none 0 0],rfl,HKZ.out⟩ Ef (Gz _ _ _) ?_;refine hK.out _ _ (HSH.out _ (Df hb15 (Nat.le_refl _) _)) (λhHeld=>?_);clear hK K;refine ap ?_;obtain⟨w6,hw6⟩:∃x,World.setRow w5 w.heap.size (e.cells A5 c5).toArray=x:=⟨_,rfl⟩;have hb6:Below w.heap.size w w6:=by rw[<-hw6];exact Df hb15 (Nat.le_refl _) _
     have k6:Blk w6 w.heap.size 30 (e.cells A5 c5).toArray:=by rw[<-hw6];exact Blk.row HKZ.out _
     have hE6:=hE5.keep (Q':=λx=>w.heap.size<=x/\x<w6.heap.size) (w':=w6) λx hx=>⟨⟨by have:=hx.1;simp at this;omega,by rw[<-hw6,Bg];exact hx.2⟩,λo=>by rw[<-hw6];exact Bf (BI _ _ _ _ (by have:=hx.1;simp at this;omega)) o⟩
     have hkw:w.heap.size<=w.heap.size:=Nat.le_refl _;have hkl:w.heap.size<w6.heap.size:=k6.lt;rw[hw6]at hHeld ⊢;obtain⟨k,hk⟩:∃k,w.heap.size=k:=⟨_,rfl⟩;rw[show Value.pointer (some ⟨w.heap.size,0,none⟩)=.pointer (some ⟨k,0,none⟩) by rw[hk]];rw[hk]at k6;have hkw:w.heap.size<=k:=Nat.le_of_eq hk;have hkl:k<w6.heap.size:=k6.lt;clear hw6 hk
    refine tS [22,23] ?_;iterate 2(refine tC ?_;refine ap ?_)
    refine tN ?_;refine wpAnyH_done (by kernel_rfl) ?_ _;have HRG:Hid (World.rangeAt w6 k 1 e.v.cells):=λj v hv=>by
     rw[k6.cell];rcases j with _|_|_|j
     ·exact hv
     ·exact hv
     ·exact hv
     ·simp[V.cells]at hv
    have HT6:=Lib.hid (HTH.out w6 hb6);have x1:w6.cell? ⟨g,1,none⟩=some (.int .i64 (a:Nat)):=(HSH.out w6 hb6).2;have f1:w6.frozen? ⟨g,1,none⟩=false:=by rw[(EJ hb6).2 g 1 lp];exact HF1.out
    have q0:w6.cell? ⟨k,0,none⟩=some (.string ⟨e.op.toArray⟩):=k6.cell 0;have HE6:=Lib.hid hE6;have HB6:=Lib.hid (HBW.out.trans (hb6.mono HBW.out.size));clear k6 hE5 hE6 hb5 hb15 hz5 hb6;by_cases he:err=0
    ·subst he;by_cases ht:tk=1
     ·subst ht;by_cases ho:e.op=[108,105,116]
      ·have hR:R=some (e.v,a+1):=by rw[<-HR.out,if_pos ⟨rfl,rfl,ho⟩]
       have eL:(e.op==[108,105,116])=true:=by rw[ho];rfl
       have eN:(e.op != [108,105,116])=false:=by rw[bne,eL];rfl
       subst hR;obtain⟨w7,hw7⟩:∃x,w6.setCells b o e.v.cells=x:=⟨_,rfl⟩;have x7:w7.cell? ⟨g,1,none⟩=some (.int .i64 (a:Nat)):=by
        rw[<-hw7,World.cell?_setCells_out _ _ _ _ _ (λh1 _=>absurd h1.symm HB.out)];exact x1
       have f7:w7.frozen? ⟨g,1,none⟩=false:=by rw[<-hw7,World.frozen?_setCells];exact f1
       have HW7:=Lib.hid hw7;clear hw7 x1 f1 ho HR;go_wp2_with (first|refine Bo (by rfl) 27 _ rfl k 1 rfl e.v.cells _ HRG.out Tryz.underlying27 rfl JD ?_|(refine wpList_store_mid rfl 27 _ _ rfl b o e.v.cells.toArray rfl rfl HT6.out JD (YU _) ?_;rw[show World.setCells w6 b o _=w7 from HW7.out]));go_ret;exact⟨w6,rfl,HB6.out,HE6.out.1.1,HE6.out.1.2.2.2,by rw[show World.setCells w6 b o _=w7 from HW7.out];go_num⟩
      ·have hR:R=none:=by rw[<-HR.out,if_neg (λh=>ho h.2.2)]
       have eL:(e.op==[108,105,116])=false:=by rw[beq_eq_false_iff_ne];exact ho
       have eN:(e.op != [108,105,116])=true:=by rw[bne,eL];rfl
       subst hR;clear x1 f1 ho HR;go_wp2_with fail;go_ret;exact⟨rfl,HB6.out⟩
     ·have hR:R=none:=by rw[<-HR.out,if_neg (λh=>ht h.2.1)]
      have e1:((tk:Int) != 1)=true:=by rw[bne_iff_ne];omega
      have e2:((tk:Int)==1)=false:=by rw[beq_eq_false_iff_ne];omega
      subst hR;clear x1 f1 ht HR q0;go_wp2_with fail;go_ret;exact⟨rfl,HB6.out⟩
    ·have hR:R=none:=by rw[<-HR.out,if_neg (λh=>he h.1)]
     have e1:(err != 0)=true:=by simpa using he
     subst hR;clear x1 f1 he HR q0;go_wp2_with fail;go_ret;exact⟨rfl,HB6.out⟩
  ·rw[HL.out,if_neg hn]at hR;subst hR;have b0:(L:Int)<(a:Int)+1:=by omega
   have wr:IntKind.i64.wrap ((a:Int)+1)=(a:Int)+1:=IntWalk.i64_in _ (by omega);clear HR0 HX0 HX;refine rgn HS1 λhHeld=>?_
   refine tS [0,1,2,3,4,5,6,7,8,9,10,11] ?_;iterate 12(refine tC ?_;refine ap ?_)
   refine tN ?_;refine wpAnyH_done (by kernel_rfl) ?_ _;go_wp2_with fail;go_ret;exact⟨rfl,HB01.out.drew⟩
 |true=>
  go_upto_region 4 with fail
  have hR:QK l a 2=R:=HR0.out;unfold QK at hR;have HX:=Lib.hid (HX0.out 2);by_cases hn:a+2<=L
  ·rw[HL.out,if_pos hn]at hR;have HX:=Lib.hid (HX.out hn);obtain⟨R1,hR1⟩:∃x,ED ((l.drop a).take 2)=x:=⟨_,rfl⟩;rw[hR1]at HX hR;obtain⟨e,tk,err⟩:=R1;have HR:Hid ((if err=0/\tk=2/\e.op=[108,105,116]then some (e.v,a+2)else none)=R):=hR;have i1:(0:Int)<=(a:Int):=by omega
   have i3:(a:Int)<=(a:Int)+2:=by omega
   have i4:(a:Int)+2<=(c:Int):=by omega
   have b0:¬((L:Int)<(a:Int)+2):=by omega
   have b1:(a:Int)+2<=(L:Int):=by omega
   have wr:IntKind.i64.wrap ((a:Int)+2)=(a:Int)+2:=IntWalk.i64_in _ (by omega);clear hR hR1 HR0 HX0;refine rgn HS1 λhHeld=>?_
   refine tS [0,1,2,3,4,5,6,7,8,9,10,11] ?_;iterate 12(refine tC ?_;refine ap ?_)
   refine tN ?_;refine wpAnyH_done (by kernel_rfl) ?_ _;obtain⟨w,hw⟩:∃x,World.drew w1=x:=⟨_,rfl⟩;rw[hw];have hbw1:Below w1.heap.size w1 w:=by rw[<-hw];exact Below.drew (Below.refl _ _)
   have hbw:=HB01.out.trans (hbw1.mono HB01.out.size);have HSH:Hid (∀w':World,Below w.heap.size w w'->(w'.cell? ⟨g,0,none⟩=some (.slice A L c)/\w'.cell? ⟨g,1,none⟩=some (.int .i64 (a:Nat)))):=λw' hb=>HS1.out w' (hbw1.trans (hb.mono hbw1.size))
   have HTH:Hid (∀w':World,Below w.heap.size w w'->w'.there b o 3):=λw' hb=>HT0.out w' (hbw.trans (hb.mono hbw.size))
   have HF1:Hid (w.frozen? ⟨g,1,none⟩=false):=by show _=_;rw[(EJ hbw).2 g 1 HLP.out];exact HF0.out
   have lp:g<w.heap.size:=Nat.lt_of_lt_of_le HLP.out hbw.size;have HX:Hid (∀Z:World,Below w.heap.size w Z->Calls Tryz.prog 213 #[.slice A1 2 (c - a)] Z (FO (e,tk,err) Z)):=λZ hz=>HX.out Z (hbw.trans (hz.mono hbw.size))
   have HBW:=Lib.hid hbw;clear hw hbw hbw1 HS1 HT0 HF0;go_upto_region 6 with fail
   refine rgn HSH λhHeld=>?_
   refine tS [0,1,2,3,4,5,6,7,8,9,10,11,12,13] ?_;iterate 14(refine tC ?_;refine ap ?_)
   refine tN ?_;refine tS [14] (tC (v:=.slice A1 2 (c - a)) (hy:=by refine Or.inl ⟨by rfl, ?_⟩;intro wq hSw;(try dsimp only at hSw);go_simp;first|done|(rw[<-HA1.out];done)|(rw[<-HA1.out];refine⟨rfl, ?_⟩;omega)) ?_)<;>refine ap (tN ?_)
   refine wpAnyH_ready (rs:=[15,20]) (by kernel_rfl) (by simp) ?_;refine(AllReadyH.cons rfl (λK hK=>?_) (AllReadyH.cons rfl (λK hK=>?_) AllReadyH.nil))
   ·skip
    go_simp;refine(HX.out _ (by exact bl)).mono ?_<;>rintro en w5 ⟨A5,c5,rfl,hE5,hb5⟩<;>have hz5:=hb5.size<;>have hb15:Below w.heap.size w w5:=(by first|exact(Below.drew (Below.refl _ w)).trans hb5|exact((Below.drew (Below.refl _ w)).alloc (Nat.le_refl _) _).trans (hb5.mono (by simp)))<;>have hz15:=hb15.size<;>(try have HKZ:Hid (Blk w5 w.heap.size 30 #[.string ⟨#[]⟩,.int .i64 0,.int .i64 0,.string ⟨#[]⟩,.string ⟨#[]⟩,.slice none 0 0]):=Blk.below (Blk.new' w.drew w.heap.size _ _ rfl) hb5 (by simp))
    go_wp2_with fail;refine hK.out _ _ (HSH.out _ (by exact bl)) λhHeld=>?_
    clear hK K;refine ap ?_;refine tS [16,17,18,19] ?_;iterate 4(refine tC ?_;refine ap ?_)
    refine tN ?_;refine rdy 20 λK hK=>?_
    go_simp
    skip
    go_wp2_with fail;refine hK.out _ _ (HSH.out _ (by exact bl)) λhHeld=>?_
    clear hK K;refine ap ?_;refine rdy 21 λK hK=>?_
    first
    |
     refine BL (by rfl) 30 _ _ rfl w5.heap.size (e.cells A5 c5).toArray rfl rfl 30 ⟨#[.string ⟨#[]⟩,.int .i64 0,.int .i64 0,.string ⟨#[]⟩,.string ⟨#[]⟩,.slice none 0 0],rfl,heap_alloc_last _ _⟩ Ef (Gz _ _ _) ?_;refine hK.out _ _ (HSH.out _ (Df (by exact bl) hb15.size _)) (λhHeld=>?_);clear hK K;refine ap ?_;obtain⟨w6,hw6⟩:∃x,World.setRow (w5.alloc (.cells #[.string ⟨#[]⟩,.int .i64 0,.int .i64 0,.string ⟨#[]⟩,.string ⟨#[]⟩,.slice none 0 0] 30)) w5.heap.size (e.cells A5 c5).toArray=x:=⟨_,rfl⟩;have hb6:Below w.heap.size w w6:=by rw[<-hw6];exact Df (by exact bl) hb15.size _
     have k6:Blk w6 w5.heap.size 30 (e.cells A5 c5).toArray:=by rw[<-hw6];exact Blk.row (heap_alloc_last _ _) _
     have hE6:=hE5.keep (Q':=λx=>w.heap.size<=x/\x<w6.heap.size) (w':=w6) λx hx=>⟨⟨by first|exact hx.1|(have:=hx.1;simp at this;omega),by rw[<-hw6,Bg];have:=hx.2;simp;omega⟩,λo=>by rw[<-hw6];exact Bf ((BI _ _ _ _ (by have:=hx.2;omega)).trans (Below.heap_alloc _ _ _ hx.2)) o⟩
     have hkw:w.heap.size<=w5.heap.size:=hb15.size;have hkl:w5.heap.size<w6.heap.size:=k6.lt;rw[hw6]at hHeld ⊢;obtain⟨k,hk⟩:∃k,w5.heap.size=k:=⟨_,rfl⟩;rw[hk]at k6 hkw hkl ⊢;clear hw6 hk
    |
     refine BL (by rfl) 30 _ _ rfl w.heap.size (e.cells A5 c5).toArray rfl rfl 30 ⟨#[.string ⟨#[]⟩,.int .i64 0,.int .i64 0,.string ⟨#[]⟩,.string ⟨#[]⟩,.slice none 0 0],rfl,HKZ.out⟩ Ef (Gz _ _ _) ?_;refine hK.out _ _ (HSH.out _ (Df hb15 (Nat.le_refl _) _)) (λhHeld=>?_);clear hK K;refine ap ?_;obtain⟨w6,hw6⟩:∃x,World.setRow w5 w.heap.size (e.cells A5 c5).toArray=x:=⟨_,rfl⟩;have hb6:Below w.heap.size w w6:=by rw[<-hw6];exact Df hb15 (Nat.le_refl _) _
     have k6:Blk w6 w.heap.size 30 (e.cells A5 c5).toArray:=by rw[<-hw6];exact Blk.row HKZ.out _
     have hE6:=hE5.keep (Q':=λx=>w.heap.size<=x/\x<w6.heap.size) (w':=w6) λx hx=>⟨⟨by have:=hx.1;simp at this;omega,by rw[<-hw6,Bg];exact hx.2⟩,λo=>by rw[<-hw6];exact Bf (BI _ _ _ _ (by have:=hx.1;simp at this;omega)) o⟩
     have hkw:w.heap.size<=w.heap.size:=Nat.le_refl _;have hkl:w.heap.size<w6.heap.size:=k6.lt;rw[hw6]at hHeld ⊢;obtain⟨k,hk⟩:∃k,w.heap.size=k:=⟨_,rfl⟩;rw[show Value.pointer (some ⟨w.heap.size,0,none⟩)=.pointer (some ⟨k,0,none⟩) by rw[hk]];rw[hk]at k6;have hkw:w.heap.size<=k:=Nat.le_of_eq hk;have hkl:k<w6.heap.size:=k6.lt;clear hw6 hk
    refine tS [22,23] ?_;iterate 2(refine tC ?_;refine ap ?_)
    refine tN ?_;refine wpAnyH_done (by kernel_rfl) ?_ _;have HRG:Hid (World.rangeAt w6 k 1 e.v.cells):=λj v hv=>by
     rw[k6.cell];rcases j with _|_|_|j
     ·exact hv
     ·exact hv
     ·exact hv
     ·simp[V.cells]at hv
    have HT6:=Lib.hid (HTH.out w6 hb6);have x1:w6.cell? ⟨g,1,none⟩=some (.int .i64 (a:Nat)):=(HSH.out w6 hb6).2;have f1:w6.frozen? ⟨g,1,none⟩=false:=by rw[(EJ hb6).2 g 1 lp];exact HF1.out
    have q0:w6.cell? ⟨k,0,none⟩=some (.string ⟨e.op.toArray⟩):=k6.cell 0;have HE6:=Lib.hid hE6;have HB6:=Lib.hid (HBW.out.trans (hb6.mono HBW.out.size));clear k6 hE5 hE6 hb5 hb15 hz5 hb6;by_cases he:err=0
    ·subst he;by_cases ht:tk=2
     ·subst ht;by_cases ho:e.op=[108,105,116]
      ·have hR:R=some (e.v,a+2):=by rw[<-HR.out,if_pos ⟨rfl,rfl,ho⟩]
       have eL:(e.op==[108,105,116])=true:=by rw[ho];rfl
       have eN:(e.op != [108,105,116])=false:=by rw[bne,eL];rfl
       subst hR;obtain⟨w7,hw7⟩:∃x,w6.setCells b o e.v.cells=x:=⟨_,rfl⟩;have x7:w7.cell? ⟨g,1,none⟩=some (.int .i64 (a:Nat)):=by
        rw[<-hw7,World.cell?_setCells_out _ _ _ _ _ (λh1 _=>absurd h1.symm HB.out)];exact x1
       have f7:w7.frozen? ⟨g,1,none⟩=false:=by rw[<-hw7,World.frozen?_setCells];exact f1
       have HW7:=Lib.hid hw7;clear hw7 x1 f1 ho HR;go_wp2_with (first|refine Bo (by rfl) 27 _ rfl k 1 rfl e.v.cells _ HRG.out Tryz.underlying27 rfl JD ?_|(refine wpList_store_mid rfl 27 _ _ rfl b o e.v.cells.toArray rfl rfl HT6.out JD (YU _) ?_;rw[show World.setCells w6 b o _=w7 from HW7.out]));go_ret;exact⟨w6,rfl,HB6.out,HE6.out.1.1,HE6.out.1.2.2.2,by rw[show World.setCells w6 b o _=w7 from HW7.out];go_num⟩
      ·have hR:R=none:=by rw[<-HR.out,if_neg (λh=>ho h.2.2)]
       have eL:(e.op==[108,105,116])=false:=by rw[beq_eq_false_iff_ne];exact ho
       have eN:(e.op != [108,105,116])=true:=by rw[bne,eL];rfl
       subst hR;clear x1 f1 ho HR;go_wp2_with fail;go_ret;exact⟨rfl,HB6.out⟩
     ·have hR:R=none:=by rw[<-HR.out,if_neg (λh=>ht h.2.1)]
      have e1:((tk:Int) != 2)=true:=by rw[bne_iff_ne];omega
      have e2:((tk:Int)==2)=false:=by rw[beq_eq_false_iff_ne];omega
      subst hR;clear x1 f1 ht HR q0;go_wp2_with fail;go_ret;exact⟨rfl,HB6.out⟩
    ·have hR:R=none:=by rw[<-HR.out,if_neg (λh=>he h.1)]
     have e1:(err != 0)=true:=by simpa using he
     subst hR;clear x1 f1 he HR q0;go_wp2_with fail;go_ret;exact⟨rfl,HB6.out⟩
   ·skip
    go_simp
    skip
    go_wp2_with fail;refine hK.out _ _ (HSH.out _ (by exact bl)) λhHeld=>?_
    clear hK K;refine ap ?_;refine rdy 15 λK hK=>?_
    go_simp;refine(HX.out _ (by exact bl)).mono ?_<;>rintro en w5 ⟨A5,c5,rfl,hE5,hb5⟩<;>have hz5:=hb5.size<;>have hb15:Below w.heap.size w w5:=(by first|exact(Below.drew (Below.refl _ w)).trans hb5|exact((Below.drew (Below.refl _ w)).alloc (Nat.le_refl _) _).trans (hb5.mono (by simp)))<;>have hz15:=hb15.size<;>(try have HKZ:Hid (Blk w5 w.heap.size 30 #[.string ⟨#[]⟩,.int .i64 0,.int .i64 0,.string ⟨#[]⟩,.string ⟨#[]⟩,.slice none 0 0]):=Blk.below (Blk.new' w.drew w.heap.size _ _ rfl) hb5 (by simp))
    go_wp2_with fail;refine hK.out _ _ (HSH.out _ (by exact bl)) λhHeld=>?_
    clear hK K;refine ap ?_;refine tS [16,17,18,19] ?_;iterate 4(refine tC ?_;refine ap ?_)
    refine tN ?_;refine rdy 21 λK hK=>?_
    first
    |
     refine BL (by rfl) 30 _ _ rfl w5.heap.size (e.cells A5 c5).toArray rfl rfl 30 ⟨#[.string ⟨#[]⟩,.int .i64 0,.int .i64 0,.string ⟨#[]⟩,.string ⟨#[]⟩,.slice none 0 0],rfl,heap_alloc_last _ _⟩ Ef (Gz _ _ _) ?_;refine hK.out _ _ (HSH.out _ (Df (by exact bl) hb15.size _)) (λhHeld=>?_);clear hK K;refine ap ?_;obtain⟨w6,hw6⟩:∃x,World.setRow (w5.alloc (.cells #[.string ⟨#[]⟩,.int .i64 0,.int .i64 0,.string ⟨#[]⟩,.string ⟨#[]⟩,.slice none 0 0] 30)) w5.heap.size (e.cells A5 c5).toArray=x:=⟨_,rfl⟩;have hb6:Below w.heap.size w w6:=by rw[<-hw6];exact Df (by exact bl) hb15.size _
     have k6:Blk w6 w5.heap.size 30 (e.cells A5 c5).toArray:=by rw[<-hw6];exact Blk.row (heap_alloc_last _ _) _
     have hE6:=hE5.keep (Q':=λx=>w.heap.size<=x/\x<w6.heap.size) (w':=w6) λx hx=>⟨⟨by first|exact hx.1|(have:=hx.1;simp at this;omega),by rw[<-hw6,Bg];have:=hx.2;simp;omega⟩,λo=>by rw[<-hw6];exact Bf ((BI _ _ _ _ (by have:=hx.2;omega)).trans (Below.heap_alloc _ _ _ hx.2)) o⟩
     have hkw:w.heap.size<=w5.heap.size:=hb15.size;have hkl:w5.heap.size<w6.heap.size:=k6.lt;rw[hw6]at hHeld ⊢;obtain⟨k,hk⟩:∃k,w5.heap.size=k:=⟨_,rfl⟩;rw[hk]at k6 hkw hkl ⊢;clear hw6 hk
    |
     refine BL (by rfl) 30 _ _ rfl w.heap.size (e.cells A5 c5).toArray rfl rfl 30 ⟨#[.string ⟨#[]⟩,.int .i64 0,.int .i64 0,.string ⟨#[]⟩,.string ⟨#[]⟩,.slice none 0 0],rfl,HKZ.out⟩ Ef (Gz _ _ _) ?_;refine hK.out _ _ (HSH.out _ (Df hb15 (Nat.le_refl _) _)) (λhHeld=>?_);clear hK K;refine ap ?_;obtain⟨w6,hw6⟩:∃x,World.setRow w5 w.heap.size (e.cells A5 c5).toArray=x:=⟨_,rfl⟩;have hb6:Below w.heap.size w w6:=by rw[<-hw6];exact Df hb15 (Nat.le_refl _) _
     have k6:Blk w6 w.heap.size 30 (e.cells A5 c5).toArray:=by rw[<-hw6];exact Blk.row HKZ.out _
     have hE6:=hE5.keep (Q':=λx=>w.heap.size<=x/\x<w6.heap.size) (w':=w6) λx hx=>⟨⟨by have:=hx.1;simp at this;omega,by rw[<-hw6,Bg];exact hx.2⟩,λo=>by rw[<-hw6];exact Bf (BI _ _ _ _ (by have:=hx.1;simp at this;omega)) o⟩
     have hkw:w.heap.size<=w.heap.size:=Nat.le_refl _;have hkl:w.heap.size<w6.heap.size:=k6.lt;rw[hw6]at hHeld ⊢;obtain⟨k,hk⟩:∃k,w.heap.size=k:=⟨_,rfl⟩;rw[show Value.pointer (some ⟨w.heap.size,0,none⟩)=.pointer (some ⟨k,0,none⟩) by rw[hk]];rw[hk]at k6;have hkw:w.heap.size<=k:=Nat.le_of_eq hk;have hkl:k<w6.heap.size:=k6.lt;clear hw6 hk
    refine tS [22,23] ?_;iterate 2(refine tC ?_;refine ap ?_)
    refine tN ?_;refine wpAnyH_done (by kernel_rfl) ?_ _;have HRG:Hid (World.rangeAt w6 k 1 e.v.cells):=λj v hv=>by
     rw[k6.cell];rcases j with _|_|_|j
     ·exact hv
     ·exact hv
     ·exact hv
     ·simp[V.cells]at hv
    have HT6:=Lib.hid (HTH.out w6 hb6);have x1:w6.cell? ⟨g,1,none⟩=some (.int .i64 (a:Nat)):=(HSH.out w6 hb6).2;have f1:w6.frozen? ⟨g,1,none⟩=false:=by rw[(EJ hb6).2 g 1 lp];exact HF1.out
    have q0:w6.cell? ⟨k,0,none⟩=some (.string ⟨e.op.toArray⟩):=k6.cell 0;have HE6:=Lib.hid hE6;have HB6:=Lib.hid (HBW.out.trans (hb6.mono HBW.out.size));clear k6 hE5 hE6 hb5 hb15 hz5 hb6;by_cases he:err=0
    ·subst he;by_cases ht:tk=2
     ·subst ht;by_cases ho:e.op=[108,105,116]
      ·have hR:R=some (e.v,a+2):=by rw[<-HR.out,if_pos ⟨rfl,rfl,ho⟩]
       have eL:(e.op==[108,105,116])=true:=by rw[ho];rfl
       have eN:(e.op != [108,105,116])=false:=by rw[bne,eL];rfl
       subst hR;obtain⟨w7,hw7⟩:∃x,w6.setCells b o e.v.cells=x:=⟨_,rfl⟩;have x7:w7.cell? ⟨g,1,none⟩=some (.int .i64 (a:Nat)):=by
        rw[<-hw7,World.cell?_setCells_out _ _ _ _ _ (λh1 _=>absurd h1.symm HB.out)];exact x1
       have f7:w7.frozen? ⟨g,1,none⟩=false:=by rw[<-hw7,World.frozen?_setCells];exact f1
       have HW7:=Lib.hid hw7;clear hw7 x1 f1 ho HR;go_wp2_with (first|refine Bo (by rfl) 27 _ rfl k 1 rfl e.v.cells _ HRG.out Tryz.underlying27 rfl JD ?_|(refine wpList_store_mid rfl 27 _ _ rfl b o e.v.cells.toArray rfl rfl HT6.out JD (YU _) ?_;rw[show World.setCells w6 b o _=w7 from HW7.out]));go_ret;exact⟨w6,rfl,HB6.out,HE6.out.1.1,HE6.out.1.2.2.2,by rw[show World.setCells w6 b o _=w7 from HW7.out];go_num⟩
      ·have hR:R=none:=by rw[<-HR.out,if_neg (λh=>ho h.2.2)]
       have eL:(e.op==[108,105,116])=false:=by rw[beq_eq_false_iff_ne];exact ho
       have eN:(e.op != [108,105,116])=true:=by rw[bne,eL];rfl
       subst hR;clear x1 f1 ho HR;go_wp2_with fail;go_ret;exact⟨rfl,HB6.out⟩
     ·have hR:R=none:=by rw[<-HR.out,if_neg (λh=>ht h.2.1)]
      have e1:((tk:Int) != 2)=true:=by rw[bne_iff_ne];omega
      have e2:((tk:Int)==2)=false:=by rw[beq_eq_false_iff_ne];omega
      subst hR;clear x1 f1 ht HR q0;go_wp2_with fail;go_ret;exact⟨rfl,HB6.out⟩
    ·have hR:R=none:=by rw[<-HR.out,if_neg (λh=>he h.1)]
     have e1:(err != 0)=true:=by simpa using he
     subst hR;clear x1 f1 he HR q0;go_wp2_with fail;go_ret;exact⟨rfl,HB6.out⟩
  ·rw[HL.out,if_neg hn]at hR;subst hR;have b0:(L:Int)<(a:Int)+2:=by omega
   have wr:IntKind.i64.wrap ((a:Int)+2)=(a:Int)+2:=IntWalk.i64_in _ (by omega);clear HR0 HX0 HX;refine rgn HS1 λhHeld=>?_
   refine tS [0,1,2,3,4,5,6,7,8,9,10,11] ?_;iterate 12(refine tC ?_;refine ap ?_)
   refine tN ?_;refine wpAnyH_done (by kernel_rfl) ?_ _;go_wp2_with fail;go_ret;exact⟨rfl,HB01.out.drew⟩
def KI(t:List UInt8)(n:Nat)(A:Option Addr)(c base:Nat)(vs:List V)(cs:Array Value)(w:World):Prop:=
 ∃A' c' b,cs=psC A n c b ((stI t vs).cells (pI A' c'))/\w.ownsRow base 27 3 (.slice A' vs.length c') vs.length (vs.flatMap V.cells)/\(∀v∈vs,Fq v.i/\v.s.length<=1000)/\base<=w.heap.size
theorem KI.stay{t:List UInt8}{n:Nat}{A:Option Addr}{c base g:Nat}(hg:g<base):Gs g (KI t n A c base):=λvs cs W W' b ⟨A',c',b0,h1,h2,h3,h4⟩ hb=>
 ⟨A',c',b,by rw[h1,Ad],DD h2 hb hg,h3,Nat.le_trans h4 hb.size⟩
theorem au:(Tryz.prog.info? 27).map (λi=>(i.zero,i.size,i.bytes))=some (some (.agg #[.int .i64 0,.int .i64 0,.string ⟨#[]⟩]),3,32):=by kernel_rfl
theorem Rh(g pv:Nat)(A:Option Addr)(c:Nat)(l:List Tok)(a:Nat)(cs:Array Value)(t:List UInt8)(vs:List V)(ws w:World)(hp:PsE g c l w)(ha:a<=l.length)(hP:PsS g A c l a cs w)(hv:ws.cell? ⟨pv,0,none⟩=some (.pointer (some ⟨g,0,none⟩)))(hpg:pv≠g)(hg:g<ws.heap.size)(hbs:But g ws w)(hn:vs.length<=990)(hK:KI t l.length A c ws.heap.size vs cs w):
  Calls Tryz.prog 170 #[.pointer (some ⟨pv,0,none⟩)] w (FP ((Dh l a).map λr=>(vs++[r.1],r.2)) g A c l (KI t l.length A c ws.heap.size) ws):=by
 have hpl:pv<ws.heap.size:=Ag hv;obtain⟨A',c',b0,rfl,hown,hfit,-⟩:=hK;obtain⟨sv,hsv⟩:∃v,Value.slice A' vs.length c'=v:=⟨_,rfl⟩;rw[hsv]at hown;have HC0:Hid (∀b,(Aa (psC A l.length c b0 ((stI t vs).cells (pI A' c'))) b)[16]? = some sv):=λb=>by rw[<-hsv,Ad];rfl
 have hc0:(psC A l.length c b0 ((stI t vs).cells (pI A' c')))[16]? = some sv:=by rw[<-hsv];rfl
 obtain⟨w0,hw0⟩:∃w0,w.alloc (.cells #[.int .i64 0,.int .i64 0,.string ⟨#[]⟩] 27)=w0:=⟨_,rfl⟩;have k0:Blk w0 w.heap.size 27 V.zero.cells.toArray:=by rw[<-hw0];exact Blk.new _ _ _
 have hb0:Below w.heap.size w w0:=by rw[<-hw0];exact bl
 have hgw0:g<w.heap.size:=hP.blk.lt;have hP0:=hP.below hb0;have HVC:=Lib.hid (Tn g A c l a _ w.heap.size 0 w0 (hp.below hb0 (Nat.le_of_lt hgw0)) ha hP0 (by omega) (Ky k0 (by decide)) k0.lt);have d0w:w0.cell? ⟨pv,0,none⟩=some (.pointer (some ⟨g,0,none⟩)):=(hb0.cell (p:=⟨pv,0,none⟩) (show pv<_ by have:=hbs.size;omega)).trans ((hbs.cell hpl hpg 0).trans hv);have hown0:w0.ownsRow ws.heap.size 27 3 sv vs.length (vs.flatMap V.cells):=CJ hown hb0;have HRW:Hid (∀k,sv.ownBlock=some k->k<w.heap.size):=λk hk=>(hown.lt k hk).2
 have HFT0:Hid (∀r,Dh l a=some r->True):=λ_ _=>trivial
 have HFV:=Lib.hid hfit;have HBS:=Lib.hid (hbs.trans (But.of_below (p:=g) hb0));have HGW:=Lib.hid hg;have HPW:=Lib.hid hpl;have HPG:=Lib.hid hpg;have HV0:=Lib.hid hv;have HSW:=Lib.hid hbs.size;have HW:=Lib.hid hw0;have HK0:=Lib.hid k0;have HP0:=Lib.hid hP0;have HO0:=Lib.hid hown0;have HG0:=Lib.hid hgw0;have HCF:Hid (∀(x:V) (b:Nat) (g5 cap:Nat),(Aa (psC A l.length c b0 ((stI t vs).cells (pI A' c'))) b).setIfInBounds 16 (.slice (some ⟨g5,0,none⟩) (vs.length+1) cap)=psC A l.length c b ((stI t (vs++[x])).cells (pI (some ⟨g5,0,none⟩) cap))):=λx b g5 cap=>by
  rw[Ad];simp only[psC,List.setIfInBounds_toArray];simp only[St.cells,stI,List.length_append,List.length_singleton];rfl
 obtain⟨cs0,hcs0⟩:∃x,psC A l.length c b0 ((stI t vs).cells (pI A' c'))=x:=⟨_,rfl⟩;rw[hcs0]at HC0 hc0 HP0 HCF;obtain⟨n,hN⟩:∃n,vs.length=n:=⟨_,rfl⟩;rw[hN]at HCF HO0 hn;have HN:=Lib.hid hN;have HC00:=Lib.hid hc0;obtain⟨o,ho⟩:∃o,Dh l a=o:=⟨_,rfl⟩;rw[ho]at HVC ⊢;clear ho hw0 k0 hP0 hown0 hcs0 hc0 hN hsv hown hfit hP hv hbs hp hb0 HFT0 hpl hpg hg hgw0;go_in
 go_upto_region 2 with fail
 rw[show w.alloc _=w0 from HW.out];clear HW;go_wp2_with fail;refine HVC.out.mono ?_;intro en w2 hr;have hg0:=HG0.out;have hpl0:=Ag d0w;obtain⟨x,a2,B,rfl,hP2,kv2,d0,hown2,hbut2,hres⟩:∃(x:V) (a2:Nat) (B:Bool),en=.returned (.bool B)/\PsS g A c l a2 (Aa cs0 a2) w2/\Blk w2 w.heap.size 27 x.cells.toArray/\w2.cell? ⟨pv,0,none⟩=some (.pointer (some ⟨g,0,none⟩))/\w2.ownsRow ws.heap.size 27 3 sv n (vs.flatMap V.cells)/\But g ws w2/\(o=none/\B=false\/o=some (x,a2)/\B=true/\Fq x.i/\x.s.length<=1000):=by
  cases o with
  |none=>
   obtain⟨rfl,hb2⟩:=hr;have hP:=HP0.out.below hb2;exact⟨V.zero,a,false,rfl,by rw[hP.self];exact hP,HK0.out.below hb2 HK0.out.lt,(hb2.cell (p:=⟨pv,0,none⟩) hpl0).trans d0w,CJ HO0.out hb2,HBS.out.trans (But.of_below hb2),.inl ⟨rfl,rfl⟩⟩
  |some r=>
   obtain⟨x,b'⟩:=r;obtain⟨w1,rfl,hb1,hf1,hf2,hw2⟩:=hr;have hlk:=HK0.out.lt;have hpvw:pv≠w.heap.size:=by have:=HSW.out;have:=HPW.out;omega
   have hpvg:=HPG.out;have hkk:∀k,sv.ownBlock=some k->k≠w.heap.size:=λk hk=>Nat.ne_of_lt (HRW.out k hk)
   refine⟨x,b',true,rfl, ?_, ?_, ?_, ?_, ?_,.inr ⟨rfl,rfl,hf1,hf2⟩⟩
   ·rw[hw2];exact((HP0.out.below hb1).farL hg0 x.cells 0).move b'
   ·rw[hw2];exact(Blk.setL x.cells 0 (HK0.out.below hb1 hlk)).far (p:=⟨g,1,none⟩) (by show w.heap.size≠g;omega) _
   ·rw[hw2,World.cell?_setCell_other _ _ _ _ (λe=>hpvg (congrArg Addr.block e).symm),World.cell?_setCells_out _ _ _ _ _ (λe _=>absurd e hpvw)];exact(hb1.cell (p:=⟨pv,0,none⟩) hpl0).trans d0w
   ·have h3:=((((CJ HO0.out hb1).kept (Nk w1 ⟨w.heap.size,0,none⟩ (.int .i64 x.k)) (.inr λe=>hkk _ e rfl)).kept (Nk _ ⟨w.heap.size,0+1,none⟩ (.int .i64 x.i)) (.inr λe=>hkk _ e rfl)).kept (Nk _ ⟨w.heap.size,0+1+1,none⟩ (.string ⟨x.s.toArray⟩)) (.inr λe=>hkk _ e rfl));have h4:=I7 h3 (p:=⟨g,1,none⟩) (λk hk _ e=>by have:=HGW.out;simp at e;omega) (.int .i64 (b':Nat));rw[hw2];exact h4
   ·have hsw:=HSW.out;have h3:=(((HBS.out.trans (But.of_below (p:=g) hb1)).own (g:=w.heap.size) hsw 0 (.int .i64 x.k)).own (g:=w.heap.size) hsw 1 (.int .i64 x.i)).own (g:=w.heap.size) hsw 2 (.string ⟨x.s.toArray⟩);rw[hw2];exact h3.set 1 _
 have hc16:=HC0.out a2;have HRES:=Lib.hid hres;clear hr hres HVC d0w hg0 hpl0;have x16:w2.cell? ⟨g,16,none⟩=some sv:=(hP2.blk.cell 16).trans hc16;have f16:=hP2.blk.frozen 16;have hlw:w.heap.size<w2.heap.size:=kv2.lt;have hgw:g<ws.heap.size:=HGW.out;have hpw:pv<ws.heap.size:=HPW.out;have hsw:ws.heap.size<=w.heap.size:=HSW.out;have HS2:Hid (∀Z:World,Below w2.heap.size w2 Z->(Z.cell? ⟨pv,0,none⟩=some (.pointer (some ⟨g,0,none⟩))/\Z.cell? ⟨w.heap.size,0,none⟩=some (.int .i64 x.k)/\Z.cell? ⟨w.heap.size,1,none⟩=some (.int .i64 x.i)/\Z.cell? ⟨w.heap.size,2,none⟩=some (.string ⟨x.s.toArray⟩))/\Z.cell? ⟨g,16,none⟩=some sv):=λZ hz=>
  ⟨⟨(hz.cell (p:=⟨pv,0,none⟩) (show pv<_ by omega)).trans d0,(kv2.below hz kv2.lt).cell 0,(kv2.below hz kv2.lt).cell 1,(kv2.below hz kv2.lt).cell 2⟩,(hz.cell (p:=⟨g,16,none⟩) (show g<_ by omega)).trans x16⟩
 have HC16:=Lib.hid hc16;have HP2:=Lib.hid hP2;have HOW:=Lib.hid hown2;have HOL:=Lib.hid hown2.lt;have HKV:=Lib.hid kv2;have HB2:=Lib.hid hbut2;obtain⟨i0,hi0,zi0,zi1,zi2⟩:=info_parts au;clear hP2 hown2 kv2 hbut2 hc16;go_upto_region 3 with fail
 clear d0 x16;refine Bl [12] (λZ=>(Z.cell? ⟨pv,0,none⟩=some (.pointer (some ⟨g,0,none⟩))/\Z.cell? ⟨w.heap.size,0,none⟩=some (.int .i64 x.k)/\Z.cell? ⟨w.heap.size,1,none⟩=some (.int .i64 x.i)/\Z.cell? ⟨w.heap.size,2,none⟩=some (.string ⟨x.s.toArray⟩))/\Z.cell? ⟨g,16,none⟩=some sv) (by kernel_rfl) ?_ (λhHeld=>?_)
 ·try dsimp only
  first|exact HS5.out|exact HS2.out _ (by exact bl)
 refine tI 0 12 [12] ?_;refine ap ?_;refine tI 1 12 [12] ?_;refine ap ?_;refine tI 2 12 [12] ?_;refine ap ?_;refine tI 3 12 [12] ?_;refine ap ?_;refine tI 4 12 [12] ?_;refine ap ?_;refine tI 5 12 [12] ?_;refine ap ?_;refine tI 6 12 [12] ?_;refine ap ?_;refine AV (rs:=[7]) (by kernel_rfl) (by simp) ?_;refine AC.consT rfl (λK hK=>?_) AC.nil;go_simp
 skip
 go_wp2_with fail;refine hK.out _ _ ?_ (λhHeld=>?_)
 ·try dsimp only
  first|exact HS5.out|exact HS2.out _ (by exact bl)
 clear hK K;refine ap ?_;refine AV (rs:=[8]) (by kernel_rfl) (by simp) ?_;refine AC.consT rfl (λK hK=>?_) AC.nil;refine step_append_lies _ rfl (.tmp 11) (.tmp 13) 31 rfl ws.heap.size 27 i0 _ 3 32 Tryz.underlying31 hi0 zi0 zi1 zi2 rfl (by decide) sv n (vs.flatMap V.cells) (by simp[Act.eval]) (HOW.out.drew.alloc _) ⟨w2.heap.size,0,none⟩ 1 1 x.cells (by simp[Act.eval]) rfl (World.news_of_block (cs:=x.cells.toArray) (t:=27) (fr:=(0,0)) (heap_alloc_new w2.drew _)) (λu hu=>Pg [x] u (by simpa using hu)) (by omega) (by unfold maxLen;omega) (by omega) (by simp;omega) _ rfl ?_;intro g5 cap w5 hown5 hg5 hor5 hl5;have hkv5:=(HKV.out.drew.alloc (.cells x.cells.toArray 27)).grown hg5 (λe=>(by have:=(HOL.out _ e.symm);have:=HRW.out _ e.symm;omega));have hP5:=(HP2.out.below (show Below w2.heap.size w2 (w2.drew.alloc (.cells x.cells.toArray 27)) by exact bl)).grown hg5 (λk hk=>(by have:=(HOL.out k hk).1;omega));have hbut5:But g ws w5:=FL (HB2.out.drew.alloc (.cells x.cells.toArray 27)) hg5 (λk hk=>(HOL.out k hk).1);have HS5:Hid ((w5.cell? ⟨pv,0,none⟩=some (.pointer (some ⟨g,0,none⟩))/\w5.cell? ⟨w.heap.size,0,none⟩=some (.int .i64 x.k)/\w5.cell? ⟨w.heap.size,1,none⟩=some (.int .i64 x.i)/\w5.cell? ⟨w.heap.size,2,none⟩=some (.string ⟨x.s.toArray⟩))/\w5.cell? ⟨g,16,none⟩=some sv):=⟨⟨(hbut5.cell hpw HPG.out 0).trans HV0.out,hkv5.cell 0,hkv5.cell 1,hkv5.cell 2⟩,(hP5.blk.cell 16).trans HC16.out⟩;have f16:=hP5.blk.frozen 16;have HP5:=Lib.hid hP5;have HB5:=Lib.hid hbut5;have HO5:=Lib.hid hown5;clear hP5 hbut5 hown5 hkv5 hg5 hor5;refine hK.out _ _ ?_ (λhHeld=>?_)
 ·try dsimp only
  first|exact HS5.out|exact HS2.out _ (by exact bl)
 clear hK K;refine ap ?_;refine tI 9 12 [10,11,12] ?_;refine ap ?_;refine tI 10 12 [11,12] ?_;refine ap ?_;refine tI 11 12 [12] ?_;refine ap ?_;refine AV (rs:=[12]) (by kernel_rfl) (by simp) ?_;refine AC.consD rfl (by decide) (λK hK=>?_) AC.nil
 skip
 go_simp;go_wp2_with fail;refine hK.out _ _ ?_;clear hK K;refine ap ?_;refine DI (by kernel_rfl) ?_ _;go_wp2_with fail;go_ret;rcases HRES.out with⟨ho,hB⟩|⟨ho,hB,hf1,hf2⟩
 ·subst hB ho;exact⟨rfl,HB5.out.set 16 _⟩
 ·subst hB ho;have hN:=HN.out;subst hN;refine⟨rfl,_,HP5.out.set 16 (by decide) _,⟨some ⟨g5,0,none⟩,cap,a2,HCF.out x a2 _ _,by simpa using I7 HO5.out (p:=⟨g,16,none⟩) (λk hk _ e=>by simp at e;omega) (.slice (some ⟨g5,0,none⟩) (vs.length+1) cap),λy hy=>?_,by simp;exact HB5.out.size⟩,HB5.out.set 16 _⟩;rcases List.mem_append.1 hy with h|h
  ·exact HFV.out y h
  ·rw[List.mem_singleton]at h;subst h;exact⟨hf1,hf2⟩
theorem WM(g pv ib:Nat)(A:Option Addr)(c:Nat)(l:List Tok)(a:Nat)(cs:Array Value)(t:List UInt8)(w:World)(hp:PsE g c l w)(ha:a<=l.length)(hP:PsS g A c l a cs w)(hcs:∃b,cs=psC A l.length c b ((stI t []).cells (pI none 0)))(hv:w.cell? ⟨pv,0,none⟩=some (.pointer (some ⟨g,0,none⟩)))(hpg:pv≠g)
 (hi:w.cell? ⟨ib,0,none⟩=some (.func (.func 170) #[] #[.pointer (some ⟨pv,0,none⟩)])):
  Calls Tryz.prog 172 #[.pointer (some ⟨pv,0,none⟩),.pointer (some ⟨ib,0,none⟩)] w (FP (Bd l (Dh l) (l.length+1) a) g A c l (KI t l.length A c w.heap.size) w):=by
 have hl:=hp.n;have hgl:=hP.blk.lt;have HL:=Lib.hid (Vl pv (Dh l) (KI t l.length A c w.heap.size) g A c l a cs w hp.n ha hP (KI.stay hP.blk.lt) (by obtain⟨b,rfl⟩:=hcs;exact⟨none,0,b,rfl,World.ownsRow_nil _ _ _ _,(λv hv=>by cases hv),Nat.le_refl _⟩) (λb r h=>NC h)
  (λxs b cs' W hW hx hb hPW hKW=>Rh g pv A c l b cs' t xs w W (hp.but hW) hb hPW hv hpg hgl hW (by omega) hKW))
 obtain⟨o,ho⟩:∃o,Bd l (Dh l) (l.length+1) a=o:=⟨_,rfl⟩;rw[ho]at HL ⊢;clear hp ha hP hcs hgl hl ho;go_in
 go_wp2_with fail;refine HL.out.mono ?_;intro en w1 hr;cases o with
 |none=>
  obtain⟨rfl,hb1⟩:=hr;have HB1:=Lib.hid hb1;clear hb1 HL;go_wp2_with fail;go_ret;exact⟨rfl,HB1.out⟩
 |some r=>
  obtain⟨rfl,h1⟩:=hr;have H1:=Lib.hid h1;clear h1 HL;go_wp2_with fail;go_ret;exact⟨rfl,H1.out⟩
theorem KJ{α:Type}{l:List Tok}{step:Nat->Option (α×Nat)}(hs:∀b r,step b=some r->r.2<=l.length):∀(f a:Nat) (r:List α×Nat),Bd l step f a=some r->r.2<=l.length
 |0,a,r,h=>by cases h
 |f+1,a,r,h=>by
  unfold Bd at h;cases hq:step a with
  |none=>rw[hq]at h;cases h
  |some q=>
   rw[hq]at h;simp only[Option.bind_some]at h;split at h
   ·cases hz:Bd l step f (q.2+1)with
    |none=>rw[hz]at h;cases h
    |some z=>
     rw[hz]at h
     injection h with h
     subst h;exact KJ hs f _ z hz
   ·injection h with h
    subst h;exact hs _ _ hq
theorem KI.from{t:List UInt8}{n:Nat}{A:Option Addr}{c B B':Nat}(hB:B'<=B)(vs:List V)(cs:Array Value)(w:World)(h:KI t n A c B vs cs w):KI t n A c B' vs cs w:=by
 obtain⟨A',c',b,h1,h2,h3,h4⟩:=h;exact⟨A',c',b,h1,⟨h2.1,h2.2.imp id λ⟨k,cap,cur,hv,hk,r⟩=>⟨k,cap,cur,hv,Nat.le_trans hB hk,r⟩⟩,h3,Nat.le_trans hB h4⟩
theorem aB{t:List UInt8}{vs:List V}(h1:t.length<=1000)(h2:∀v∈vs,Fq v.i/\v.s.length<=1000)(h3:vs.length<=1000):(stI t vs).Ok where
 op:=by show([105,110,115,101,114,116]:List UInt8).length<=1000;decide
 tb:=h1
 ot:=Nat.zero_le _
 key:=Nat.zero_le _
 role:=Nat.zero_le _
 nN:=Nat.zero_le _
 nC:=Nat.zero_le _
 nU:=Nat.zero_le _
 nR:=Nat.zero_le _
 nW:=h3
 nS:=Nat.zero_le _
 names:=λx hx=>by cases hx
 cols:=λx hx=>by cases hx
 uniq:=λx hx=>by cases hx
 refs:=λx hx=>by cases hx
 chk:=CX
 whr:=CX
 row:=h2
 sets:=λx hx=>by cases hx
 num:=⟨LP _,LP _,(λv hv=>(h2 v hv).1),(λx hx=>by cases hx)⟩
theorem Yc{t:List UInt8}{vs:List V}{A:Option Addr}{c B:Nat}{Q:Nat->Prop}{w:World}(h:w.ownsRow B 27 3 (.slice A vs.length c) vs.length (vs.flatMap V.cells))(hQ:∀b,B<=b->b<w.heap.size->Q b):StQ 1000 (stI t vs) (pI A c) Q w:=by
 obtain⟨A',c',he,-,-,hF⟩:=VS.own h
 injection he with e1 e2 e3
 subst e1;exact⟨SQ.nil,λh=>absurd h (by simp[stI]),SQ.nil,XQ.nil,⟨0,rfl⟩,WQ.ofF hF hQ,⟨0,ZQ.nil⟩,0,rfl⟩
theorem Ja{α:Type}{l:List Tok}{step:Nat->Option (α×Nat)}:∀(f a:Nat) (r:List α×Nat),Bd l step f a=some r->r.1.length<=f
 |0,a,r,h=>by cases h
 |f+1,a,r,h=>by
  unfold Bd at h;cases hq:step a with
  |none=>rw[hq]at h;cases h
  |some q=>
   rw[hq]at h;simp only[Option.bind_some]at h;split at h
   ·cases hz:Bd l step f (q.2+1)with
    |none=>rw[hz]at h;cases h
    |some z=>
     rw[hz]at h
     injection h with h
     subst h;have:=Ja f _ z hz;simp;omega
   ·injection h with h
    subst h;simp
theorem Tu{A A':Option Addr}{n c a b g:Nat}{l:List Tok}{vs:List Value}{w:World}(h:PsS g A' c l a (psC A n c b vs) w):b=a:=by
 have h1:(psC A n c b vs)[1]? = some (.int .i64 (b:Nat)):=rfl;have h2:=h1.symm.trans h.c1
 injection h2 with h2
 injection h2 with _ h2
 omega
theorem Nj(g:Nat)(A:Option Addr)(c:Nat)(l:List Tok)(w:World)(hp:PsE g c l w)(h:PsS g A c l 1 (psC A l.length c 1 ((stZ [] []).cells Cj)) w):
  Calls Tryz.prog 99 #[.pointer (some ⟨g,0,none⟩)] w (Fz (Gy l) g A c l w):=by
 have hn:=hp.n;have hs:=hp.s;have hgw:g<w.heap.size:=h.blk.lt;obtain⟨R,hR⟩:∃R,Gy l=R:=⟨_,rfl⟩;rw[hR];unfold Gy at hR;obtain⟨wa,hwa⟩:∃x,w.alloc (.cells #[.pointer (some ⟨g,0,none⟩)] 97)=x:=⟨_,rfl⟩;have kpa:Blk wa w.heap.size 97 #[.pointer (some ⟨g,0,none⟩)]:=by rw[<-hwa];exact Blk.new _ _ _
 have hba:Below w.heap.size w wa:=by rw[<-hwa];exact bl
 have hPa:=h.below hba;have x2:wa.cell? ⟨g,2,none⟩=some (.string ⟨#[]⟩):=hPa.blk.cell 2;have f2:=hPa.blk.frozen 2;have xp:wa.cell? ⟨w.heap.size,0,none⟩=some (.pointer (some ⟨g,0,none⟩)):=kpa.cell 0;obtain⟨wb,hwb⟩:∃x,wa.setCell ⟨g,2,none⟩ (.string ⟨([105,110,115,101,114,116]:List UInt8).toArray⟩)=x:=⟨_,rfl⟩;have hPb:PsS g A c l 1 (psC A l.length c 1 ((stI [] []).cells (pI none 0))) wb:=by
  have:=hPa.set 2 (Nat.le_refl _) (.string ⟨([105,110,115,101,114,116]:List UInt8).toArray⟩);rw[hwb,Ha]at this;exact this
 have hbb:But g w wb:=by rw[<-hwb];exact(But.of_below (p:=g) hba).set 2 _
 have kpb:Blk wb w.heap.size 97 #[.pointer (some ⟨g,0,none⟩)]:=by rw[<-hwb];exact kpa.far (p:=⟨g,2,none⟩) (by show w.heap.size≠g;omega) _
 obtain⟨wc,hwc⟩:∃x,wb.alloc (.cells #[.func (.func 170) #[] #[.pointer (some ⟨w.heap.size,0,none⟩)]] 47)=x:=⟨_,rfl⟩;have kf:Blk wc wb.heap.size 47 #[.func (.func 170) #[] #[.pointer (some ⟨w.heap.size,0,none⟩)]]:=by rw[<-hwc];exact Blk.new _ _ _
 have hbc:Below wb.heap.size wb wc:=by rw[<-hwc];exact bl
 have hPc:=hPb.below hbc;have kpc:=kpb.below hbc kpb.lt;have hbwc:But g w wc:=hbb.trans (But.of_below hbc);have hgc:g<wc.heap.size:=hPc.blk.lt;have hpe:=hp.but hbwc;have hpg:w.heap.size≠g:=by omega
 have hxb:w.heap.size<wc.heap.size:=kpc.lt;have hib:wb.heap.size<wc.heap.size:=kf.lt;have hgb:wb.heap.size≠g:=by have:=hPb.blk.lt;omega
 have HWA:=Lib.hid hwa;have HWB:=Lib.hid hwb;have HWC:=Lib.hid hwc;have HPV:Hid (∀Z:World,But g wc Z->Z.cell? ⟨w.heap.size,0,none⟩=some (.pointer (some ⟨g,0,none⟩))):=λZ hz=>(hz.cell hxb hpg 0).trans (kpc.cell 0)
 have HIV:Hid (∀Z:World,But g wc Z->Z.cell? ⟨wb.heap.size,0,none⟩=some (.func (.func 170) #[] #[.pointer (some ⟨w.heap.size,0,none⟩)])):=λZ hz=>(hz.cell hib hgb 0).trans (kf.cell 0)
 obtain⟨cs2,hcs⟩:∃x,psC A l.length c 1 ((stI [] []).cells (pI none 0))=x:=⟨_,rfl⟩;rw[hcs]at hPc;have HP1:Hid (∀Z:World,Below wc.heap.size wc Z->PsS g A c l 1 cs2 Z):=λZ hz=>hPc.below hz
 have HC3:Hid ((Aa cs2 2)[3]? = some (.string ⟨(([]:List UInt8)).toArray⟩)):=by rw[<-hcs,Ad];rfl
 have HCS:Hid (∀t b,Aa (cs2.setIfInBounds 3 (.string ⟨(t:List UInt8).toArray⟩)) b=psC A l.length c b ((stI t []).cells (pI none 0))):=λt b=>by rw[<-hcs];exact(congrArg (Aa · b) (Iy A l.length c 1 [105,110,115,101,114,116] t [] ex0 none 0)).trans (Ad _ _ _ _ _ _)
 obtain⟨B1,hB1⟩:∃B,hit l 1 [73,78,84,79]=B:=⟨_,rfl⟩;obtain⟨ON,hON⟩:∃x,AO l 2=x:=⟨_,rfl⟩;obtain⟨B3,hB3⟩:∃B,hit l 3 [86,65,76,85,69,83]=B:=⟨_,rfl⟩;have hR:(if B1 then ON.bind λt=>if B3 then(Ae l 4 (Bd l (Dh l) (l.length+1) 5)).map λr=>(stI t r.1,r.2)else none else none)=R:=by
  rw[<-hR,hB1,hON,hB3];unfold Ae;refine congrArg (λf=>if B1=true then ON.bind f else none) (funext λt=>?_);split
  ·split
   ·cases Bd l (Dh l) (l.length+1) 5 with
    |none=>rfl
    |some r=>simp only[Option.bind_some];split<;>rfl
   ·rfl
  ·rfl
 have HC1:Hid (∀(Z:World) (b:Nat),PsS g A c l 1 cs2 Z->Z.cell? ⟨b,0,none⟩=some (.string ⟨([73,78,84,79]:List UInt8).toArray⟩)->b≠g->Calls Tryz.prog 160 #[.pointer (some ⟨g,0,none⟩),.slice (some ⟨b,0,none⟩) 1 1] Z (EO B1 g A c l (1+B1.toNat) (Aa cs2 (1+B1.toNat)) Z)):=λZ b h1 h2 h3=>by
  have:=CG g A c l 1 cs2 [73,78,84,79] b 1 Z (by decide) h1 h2 h3;rw[hB1]at this;exact this
 have HC2:Hid (∀Z:World,PsS g A c l 2 (Aa cs2 2) Z->Calls Tryz.prog 161 #[.pointer (some ⟨g,0,none⟩),.pointer (some ⟨g,3,none⟩)] Z (IJ ON 3 g A c l 2 (Aa cs2 2) Z)):=λZ h1=>by
  have:=Bv g A c l 2 (Aa cs2 2) 3 [] Z (by decide) h1 (by decide) HC3.out hs;rw[hON]at this;exact this
 have HCW:Hid (∀(Z:World) (b:Nat) (cs:Array Value),PsS g A c l 3 cs Z->Z.cell? ⟨b,0,none⟩=some (.string ⟨([86,65,76,85,69,83]:List UInt8).toArray⟩)->b≠g->Calls Tryz.prog 160 #[.pointer (some ⟨g,0,none⟩),.slice (some ⟨b,0,none⟩) 1 1] Z (EO B3 g A c l (3+B3.toNat) (Aa cs (3+B3.toNat)) Z)):=λZ b cs h1 h2 h3=>by
  have:=CG g A c l 3 cs [86,65,76,85,69,83] b 1 Z (by decide) h1 h2 h3;rw[hB3]at this;exact this
 have HC4:Hid (B3=true->∀(Z:World) (t:List UInt8),But g wc Z->PsS g A c l 4 (psC A l.length c 4 ((stI t []).cells (pI none 0))) Z->Calls Tryz.prog 164 #[.pointer (some ⟨g,0,none⟩),.func (.func 172) #[] #[.pointer (some ⟨w.heap.size,0,none⟩),.pointer (some ⟨wb.heap.size,0,none⟩)]] Z (FP (Ae l 4 (Bd l (Dh l) (l.length+1) 5)) g A c l (KI t l.length A c Z.heap.size) Z)):=λh3 Z t hz h4=>by
  have h4l:4<=l.length:=by have:=DZ (l:=l) (a:=3) (s:=[86,65,76,85,69,83]) (hB3.trans h3);omega
  refine Qs w.heap.size wb.heap.size _ _ g A c l 4 _ Z hn h4l h4 (KI.stay h4.blk.lt) (λ_ r hr=>KJ (λb r h=>(NC h).2) _ _ r hr) λW hW h5 hPW=>?_
  exact(WM g w.heap.size wb.heap.size A c l 5 _ t W (hpe.but (hz.trans hW)) h5 hPW ⟨5,rfl⟩ (HPV.out W (hz.trans hW)) hpg (HIV.out W (hz.trans hW))).mono λen w' hr=>hr.imp (But.refl _ _) (KI.from hW.size)
 have HS0:Hid (∀Z:World,Below wc.heap.size wc Z->Z.cell? ⟨w.heap.size,0,none⟩=some (.pointer (some ⟨g,0,none⟩))):=λZ hz=>HPV.out Z (But.of_below hz)
 have HNL:Hid (∀t,ON=some t->t.length<=1000):=λt ht=>by
  obtain⟨y,hy,rfl⟩:=Bj (hON.trans ht);exact hs y hy
 have HLL:Hid (∀r,Ae l 4 (Bd l (Dh l) (l.length+1) 5)=some r->r.1.length<=1000):=λr hr=>by
  unfold Ae at hr;split at hr
  ·cases hz:Bd l (Dh l) (l.length+1) 5 with
   |none=>rw[hz]at hr;cases hr
   |some z=>
    rw[hz]at hr;simp only[Option.bind_some]at hr;split at hr
    ·injection hr with hr
     subst hr;have:=Ja _ _ z hz;simp only;omega
    ·cases hr
  ·cases hr
 obtain⟨O4,hO4⟩:∃x,Ae l 4 (Bd l (Dh l) (l.length+1) 5)=x:=⟨_,rfl⟩;rw[hO4]at HC4 hR HLL;have HR:=Lib.hid hR;have HBW:=Lib.hid hbwc;clear hR hO4 hON hB1 hB3 hcs hPb hPa hPc kpa kpb kpc kf hba hbb hbc hbwc hwa hwb hwc hp h hs hpe;go_in
 go_upto_region 1 with fail
 rw[show w.alloc _=wa from HWA.out];go_upto_region 2 with fail
 rw[show World.setCell wa _ _=wb from HWB.out];clear x2 f2;go_upto_region 3 with fail
 rw[show World.alloc wb _=wc from HWC.out];clear HWA HWB HWC xp;refine wp_region_held_drew (S:=(λZ=>Z.cell? ⟨w.heap.size,0,none⟩=some (.pointer (some ⟨g,0,none⟩)))) (by kernel_rfl) ?_ (λhHeld=>?_)
 ·try dsimp only
  first|exact HS0.out _ (by exact bl)|exact HPV.out _ (hc2.trans (But.of_below (by exact bl)))|exact HPV.out _ (hc9.trans (But.of_below (by exact bl)))|exact HPV.out _ (hc14.trans (But.of_below (by exact bl)))|exact HPV.out _ (hc19.trans (But.of_below (by exact bl)))
 refine tS [0] (tC ?_);refine ap (tN ?_);refine rdy 1 λK hK=>?_
 go_simp
 skip
 go_wp2_with fail;refine hK.out _ _ ?_ (λhHeld=>?_)
 ·try dsimp only
  first|exact HS0.out _ (by exact bl)|exact HPV.out _ (hc2.trans (But.of_below (by exact bl)))|exact HPV.out _ (hc9.trans (But.of_below (by exact bl)))|exact HPV.out _ (hc14.trans (But.of_below (by exact bl)))|exact HPV.out _ (hc19.trans (But.of_below (by exact bl)))
 clear hK K;refine ap ?_;cases B1 with
 |false=>
  have hR:R=none:=HR.out.symm;subst hR;refine rdy 2 λK hK=>?_
  go_simp;refine(HC1.out _ _ (HP1.out _ (by exact bl)) ((Blk.new' _ _ _ _ rfl).cell 0) (by omega)).mono ?_<;>rintro en w2 ⟨rfl,hP2,hb2⟩<;>have hc2:But g wc w2:=But.trans (But.of_below (by exact bl)) hb2<;>have hg2:g<w2.heap.size:=hP2.blk.lt<;>(try have HP2:Hid (PsS g A c l 2 (Aa cs2 2) w2):=hP2)<;>clear hP2 hb2
  go_wp2_with fail;refine hK.out _ _ ?_ (λhHeld=>?_)
  ·try dsimp only
   first|exact HS0.out _ (by exact bl)|exact HPV.out _ (hc2.trans (But.of_below (by exact bl)))|exact HPV.out _ (hc9.trans (But.of_below (by exact bl)))|exact HPV.out _ (hc14.trans (But.of_below (by exact bl)))|exact HPV.out _ (hc19.trans (But.of_below (by exact bl)))
  clear hK K;refine ap ?_;refine tS [3] (tC ?_);refine ap (tN ?_);refine tS [4,5,6,7,8,9] ?_;iterate 6(refine tX ?_;refine ap ?_)
  refine tN ?_;refine tS [10,11] ?_;iterate 2(refine tC ?_;refine ap ?_)
  refine tN ?_;refine tS [12,13,14] ?_;iterate 3(refine tX ?_;refine ap ?_)
  refine tN ?_;refine tS [15,16] ?_;iterate 2(refine tC ?_;refine ap ?_)
  refine tN ?_;refine tS [17,18,19] ?_;iterate 3(refine tX ?_;refine ap ?_)
  refine tN ?_;refine tS [20,21] ?_;iterate 2(refine tC ?_;refine ap ?_)
  refine tN ?_;refine wpAnyH_done (by kernel_rfl) ?_ _;go_wp2_with fail;go_ret;exact⟨rfl,HBW.out.trans hc2⟩
 |true=>
  have HR:Hid ((ON.bind λt=>if B3 then O4.map λr=>(stI t r.1,r.2)else none)=R):=HR.out;refine rdy 2 λK hK=>?_
  go_simp;refine(HC1.out _ _ (HP1.out _ (by exact bl)) ((Blk.new' _ _ _ _ rfl).cell 0) (by omega)).mono ?_<;>rintro en w2 ⟨rfl,hP2,hb2⟩<;>have hc2:But g wc w2:=But.trans (But.of_below (by exact bl)) hb2<;>have hg2:g<w2.heap.size:=hP2.blk.lt<;>(try have HP2:Hid (PsS g A c l 2 (Aa cs2 2) w2):=hP2)<;>clear hP2 hb2
  go_wp2_with fail;refine hK.out _ _ ?_ (λhHeld=>?_)
  ·try dsimp only
   first|exact HS0.out _ (by exact bl)|exact HPV.out _ (hc2.trans (But.of_below (by exact bl)))|exact HPV.out _ (hc9.trans (But.of_below (by exact bl)))|exact HPV.out _ (hc14.trans (But.of_below (by exact bl)))|exact HPV.out _ (hc19.trans (But.of_below (by exact bl)))
  clear hK K;refine ap ?_;refine tS [3,4,5,6,7,8] ?_;iterate 6(refine tC ?_;refine ap ?_)
  refine tN ?_;cases ON with
  |none=>
   have hR:R=none:=HR.out.symm;subst hR;refine rdy 9 λK hK=>?_
   go_simp;refine(HC2.out _ (HP2.out.below (by exact bl))).mono ?_<;>rintro en w9 ⟨rfl,hP9,hb9⟩<;>have hc9:But g wc w9:=But.trans (But.trans hc2 (But.of_below (by exact bl))) hb9<;>have HP9:=Lib.hid hP9<;>have hg9:g<w9.heap.size:=hP9.blk.lt<;>clear hP9 hb9
   go_wp2_with fail;refine hK.out _ _ ?_ (λhHeld=>?_)
   ·try dsimp only
    first|exact HS0.out _ (by exact bl)|exact HPV.out _ (hc2.trans (But.of_below (by exact bl)))|exact HPV.out _ (hc9.trans (But.of_below (by exact bl)))|exact HPV.out _ (hc14.trans (But.of_below (by exact bl)))|exact HPV.out _ (hc19.trans (But.of_below (by exact bl)))
   clear hK K;refine ap ?_;refine tS [10,11] ?_;iterate 2(refine tC ?_;refine ap ?_)
   refine tN ?_;refine tS [12,13,14] ?_;iterate 3(refine tX ?_;refine ap ?_)
   refine tN ?_;refine tS [15,16] ?_;iterate 2(refine tC ?_;refine ap ?_)
   refine tN ?_;refine tS [17,18,19] ?_;iterate 3(refine tX ?_;refine ap ?_)
   refine tN ?_;refine tS [20,21] ?_;iterate 2(refine tC ?_;refine ap ?_)
   refine tN ?_;refine wpAnyH_done (by kernel_rfl) ?_ _;go_wp2_with fail;go_ret;exact⟨rfl,HBW.out.trans hc9⟩
  |some t=>
   have HR:Hid ((if B3 then O4.map λr=>(stI t r.1,r.2)else none)=R):=HR.out;refine rdy 9 λK hK=>?_
   go_simp;refine(HC2.out _ (HP2.out.below (by exact bl))).mono ?_<;>rintro en w9 ⟨rfl,hP9,hb9⟩<;>have hc9:But g wc w9:=But.trans (But.trans hc2 (But.of_below (by exact bl))) hb9<;>have HP9:=Lib.hid hP9<;>have hg9:g<w9.heap.size:=hP9.blk.lt<;>clear hP9 hb9
   go_wp2_with fail;refine hK.out _ _ ?_ (λhHeld=>?_)
   ·try dsimp only
    first|exact HS0.out _ (by exact bl)|exact HPV.out _ (hc2.trans (But.of_below (by exact bl)))|exact HPV.out _ (hc9.trans (But.of_below (by exact bl)))|exact HPV.out _ (hc14.trans (But.of_below (by exact bl)))|exact HPV.out _ (hc19.trans (But.of_below (by exact bl)))
   clear hK K;refine ap ?_;refine tS [10,11,12] ?_;iterate 3(refine tC ?_;refine ap ?_)
   refine tN ?_;refine rdy 13 λK hK=>?_
   go_simp
   skip
   go_wp2_with fail;refine hK.out _ _ ?_ (λhHeld=>?_)
   ·try dsimp only
    first|exact HS0.out _ (by exact bl)|exact HPV.out _ (hc2.trans (But.of_below (by exact bl)))|exact HPV.out _ (hc9.trans (But.of_below (by exact bl)))|exact HPV.out _ (hc14.trans (But.of_below (by exact bl)))|exact HPV.out _ (hc19.trans (But.of_below (by exact bl)))
   clear hK K;refine ap ?_;cases B3 with
   |false=>
    have hR:R=none:=HR.out.symm;subst hR;refine rdy 14 λK hK=>?_
    go_simp;refine(HCW.out _ _ _ (PsS.below HP9.out (by exact bl)) ((Blk.new' _ _ _ _ rfl).cell 0) (by omega)).mono ?_<;>rintro en w14 ⟨rfl,hP14,hb14⟩<;>have hc14:But g wc w14:=But.trans (But.trans hc9 (But.of_below (by exact bl))) hb14<;>(try rw[AQ,Dp _ _ _ _ (by decide),AQ,HCS.out]at hP14)<;>have HP14:=Lib.hid hP14<;>have hg14:g<w14.heap.size:=hP14.blk.lt<;>clear hP14 hb14
    go_wp2_with fail;refine hK.out _ _ ?_ (λhHeld=>?_)
    ·try dsimp only
     first|exact HS0.out _ (by exact bl)|exact HPV.out _ (hc2.trans (But.of_below (by exact bl)))|exact HPV.out _ (hc9.trans (But.of_below (by exact bl)))|exact HPV.out _ (hc14.trans (But.of_below (by exact bl)))|exact HPV.out _ (hc19.trans (But.of_below (by exact bl)))
    clear hK K;refine ap ?_;refine tS [15,16] ?_;iterate 2(refine tC ?_;refine ap ?_)
    refine tN ?_;refine tS [17,18,19] ?_;iterate 3(refine tX ?_;refine ap ?_)
    refine tN ?_;refine tS [20,21] ?_;iterate 2(refine tC ?_;refine ap ?_)
    refine tN ?_;refine wpAnyH_done (by kernel_rfl) ?_ _;go_wp2_with fail;go_ret;exact⟨rfl,HBW.out.trans hc14⟩
   |true=>
    have HR:Hid ((O4.map λr=>(stI t r.1,r.2))=R):=HR.out;have HC5:=Lib.hid (HC4.out (by first|rfl|trivial));refine rdy 14 λK hK=>?_
    go_simp;refine(HCW.out _ _ _ (PsS.below HP9.out (by exact bl)) ((Blk.new' _ _ _ _ rfl).cell 0) (by omega)).mono ?_<;>rintro en w14 ⟨rfl,hP14,hb14⟩<;>have hc14:But g wc w14:=But.trans (But.trans hc9 (But.of_below (by exact bl))) hb14<;>(try rw[AQ,Dp _ _ _ _ (by decide),AQ,HCS.out]at hP14)<;>have HP14:=Lib.hid hP14<;>have hg14:g<w14.heap.size:=hP14.blk.lt<;>clear hP14 hb14
    go_wp2_with fail;refine hK.out _ _ ?_ (λhHeld=>?_)
    ·try dsimp only
     first|exact HS0.out _ (by exact bl)|exact HPV.out _ (hc2.trans (But.of_below (by exact bl)))|exact HPV.out _ (hc9.trans (But.of_below (by exact bl)))|exact HPV.out _ (hc14.trans (But.of_below (by exact bl)))|exact HPV.out _ (hc19.trans (But.of_below (by exact bl)))
    clear hK K;refine ap ?_;refine tS [15,16,17] ?_;iterate 3(refine tC ?_;refine ap ?_)
    refine tN ?_;refine rdy 18 λK hK=>?_
    go_simp
    skip
    go_wp2_with fail;refine hK.out _ _ ?_ (λhHeld=>?_)
    ·try dsimp only
     first|exact HS0.out _ (by exact bl)|exact HPV.out _ (hc2.trans (But.of_below (by exact bl)))|exact HPV.out _ (hc9.trans (But.of_below (by exact bl)))|exact HPV.out _ (hc14.trans (But.of_below (by exact bl)))|exact HPV.out _ (hc19.trans (But.of_below (by exact bl)))
    clear hK K;refine ap ?_;cases O4 with
    |none=>
     have hR:R=none:=HR.out.symm;subst hR;refine rdy 19 λK hK=>?_
     go_simp;refine(HC5.out _ t (But.trans hc14 (But.of_below (by exact bl))) (HP14.out.below (by exact bl))).mono ?_<;>rintro en w19 ⟨rfl,hr19⟩<;>have hc19:But g wc w19:=But.trans (But.trans hc14 (But.of_below (by exact bl))) (by first|exact hr19|(obtain⟨_,_,_,h⟩:=hr19;exact h))
     go_wp2_with fail;refine hK.out _ _ ?_ (λhHeld=>?_)
     ·try dsimp only
      first|exact HS0.out _ (by exact bl)|exact HPV.out _ (hc2.trans (But.of_below (by exact bl)))|exact HPV.out _ (hc9.trans (But.of_below (by exact bl)))|exact HPV.out _ (hc14.trans (But.of_below (by exact bl)))|exact HPV.out _ (hc19.trans (But.of_below (by exact bl)))
     clear hK K;refine ap ?_;refine tS [20,21] ?_;iterate 2(refine tC ?_;refine ap ?_)
     refine tN ?_;refine wpAnyH_done (by kernel_rfl) ?_ _;go_wp2_with fail;go_ret;exact⟨rfl,HBW.out.trans hc19⟩
    |some r=>
     obtain⟨vs,b'⟩:=r;have hR:R=some (stI t vs,b'):=HR.out.symm;subst hR;refine rdy 19 λK hK=>?_
     go_simp;refine(HC5.out _ t (But.trans hc14 (But.of_below (by exact bl))) (HP14.out.below (by exact bl))).mono ?_<;>rintro en w19 ⟨rfl,hr19⟩<;>have hc19:But g wc w19:=But.trans (But.trans hc14 (But.of_below (by exact bl))) (by first|exact hr19|(obtain⟨_,_,_,h⟩:=hr19;exact h))
     go_wp2_with fail;refine hK.out _ _ ?_ (λhHeld=>?_)
     ·try dsimp only
      first|exact HS0.out _ (by exact bl)|exact HPV.out _ (hc2.trans (But.of_below (by exact bl)))|exact HPV.out _ (hc9.trans (But.of_below (by exact bl)))|exact HPV.out _ (hc14.trans (But.of_below (by exact bl)))|exact HPV.out _ (hc19.trans (But.of_below (by exact bl)))
     clear hK K;refine ap ?_;refine tS [20,21] ?_;iterate 2(refine tC ?_;refine ap ?_)
     refine tN ?_;refine wpAnyH_done (by kernel_rfl) ?_ _;obtain⟨cs19,hP19,hK19,hb19⟩:=hr19;have HK19:=Lib.hid (KI.from (B':=w.heap.size) (by have:=hc14.size;have:=HBW.out.size;omega) _ _ _ hK19);have HP19:=Lib.hid hP19;clear hK19 hP19;go_wp2_with fail;go_ret;obtain⟨A',c',b2,rfl,hown,hfit,-⟩:=HK19.out;obtain rfl:=Tu HP19.out;exact⟨pI A' c',rfl,HP19.out,Yc hown (λb h1 h2=>⟨h1,h2⟩),aB (HNL.out t rfl) hfit (HLL.out _ rfl),HBW.out.trans hc19⟩
end Go.Proofs.YtchilcchogcibaaGreatDoor
