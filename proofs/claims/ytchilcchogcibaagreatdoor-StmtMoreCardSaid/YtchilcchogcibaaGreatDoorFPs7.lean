/- The statement parser's expr, value and where, as plain functions; The statement parser's where, and what stands behind SELECT, DELETE and DROP, as plain functions. -/
import Derived.Test.YtchilcchogcibaaGreatDoorFPs5
set_option maxRecDepth 100000
set_option maxHeartbeats 4000000
namespace Go.Proofs.YtchilcchogcibaaGreatDoor
section
open Go.RowKit
attribute [local go_sem] ByteArray.extract_mk Ak AY
attribute [local go_sem ↓] Go.wp_at_zero Go.wp_at_succ CY CE
def Gm(cs:Array Value):Nat->List Value->Array Value
 |_,[]=>cs
 |o,v::r=>Gm (cs.setIfInBounds o v) (o+1) r
theorem Blk.setL{t:TypeId}{b:Nat}:∀(vs:List Value) (o:Nat) {w:World} {cs:Array Value},Blk w b t cs->Blk (w.setCells b o vs) b t (Gm cs o vs)
 |[],_,_,_,h=>h
 |v::r,o,_,_,h=>Blk.setL r (o+1) (h.set_ o v)
theorem Blk.farL{t:TypeId}{b k:Nat}(hk:k≠b):∀(vs:List Value) (o:Nat) {w:World} {cs:Array Value},Blk w k t cs->Blk (w.setCells b o vs) k t cs
 |[],_,_,_,h=>h
 |v::r,o,_,_,h=>Blk.farL hk r (o+1) (h.far (p:=⟨b,o,none⟩) hk v)
theorem PsS.setL{g:Nat}{A:Option Addr}{c:Nat}{l:List Tok}{a:Nat}:∀(vs:List Value) (o:Nat) {cs:Array Value} {w:World},2<=o->PsS g A c l a cs w->PsS g A c l a (Gm cs o vs) (w.setCells g o vs)
 |[],_,_,_,_,h=>h
 |v::r,o,_,_,ho,h=>PsS.setL r (o+1) (by omega) (h.set o ho v)
theorem PsS.farL{g b:Nat}(hb:g<b){A:Option Addr}{c:Nat}{l:List Tok}{a:Nat}{cs:Array Value}:∀(vs:List Value) (o:Nat) {w:World},PsS g A c l a cs w->PsS g A c l a cs (w.setCells b o vs)
 |[],_,_,h=>h
 |v::r,o,_,h=>PsS.farL hb r (o+1) ⟨h.blk.far (p:=⟨b,o,none⟩) (Nat.ne_of_lt hb) v,h.c0,h.c1,h.tk.below (bwS bwR (Nat.le_of_lt hb))⟩
theorem But.setL{g:Nat}{w:World}:∀(vs:List Value) (o:Nat) {w':World},But g w w'->But g w (w'.setCells g o vs)
 |[],_,_,h=>h
 |v::r,o,_,h=>But.setL r (o+1) (h.set o v)
def ErG(g:Nat)(w:World):Prop:=∃W0:World,JP W0/\W0.heap.size<=g/\Below W0.heap.size W0 w
theorem ErG.out{g:Nat}{w:World}(h:ErG g w):JP w:=by
 obtain⟨W0,h1,_,h3⟩:=h;exact h1.below h3 rfl
theorem ErG.below{g B:Nat}{w w':World}(h:ErG g w)(hb:Below B w w')(hB:g<=B):ErG g w':=by
 obtain⟨W0,h1,h2,h3⟩:=h;exact⟨W0,h1,h2,h3.trans (hb.mono (by omega))⟩
theorem ErG.but{g:Nat}{w w':World}(h:ErG g w)(hb:But g w w'):ErG g w':=by
 obtain⟨W0,h1,h2,h3⟩:=h;exact⟨W0,h1,h2,But.inside h3 h2 hb⟩
theorem Ug{w:World}{B:Nat}{A:Option Addr}{l:List Tok}{a c:Nat}(h:TkS w B A l)(hc:l.length<=c):TkS w B (if c=a then A else A.map (·.add (a * 2))) (l.drop a):=by
 intro hl;rw[List.length_drop]at hl;obtain⟨b,o,rfl,hb,hr⟩:=h (by omega);rw[if_neg (by omega)];refine⟨b,o+a * 2,by rw[Option.map_some,Addr.add_mid],hb,λi v hv=>?_⟩;rw[List.getElem?_drop]at hv;have:=hr (a+i) v hv;rw[show o+(a+i) * 2=o+a * 2+i * 2 by omega]at this;exact this
theorem PG(l:List Tok)(hll:l.length<=990)(hl:∀t∈l,t.s.length<=1000000):(ED l).2.1<=l.length:=by
 unfold ED;split
 ·exact((LK 0 none 0 l hll hl 65536 0 rfl).2.1 0 (Nat.zero_le _)).2
 ·exact Nat.zero_le _
def Dc(l:List Tok)(a:Nat):Option (Ex×Nat):=if (ED (l.drop a)).2.2=0 then some ((ED (l.drop a)).1,a+(ED (l.drop a)).2.1)else none
def RetXr(r:Option (Ex×Nat))(g b o:Nat)(w:World)(en:Ending)(w':World):Prop:=
 match r with
 |none=>en=.returned (.bool false)/\Below w.heap.size w w'
 |some r=>∃A' c' w1,en=.returned (.bool true)/\Below w.heap.size w w1/\ExR (λk=>w.heap.size<=k/\k<w1.heap.size) r.1 A' c' w1/\w'=(w1.setCells b o (r.1.cells A' c')).setCell ⟨g,1,none⟩ (.int .i64 (r.2:Nat))
theorem Bf{w w':World}{k:Nat}(h:w'.heap[k]? = w.heap[k]?)(o:Nat):w'.cell? ⟨k,o,none⟩=w.cell? ⟨k,o,none⟩:=by unfold World.cell?;rw[h]
theorem Lj{w:World}{k:Nat}{t:TypeId}{cs:List Value}(h:Blk w k t cs.toArray):w.rangeAt k 0 cs:=λj v hv=>by rw[Nat.zero_add,h.cell];simpa using hv
theorem Ef:(Tryz.prog.info? 30).map (·.size)=some 6:=by kernel_rfl
theorem JD:(Tryz.prog.info? 27).map (·.size)=some 3:=by kernel_rfl
theorem Gz(e:Ex)(A:Option Addr)(c:Nat):(e.cells A c).toArray.all (·.oneCell')=true:=by simp[Ex.cells,Value.oneCell']
theorem PD(g:Nat)(A:Option Addr)(c:Nat)(l:List Tok)(a:Nat)(cs:Array Value)(b o:Nat)(w:World)(hl:l.length<=990)(hs:∀t∈l,t.s.length<=1000)(hc:l.length<=c)(ha:a<=l.length)(h:PsS g A c l a cs w)(hE:ErG g w)(hb:b≠g\/2<=o)(ht:w.there b o 6)(hbl:b<w.heap.size):
  Calls Tryz.prog 175 #[.pointer (some ⟨g,0,none⟩),.pointer (some ⟨b,o,none⟩)] w (RetXr (Dc l a) g b o w):=by
 have lp:=h.blk.lt;have hld:(l.drop a).length<=990:=by rw[List.length_drop];omega
 have hsd:∀t∈l.drop a,t.s.length<=1000000:=λt ht=>Nat.le_trans (hs t (List.mem_of_mem_drop ht)) (by decide)
 have hn:=PG (l.drop a) hld hsd;rw[List.length_drop]at hn;obtain⟨A1,hA1⟩:∃x,(if c=a then A else A.map (·.add (a * 2)))=x:=⟨_,rfl⟩;have hT1:=Ug (a:=a) h.tk hc;rw[hA1]at hT1;have HX:Hid (∀Z:World,Below w.heap.size w Z->Calls Tryz.prog 213 #[.slice A1 (l.length - a) (c - a)] Z (FO (ED (l.drop a)) Z)):=λZ hz=>by
  have:=Nb A1 (c - a) (l.drop a) Z hld hsd (((hT1.below (hz.mono (Nat.le_of_lt lp))).more (Nat.le_trans (Nat.le_of_lt lp) hz.size))) (hE.below hz (Nat.le_of_lt lp)).out;rw[List.length_drop]at this;exact this
 obtain⟨R,hR⟩:∃R,ED (l.drop a)=R:=⟨_,rfl⟩;have hX:Dc l a=if R.2.2=0 then some (R.1,a+R.2.1)else none:=by unfold Dc;rw[hR]
 rw[hX];rw[hR]at HX hn;obtain⟨e,n,err⟩:=R;obtain⟨R',hR'⟩:∃x,(if err=0 then some (e,a+n)else none)=x:=⟨_,rfl⟩;have HR:=Lib.hid hR';simp only at hn ⊢;rw[hR'];have i1:(0:Int)<=(a:Int):=by omega
 have i2:(a:Int)<=(l.length:Int):=by omega
 have HSH:Hid (∀w':World,Below w.heap.size w w'->(w'.cell? ⟨g,0,none⟩=some (.slice A l.length c)/\w'.cell? ⟨g,1,none⟩=some (.int .i64 (a:Nat)))):=
  λw' hb=>⟨((h.blk.below hb lp).cell 0).trans h.c0,((h.blk.below hb lp).cell 1).trans h.c1⟩
 have HTH:Hid (∀w':World,Below w.heap.size w w'->w'.there b o 6):=λw' hb j hj=>⟨by rw[hb.cell (p:=⟨b,o+j,none⟩) hbl];exact(ht j hj).1,by rw[(EJ hb).2 b (o+j) hbl];exact(ht j hj).2⟩
 have HF1:=Lib.hid (h.blk.frozen 1);have HA1:=Lib.hid hA1;have HB:=Lib.hid hb;obtain⟨L,hL⟩:∃L,l.length=L:=⟨_,rfl⟩;rw[hL]at HX hn i2 HSH hl;clear hX hT1 hR hR' hA1 h hE hs hc ha ht hb hsd hld;go_in
 go_upto_region 1 with fail
 refine rgn HSH λhHeld=>?_
 refine tS [0,1,2,3,4,5,6,7] ?_;iterate 8(refine tC ?_;refine ap ?_)
 refine tN ?_;refine tS [8] (tC (v:=.slice A1 (L - a) (c - a)) (hy:=by refine Or.inl ⟨by rfl, ?_⟩;intro wq hSw;(try dsimp only at hSw);go_simp;first|done|(rw[<-HA1.out])) ?_)<;>refine ap (tN ?_)
 refine wpAnyH_ready (rs:=[9,14]) (by kernel_rfl) (by simp) ?_;refine(AllReadyH.cons rfl (λK hK=>?_) (AllReadyH.cons rfl (λK hK=>?_) AllReadyH.nil))
 ·skip
  go_simp;refine(HX.out _ (by exact bl)).mono ?_<;>rintro en w5 ⟨A5,c5,rfl,hE5,hb5⟩<;>have hz5:=hb5.size<;>have hb15:Below w.heap.size w w5:=(by first|exact(Below.drew (Below.refl _ w)).trans hb5|exact((Below.drew (Below.refl _ w)).alloc (Nat.le_refl _) _).trans (hb5.mono (by simp)))<;>have hz15:=hb15.size<;>(try have HKZ:Hid (Blk w5 w.heap.size 30 #[.string ⟨#[]⟩,.int .i64 0,.int .i64 0,.string ⟨#[]⟩,.string ⟨#[]⟩,.slice none 0 0]):=Blk.below (Blk.new' w.drew w.heap.size _ _ rfl) hb5 (by simp))
  go_wp2_with fail;refine hK.out _ _ (HSH.out _ (by exact bl)) λhHeld=>?_
  clear hK K;refine ap ?_;refine tS [10,11,12,13] ?_;iterate 4(refine tC ?_;refine ap ?_)
  refine tN ?_;refine rdy 14 λK hK=>?_
  go_simp
  skip
  go_wp2_with fail;refine hK.out _ _ (HSH.out _ (by exact bl)) λhHeld=>?_
  clear hK K;refine ap ?_;refine rdy 15 λK hK=>?_
  first
  |
   refine BL (by rfl) 30 _ _ rfl w5.heap.size (e.cells A5 c5).toArray rfl rfl 30 ⟨#[.string ⟨#[]⟩,.int .i64 0,.int .i64 0,.string ⟨#[]⟩,.string ⟨#[]⟩,.slice none 0 0],rfl,heap_alloc_last _ _⟩ Ef (Gz _ _ _) ?_;refine hK.out _ _ (HSH.out _ (Df (by exact bl) hb15.size _)) (λhHeld=>?_);clear hK K;refine ap ?_;obtain⟨w6,hw6⟩:∃x,World.setRow (w5.alloc (.cells #[.string ⟨#[]⟩,.int .i64 0,.int .i64 0,.string ⟨#[]⟩,.string ⟨#[]⟩,.slice none 0 0] 30)) w5.heap.size (e.cells A5 c5).toArray=x:=⟨_,rfl⟩;have hb6:Below w.heap.size w w6:=by rw[<-hw6];exact Df (by exact bl) hb15.size _
   have k6:Blk w6 w5.heap.size 30 (e.cells A5 c5).toArray:=by rw[<-hw6];exact Blk.row (heap_alloc_last _ _) _
   have hE6:=hE5.keep (Q':=λx=>w.heap.size<=x/\x<w6.heap.size) (w':=w6) λx hx=>⟨⟨by first|exact hx.1|(have:=hx.1;simp at this;omega),by rw[<-hw6,Bg];have:=hx.2;simp;omega⟩,λo=>by rw[<-hw6];exact Bf ((BI _ _ _ _ (by have:=hx.2;omega)).trans (Below.heap_alloc _ _ _ hx.2)) o⟩
   have hkw:w.heap.size<=w5.heap.size:=hb15.size;have hkl:w5.heap.size<w6.heap.size:=k6.lt;rw[hw6]at hHeld ⊢;obtain⟨k,hk⟩:∃k,w5.heap.size=k:=⟨_,rfl⟩;rw[hk]at k6 hkw hkl ⊢;clear hw6 hk
  |
   refine BL (by rfl) 30 _ _ rfl w.heap.size (e.cells A5 c5).toArray rfl rfl 30 ⟨#[.string ⟨#[]⟩,.int .i64 0,.int .i64 0,.string ⟨#[]⟩,.string ⟨#[]⟩,.slice none 0 0],rfl,HKZ.out⟩ Ef (Gz _ _ _) ?_;refine hK.out _ _ (HSH.out _ (Df hb15 (Nat.le_refl _) _)) (λhHeld=>?_);clear hK K;refine ap ?_;obtain⟨w6,hw6⟩:∃x,World.setRow w5 w.heap.size (e.cells A5 c5).toArray=x:=⟨_,rfl⟩;have hb6:Below w.heap.size w w6:=by rw[<-hw6];exact Df hb15 (Nat.le_refl _) _
   have k6:Blk w6 w.heap.size 30 (e.cells A5 c5).toArray:=by rw[<-hw6];exact Blk.row HKZ.out _
   have hE6:=hE5.keep (Q':=λx=>w.heap.size<=x/\x<w6.heap.size) (w':=w6) λx hx=>⟨⟨by have:=hx.1;simp at this;omega,by rw[<-hw6,Bg];exact hx.2⟩,λo=>by rw[<-hw6];exact Bf (BI _ _ _ _ (by have:=hx.1;simp at this;omega)) o⟩
   have hkw:w.heap.size<=w.heap.size:=Nat.le_refl _;have hkl:w.heap.size<w6.heap.size:=k6.lt;rw[hw6]at hHeld ⊢;obtain⟨k,hk⟩:∃k,w.heap.size=k:=⟨_,rfl⟩;rw[show Value.pointer (some ⟨w.heap.size,0,none⟩)=.pointer (some ⟨k,0,none⟩) by rw[hk]];rw[hk]at k6;have hkw:w.heap.size<=k:=Nat.le_of_eq hk;have hkl:k<w6.heap.size:=k6.lt;clear hw6 hk
  refine tS [16,17] ?_;iterate 2(refine tC ?_;refine ap ?_)
  refine tN ?_;refine wpAnyH_done (by kernel_rfl) ?_ _;have HRG:=Lib.hid (Lj k6);have HT6:=Lib.hid (HTH.out w6 hb6);have x1:w6.cell? ⟨g,1,none⟩=some (.int .i64 (a:Nat)):=(HSH.out w6 hb6).2;have f1:w6.frozen? ⟨g,1,none⟩=false:=by rw[(EJ hb6).2 g 1 lp];exact HF1.out
  have HE6:=Lib.hid hE6;have HB6:=Lib.hid hb6;clear k6 hE5 hE6 hb5 hb15 hz5 hb6;by_cases he:err=0
  ·have hR:some (e,a+n)=R':=by rw[<-HR.out,if_pos he]
   subst hR;subst he;obtain⟨w7,hw7⟩:∃x,w6.setCells b o (e.cells A5 c5)=x:=⟨_,rfl⟩;have x7:w7.cell? ⟨g,1,none⟩=some (.int .i64 (a:Nat)):=by
    rw[<-hw7,World.cell?_setCells_out _ _ _ _ _ (λh1 _=>by rcases HB.out with h2|h2;exact absurd h1.symm h2;exact .inl (Nat.lt_of_lt_of_le Nat.one_lt_two h2))];exact x1
   have f7:w7.frozen? ⟨g,1,none⟩=false:=by rw[<-hw7,World.frozen?_setCells];exact f1
   have HW7:=Lib.hid hw7;clear hw7 x1 f1;go_wp2_with (first|refine Bo (by rfl) 30 _ rfl k 0 rfl (e.cells A5 c5) _ HRG.out Tryz.underlying30 rfl Ef ?_|(refine wpList_store_mid rfl 30 _ _ rfl b o (e.cells A5 c5).toArray rfl rfl HT6.out Ef (Gz _ _ _) ?_;rw[show World.setCells w6 b o _=w7 from HW7.out]));go_ret;exact⟨A5,c5,w6,rfl,HB6.out,HE6.out,by rw[show World.setCells w6 b o _=w7 from HW7.out];go_num⟩
  ·have hR:none=R':=by rw[<-HR.out,if_neg he]
   subst hR;have e1:(err != 0)=true:=by simpa using he
   clear x1 f1;go_wp2_with fail;go_ret;exact⟨rfl,HB6.out⟩
 ·skip
  go_simp
  skip
  go_wp2_with fail;refine hK.out _ _ (HSH.out _ (by exact bl)) λhHeld=>?_
  clear hK K;refine ap ?_;refine rdy 9 λK hK=>?_
  go_simp;refine(HX.out _ (by exact bl)).mono ?_<;>rintro en w5 ⟨A5,c5,rfl,hE5,hb5⟩<;>have hz5:=hb5.size<;>have hb15:Below w.heap.size w w5:=(by first|exact(Below.drew (Below.refl _ w)).trans hb5|exact((Below.drew (Below.refl _ w)).alloc (Nat.le_refl _) _).trans (hb5.mono (by simp)))<;>have hz15:=hb15.size<;>(try have HKZ:Hid (Blk w5 w.heap.size 30 #[.string ⟨#[]⟩,.int .i64 0,.int .i64 0,.string ⟨#[]⟩,.string ⟨#[]⟩,.slice none 0 0]):=Blk.below (Blk.new' w.drew w.heap.size _ _ rfl) hb5 (by simp))
  go_wp2_with fail;refine hK.out _ _ (HSH.out _ (by exact bl)) λhHeld=>?_
  clear hK K;refine ap ?_;refine tS [10,11,12,13] ?_;iterate 4(refine tC ?_;refine ap ?_)
  refine tN ?_;refine rdy 15 λK hK=>?_
  first
  |
   refine BL (by rfl) 30 _ _ rfl w5.heap.size (e.cells A5 c5).toArray rfl rfl 30 ⟨#[.string ⟨#[]⟩,.int .i64 0,.int .i64 0,.string ⟨#[]⟩,.string ⟨#[]⟩,.slice none 0 0],rfl,heap_alloc_last _ _⟩ Ef (Gz _ _ _) ?_;refine hK.out _ _ (HSH.out _ (Df (by exact bl) hb15.size _)) (λhHeld=>?_);clear hK K;refine ap ?_;obtain⟨w6,hw6⟩:∃x,World.setRow (w5.alloc (.cells #[.string ⟨#[]⟩,.int .i64 0,.int .i64 0,.string ⟨#[]⟩,.string ⟨#[]⟩,.slice none 0 0] 30)) w5.heap.size (e.cells A5 c5).toArray=x:=⟨_,rfl⟩;have hb6:Below w.heap.size w w6:=by rw[<-hw6];exact Df (by exact bl) hb15.size _
   have k6:Blk w6 w5.heap.size 30 (e.cells A5 c5).toArray:=by rw[<-hw6];exact Blk.row (heap_alloc_last _ _) _
   have hE6:=hE5.keep (Q':=λx=>w.heap.size<=x/\x<w6.heap.size) (w':=w6) λx hx=>⟨⟨by first|exact hx.1|(have:=hx.1;simp at this;omega),by rw[<-hw6,Bg];have:=hx.2;simp;omega⟩,λo=>by rw[<-hw6];exact Bf ((BI _ _ _ _ (by have:=hx.2;omega)).trans (Below.heap_alloc _ _ _ hx.2)) o⟩
   have hkw:w.heap.size<=w5.heap.size:=hb15.size;have hkl:w5.heap.size<w6.heap.size:=k6.lt;rw[hw6]at hHeld ⊢;obtain⟨k,hk⟩:∃k,w5.heap.size=k:=⟨_,rfl⟩;rw[hk]at k6 hkw hkl ⊢;clear hw6 hk
  |
   refine BL (by rfl) 30 _ _ rfl w.heap.size (e.cells A5 c5).toArray rfl rfl 30 ⟨#[.string ⟨#[]⟩,.int .i64 0,.int .i64 0,.string ⟨#[]⟩,.string ⟨#[]⟩,.slice none 0 0],rfl,HKZ.out⟩ Ef (Gz _ _ _) ?_;refine hK.out _ _ (HSH.out _ (Df hb15 (Nat.le_refl _) _)) (λhHeld=>?_);clear hK K;refine ap ?_;obtain⟨w6,hw6⟩:∃x,World.setRow w5 w.heap.size (e.cells A5 c5).toArray=x:=⟨_,rfl⟩;have hb6:Below w.heap.size w w6:=by rw[<-hw6];exact Df hb15 (Nat.le_refl _) _
   have k6:Blk w6 w.heap.size 30 (e.cells A5 c5).toArray:=by rw[<-hw6];exact Blk.row HKZ.out _
   have hE6:=hE5.keep (Q':=λx=>w.heap.size<=x/\x<w6.heap.size) (w':=w6) λx hx=>⟨⟨by have:=hx.1;simp at this;omega,by rw[<-hw6,Bg];exact hx.2⟩,λo=>by rw[<-hw6];exact Bf (BI _ _ _ _ (by have:=hx.1;simp at this;omega)) o⟩
   have hkw:w.heap.size<=w.heap.size:=Nat.le_refl _;have hkl:w.heap.size<w6.heap.size:=k6.lt;rw[hw6]at hHeld ⊢;obtain⟨k,hk⟩:∃k,w.heap.size=k:=⟨_,rfl⟩;rw[show Value.pointer (some ⟨w.heap.size,0,none⟩)=.pointer (some ⟨k,0,none⟩) by rw[hk]];rw[hk]at k6;have hkw:w.heap.size<=k:=Nat.le_of_eq hk;have hkl:k<w6.heap.size:=k6.lt;clear hw6 hk
  refine tS [16,17] ?_;iterate 2(refine tC ?_;refine ap ?_)
  refine tN ?_;refine wpAnyH_done (by kernel_rfl) ?_ _;have HRG:=Lib.hid (Lj k6);have HT6:=Lib.hid (HTH.out w6 hb6);have x1:w6.cell? ⟨g,1,none⟩=some (.int .i64 (a:Nat)):=(HSH.out w6 hb6).2;have f1:w6.frozen? ⟨g,1,none⟩=false:=by rw[(EJ hb6).2 g 1 lp];exact HF1.out
  have HE6:=Lib.hid hE6;have HB6:=Lib.hid hb6;clear k6 hE5 hE6 hb5 hb15 hz5 hb6;by_cases he:err=0
  ·have hR:some (e,a+n)=R':=by rw[<-HR.out,if_pos he]
   subst hR;subst he;obtain⟨w7,hw7⟩:∃x,w6.setCells b o (e.cells A5 c5)=x:=⟨_,rfl⟩;have x7:w7.cell? ⟨g,1,none⟩=some (.int .i64 (a:Nat)):=by
    rw[<-hw7,World.cell?_setCells_out _ _ _ _ _ (λh1 _=>by rcases HB.out with h2|h2;exact absurd h1.symm h2;exact .inl (Nat.lt_of_lt_of_le Nat.one_lt_two h2))];exact x1
   have f7:w7.frozen? ⟨g,1,none⟩=false:=by rw[<-hw7,World.frozen?_setCells];exact f1
   have HW7:=Lib.hid hw7;clear hw7 x1 f1;go_wp2_with (first|refine Bo (by rfl) 30 _ rfl k 0 rfl (e.cells A5 c5) _ HRG.out Tryz.underlying30 rfl Ef ?_|(refine wpList_store_mid rfl 30 _ _ rfl b o (e.cells A5 c5).toArray rfl rfl HT6.out Ef (Gz _ _ _) ?_;rw[show World.setCells w6 b o _=w7 from HW7.out]));go_ret;exact⟨A5,c5,w6,rfl,HB6.out,HE6.out,by rw[show World.setCells w6 b o _=w7 from HW7.out];go_num⟩
  ·have hR:none=R':=by rw[<-HR.out,if_neg he]
   subst hR;have e1:(err != 0)=true:=by simpa using he
   clear x1 f1;go_wp2_with fail;go_ret;exact⟨rfl,HB6.out⟩
end
section
open Go.RowKit
attribute [local go_sem] ByteArray.extract_mk Ak AY
attribute [local go_sem ↓] Go.wp_at_zero Go.wp_at_succ
structure PsE (g:Nat) (c:Nat) (l:List Tok) (w:World):Prop where
 n:l.length<=990
 s:∀t∈l,t.s.length<=1000
 c:l.length<=c
 e:ErG g w
theorem PsE.but{g c:Nat}{l:List Tok}{w w':World}(h:PsE g c l w)(hb:But g w w'):PsE g c l w':=⟨h.n,h.s,h.c,h.e.but hb⟩
theorem PsE.below{g c B:Nat}{l:List Tok}{w w':World}(h:PsE g c l w)(hb:Below B w w')(hB:g<=B):PsE g c l w':=⟨h.n,h.s,h.c,h.e.below hb hB⟩
def Si(r:Option (Ex×Nat))(at_:Nat)(g:Nat)(A:Option Addr)(c:Nat)(l:List Tok)(cs:Array Value)(w:World)(en:Ending)(w':World):Prop:=
 match r with
 |none=>en=.returned (.bool false)/\But g w w'
 |some r=>∃A' c',en=.returned (.bool true)/\PsS g A c l r.2 (Aa (Gm cs at_ (r.1.cells A' c')) r.2) w'/\ExR (λk=>w.heap.size<=k/\k<w'.heap.size) r.1 A' c' w'/\But g w w'
theorem G8(b:Nat):∀(vs:List Value) (o:Nat) (w:World),(w.setCells b o vs).heap.size=w.heap.size
 |[],_,_=>rfl
 |v::r,o,w=>by rw[World.setCells,G8 b r];simp
theorem Ky{w:World}{b:Nat}{t:TypeId}{cs:Array Value}(h:Blk w b t cs){o n:Nat}(ho:o+n<=cs.size):w.there b o n:=λj hj=>⟨by rw[h.cell,Array.getElem?_eq_getElem (by omega)];rfl,h.frozen _⟩
theorem Ur(g:Nat)(A:Option Addr)(c:Nat)(l:List Tok)(a:Nat)(cs:Array Value)(o:Nat)(w:World)(hp:PsE g c l w)(ha:a<=l.length)(h:PsS g A c l a cs w)(ho:2<=o)(hsz:o+6<=cs.size):
  Calls Tryz.prog 175 #[.pointer (some ⟨g,0,none⟩),.pointer (some ⟨g,o,none⟩)] w (Si (Dc l a) o g A c l cs w):=by
 refine(PD g A c l a cs g o w hp.n hp.s hp.c ha h hp.e (.inr ho) (Ky h.blk hsz) h.blk.lt).mono λen w' hr=>?_
 cases hx:Dc l a with
 |none=>
  rw[hx]at hr;exact⟨hr.1,But.of_below hr.2⟩
 |some r=>
  rw[hx]at hr;obtain⟨A',c',w1,rfl,hb,hE,rfl⟩:=hr;have hP:=h.below hb;refine⟨A',c',rfl,(hP.setL (r.1.cells A' c') o ho).move r.2,hE.keep λk hk=>⟨⟨hk.1,by simp[G8];exact hk.2⟩,λo'=>?_⟩,(But.setL _ _ (But.of_below hb)).set 1 _⟩;have hg:k≠g:=by have:=h.blk.lt;omega
  rw[World.cell?_setCell_other _ _ _ _ (λe=>hg (congrArg Addr.block e).symm),World.cell?_setCells_out _ _ _ _ _ (λe _=>absurd e hg)]
def Dn(l:List Tok)(a:Nat):Option (Ex×Nat):=if hit l a [87,72,69,82,69]then Dc l (a+1)else some (ex0,a)
theorem DZ{l:List Tok}{a:Nat}{s:List UInt8}(h:hit l a s=true):a<l.length:=by
 unfold hit at h;cases hv:l[a]? with
 |none=>rw[hv]at h;cases h
 |some t=>exact(List.getElem?_eq_some_iff.1 hv).1
theorem PU(cs:Array Value)(a:Nat):(Aa cs a).size=cs.size:=by unfold Aa;simp
theorem Ht(a:Nat):∀(vs:List Value) (o:Nat) (cs:Array Value),2<=o->Gm (Aa cs a) o vs=Aa (Gm cs o vs) a
 |[],_,_,_=>rfl
 |v::r,o,cs,ho=>by rw[Gm,Dp _ _ _ _ (by omega),Ht a r (o+1) _ (by omega)];rfl
theorem Rz(Q:Nat->Prop)(w:World):ExR Q ex0 none 0 w:=⟨CX,Nat.le_refl _,Nat.zero_le _,0,rfl⟩
theorem Jq(g:Nat)(A:Option Addr)(c:Nat)(l:List Tok)(a:Nat)(cs:Array Value)(w:World)(hp:PsE g c l w)(ha:a<=l.length)(h:PsS g A c l a cs w)(hsz:24<=cs.size)(hz:Gm cs 18 (ex0.cells none 0)=cs):
  Calls Tryz.prog 176 #[.pointer (some ⟨g,0,none⟩)] w (Si (Dn l a) 18 g A c l cs w):=by
 have hn:=hp.n;have HT:=Lib.hid (Ac g A c l a cs [87,72,69,82,69] w (by omega) h);obtain⟨R,hR⟩:∃R,Dn l a=R:=⟨_,rfl⟩;rw[hR];unfold Dn at hR;have HA:Hid (hit l a [87,72,69,82,69]=true->a+1<=l.length):=λh=>DZ h
 obtain⟨B,hB⟩:∃B,hit l a [87,72,69,82,69]=B:=⟨_,rfl⟩;rw[hB]at HT hR HA;have HPE:=Lib.hid hp;have HSZ:=Lib.hid hsz;have HZ:=Lib.hid hz;have HR:=Lib.hid hR;clear hR hB h hp hsz hz ha hn;go_in
 go_wp2_with fail;refine HT.out.mono ?_;rintro en w1 ⟨rfl,hP1,hb1⟩;have HB1:=Lib.hid hb1;cases B with
 |false=>
  have hR:R=some (ex0,a):=HR.out.symm;subst hR;have HP1:Hid (PsS g A c l a (Aa cs a) w1):=hP1;clear hP1 hb1;go_wp2_with fail;go_ret;exact⟨none,0,rfl,by rw[HZ.out];exact HP1.out,Rz _ _,HB1.out⟩
 |true=>
  have hR:R=Dc l (a+1):=HR.out.symm;have hP1':PsS g A c l (a+1) (Aa cs (a+1)) w1:=hP1;have HX:=Lib.hid (Ur g A c l (a+1) (Aa cs (a+1)) 18 w1 (HPE.out.but hb1) (HA.out rfl) hP1' (by decide) (by rw[PU];exact HSZ.out));rw[<-hR]at HX;clear hP1 hP1' hb1 hR HR;go_wp2_with fail;refine HX.out.mono ?_;intro en w2 hr;cases R with
  |none=>
   obtain⟨rfl,hb2⟩:=hr;have HB2:=Lib.hid (HB1.out.trans hb2);clear hb2;go_wp2_with fail;go_ret;exact⟨rfl,HB2.out⟩
  |some r=>
   obtain⟨A',c',rfl,hP2,hE2,hb2⟩:=hr;rw[Ht _ _ _ _ (by decide),AQ]at hP2;have HP2:=Lib.hid hP2;have HE2:=Lib.hid (hE2.keep (Q':=λk=>w.heap.size<=k/\k<w2.heap.size) (w':=w2) λk hk=>⟨⟨Nat.le_trans HB1.out.size hk.1,hk.2⟩,λ_=>rfl⟩);have HB2:=Lib.hid (HB1.out.trans hb2);clear hb2 hE2 hP2;go_wp2_with fail;go_ret;exact⟨A',c',rfl,HP2.out,HE2.out,HB2.out⟩
end
end Go.Proofs.YtchilcchogcibaaGreatDoor
