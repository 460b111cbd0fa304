/- Plain words for slices of numbers; caddislaw02.Few; Contracts of expr.May, expr.Eval, expr.Type for an expression in memory, at any later world; plain laws on what an expression comes to.; Tables with rows in memory; Statements and grants in memory; What statements' texts want of the library's variables, and of the words of the types; How arguments of the laws are opened; The frame from a walk to a given statement whose row lists variables of the library. -/
import Derived.WideKeyEntry
import Derived.WideMake
import Derived.MapKept
import Derived.Lib.SmallJoins
import Derived.OpenShut
import Derived.ShutString
import Derived.ChangeOld
import Derived.Test.YtchilcchogcibaaGreatDoorCards
import Derived.Test.YtchilcchogcibaaGreatDoorTie
import Derived.Lay
import Derived.PinnedBridge
import Derived.SevenTiedAt
import Derived.HandedShaped
import Derived.Shelf.Vars
import Derived.Lib.LaidTab
import Derived.Test.YtchilcchogcibaaGreatDoorFFewE
import Derived.Test.YtchilcchogcibaaGreatDoorFParse1
set_option maxRecDepth 100000
set_option maxHeartbeats 400000
namespace Go.Proofs.YtchilcchogcibaaGreatDoor
section
open Go.RowKit
def IS(w:World)(B:Nat)(A:Option Addr)(l:List Int):Prop:=0<l.length->∃b off,A=some ⟨b,off,none⟩/\b<B/\∀i x,l[i]? = some x->w.cell? ⟨b,off+i,none⟩=some (.int .i64 x)
def IF(w:World)(lo hi:Nat)(A:Option Addr)(l:List Int):Prop:=0<l.length->∃b off,A=some ⟨b,off,none⟩/\lo<=b/\b<hi/\∀i x,l[i]? = some x->w.cell? ⟨b,off+i,none⟩=some (.int .i64 x)
theorem IF.s{w:World}{lo hi:Nat}{A:Option Addr}{l:List Int}(h:IF w lo hi A l){B:Nat}(hB:hi<=B):IS w B A l:=λhl=>by
 obtain⟨b,off,rfl,_,h2,h3⟩:=h hl;exact⟨b,off,rfl,by omega,h3⟩
theorem IF.keep{w w':World}{lo hi lo' hi':Nat}{A:Option Addr}{l:List Int}(h:IF w lo hi A l)(hk:∀b,lo<=b->b<hi->(lo'<=b/\b<hi')/\∀o,w'.cell? ⟨b,o,none⟩=w.cell? ⟨b,o,none⟩):IF w' lo' hi' A l:=λhl=>by
 obtain⟨b,off,rfl,h1,h2,h3⟩:=h hl;exact⟨b,off,rfl,(hk b h1 h2).1.1,(hk b h1 h2).1.2,λi x hx=>((hk b h1 h2).2 _).trans (h3 i x hx)⟩
theorem IS.below{w w':World}{B:Nat}{A:Option Addr}{l:List Int}(h:IS w B A l)(hb:Below B w w'):IS w' B A l:=λhl=>by
 obtain⟨b,off,rfl,hbB,hr⟩:=h hl;exact⟨b,off,rfl,hbB,λi x hx=>(hb.cell (p:=⟨b,off+i,none⟩) hbB).trans (hr i x hx)⟩
theorem IS.more{w:World}{B B':Nat}{A:Option Addr}{l:List Int}(h:IS w B A l)(hB:B<=B'):IS w B' A l:=λhl=>by
 obtain⟨b,off,rfl,hbB,hr⟩:=h hl;exact⟨b,off,rfl,by omega,hr⟩
theorem IS.nil{w:World}{B:Nat}{A:Option Addr}:IS w B A []:=λh=>absurd h (by simp)
theorem IS.at_{w:World}{B:Nat}{A:Option Addr}{l:List Int}(h:IS w B A l){j:Nat}(hj:j<l.length):
  ∃b off x,A=some ⟨b,off,none⟩/\b<B/\l[j]? = some x/\w.cell? ⟨b,off+j,none⟩=some (.int .i64 x):=by
 obtain⟨b,off,rfl,hb,hr⟩:=h (by omega);exact⟨b,off,l[j],rfl,hb,List.getElem?_eq_getElem hj,hr j _ (List.getElem?_eq_getElem hj)⟩
theorem IF.own{w:World}{base:Nat}{e:TypeId}{sv:Value}{n:Nat}{l:List Int}(h:w.ownsRow base e 1 sv n (l.map λx=>(.int .i64 x:Value))):
  ∃A c,sv=.slice A l.length c/\l.length<=c/\c<=maxLen/\IF w base w.heap.size A l:=by
 have hn:l.length=n:=by have:=h.1;rw[List.length_map]at this;omega
 rcases h.2 with⟨rfl,h0⟩|⟨g,cap,cur,rfl,hb,hg,hnc,hcm,hcs,htk⟩
 ·refine⟨none,0, ?_,by omega,Nat.zero_le _,λhl=>absurd hl (by omega)⟩;rw[hn,h0]
 ·refine⟨some ⟨g,0,none⟩,cap,by rw[hn],by omega,hcm,λ_=>⟨g,0,rfl,hb,(Array.getElem?_eq_some_iff.1 hg).1,λi x hx=>?_⟩⟩;have hc:=h.cells (g:=g) rfl i (.int .i64 x) (by rw[List.getElem?_map,hx];rfl);rw[add_mid]at hc;exact hc
def CW{α:Type}(p:α->Bool):List α->Nat->Int
 |[],_=>-1
 |x::r,n=>if p x then(n:Int)else CW p r (n+1)
theorem FW{α:Type}(p:α->Bool):∀(l:List α) (n:Nat),decide (0<=CW p l n)=l.any p
 |[],_=>by simp[CW]
 |x::r,n=>by
  unfold CW;cases hp:p x
  ·simp only[Bool.false_eq_true,if_false,List.any_cons,hp,Bool.false_or];exact FW p r (n+1)
  ·simp[hp]
theorem Fv{α:Type}(p:α->Bool)(x:α)(r:List α)(n:Nat):CW p (x::r) n=if p x then(n:Int)else CW p r (n+1):=rfl
end
section
open Go.RowKit
attribute [local go_sem] ByteArray.extract_mk Ak
theorem infoV:(Tryz.prog.info? 27).map (λi=>(i.zero,i.size,i.bytes))=some (some (.agg #[.int .i64 0,.int .i64 0,.string ⟨#[]⟩]),3,32):=by kernel_rfl
def Ol(v:V):V:=⟨v.k,v.i,v.s.take 60⟩
def Ny(l:List V):List V:=(l.take 14).map Ol
theorem WT(l:List V)(j:Nat)(v:V)(h:l[j]? = some v):(l.take (j+1)).map Ol=(l.take j).map Ol++[Ol v]:=by
 rw[List.take_add_one,h];simp
theorem ZC(A:Option Addr)(c:Nat)(l:List V)(w:World)(hl:l.length<=maxLen)(h:VS w w.heap.size A l):
  Calls Tryz.prog 35 #[.slice A l.length c] w (Zn (Ny l) w):=by
 unfold maxLen at hl;obtain⟨i0,hi0,zi0,zi1,zi2⟩:=info_parts infoV;go_in
 go_wp2;go_loopw [3,4] (λv i wr=>∃j:Nat,j<=l.length/\j<=14/\i=.int .i64 j/\wr.ownsRow w.heap.size 27 3 v j (((l.take j).map Ol).flatMap V.cells)/\Below w.heap.size w wr) (λ_ i _=>l.length - (intOf i).toNat)
 case atStart=>exact⟨0,by omega,by omega,rfl,World.ownsRow_nil _ _ _ _,Below.refl _ _⟩
 case round=>
  obtain⟨j,hj1,hj2,rfl,hown,hbw⟩:=hrel;by_cases hlt:j<l.length
  ·by_cases h14:j<14
   ·obtain⟨b,off,v,rfl,hbB,hv,c0,c1,c2⟩:=(h.below hbw).at_ hlt;have HV:=Lib.hid hv;clear hv;go_wp2_with fail;refine(X7 _ _ _ _).mono ?_;rintro e w1 ⟨rfl,hb1⟩;have hz1:=hb1.size;have hown1:w1.ownsRow w.heap.size 27 3 u3 j (((l.take j).map Ol).flatMap V.cells):=CJ hown hb1;have hzw:=hbw.size;go_wp2_with (at_builtin;refine wpList_append_own _ rfl _ _ 31 rfl w.heap.size 27 i0 _ 3 32 Tryz.underlying31 hi0 zi0 zi1 zi2 rfl (by decide) _ _ _ rfl (hown1.alloc _) ⟨w1.heap.size,0,none⟩ 1 1 (Ol v).cells rfl rfl ?c1 ?c2 ?c3 ?c4 ?c5 ?_)
    case c1=>
     exact World.news_of_block (cs:=#[.int .i64 v.k,.int .i64 v.i,.string ⟨(v.s.take 60).toArray⟩]) (t:=27) (fr:=(0,0)) (heap_alloc_new w1 _)
    case c2=>exactλu hu=>Pg [Ol v] u (by simpa using hu)
    case c3=>unfold maxLen;omega
    case c4=>omega
    case c5=>simp;omega
    intro v' w2 hown2 hg2 _;go_wp2;go_roundw
    case rel=>
     refine⟨j+1,by omega,by omega,by go_num, ?_, ?_⟩
     ·rw[WT l j v HV.out,List.flatMap_append];simpa using hown2
     ·refine Below.grown (w:=w1.alloc (.cells #[.int .i64 v.k,.int .i64 v.i,.string ⟨(v.s.take 60).toArray⟩] 27)) ?_ hg2 (by simp;omega) (λk hk=>(hown.lt k hk).1);exact bl
    case measure=>simp[intOf];omega
   ·go_wp2;go_ret;obtain⟨A',c',rfl,hc1,hc2,hv⟩:=VS.own hown;have e:Ny l=(l.take j).map Ol:=by unfold Ny;rw[show j=14 by omega]
    refine⟨A',c', ?_, ?_,hc2, ?_,hbw⟩
    ·rw[e];rfl
    ·rw[e];exact hc1
    ·rw[e];exact hv
  ·go_wp2;go_ret;obtain⟨A',c',rfl,hc1,hc2,hv⟩:=VS.own hown;have e:Ny l=(l.take j).map Ol:=by unfold Ny;rw[List.take_of_length_le (i:=14) (by omega),List.take_of_length_le (by omega)]
   refine⟨A',c', ?_, ?_,hc2, ?_,hbw⟩
   ·rw[e];rfl
   ·rw[e];exact hc1
   ·rw[e];exact hv
end
section
open Go.RowKit Go.ChangeMaps
theorem VF.keep{w w':World}{lo hi lo' hi':Nat}{A:Option Addr}{l:List V}(h:VF w lo hi A l)(hk:∀b,lo<=b->b<hi->(lo'<=b/\b<hi')/\∀o,w'.cell? ⟨b,o,none⟩=w.cell? ⟨b,o,none⟩):VF w' lo' hi' A l:=λhl=>by
 obtain⟨b,off,rfl,h1,h2,h3⟩:=h hl;exact⟨b,off,rfl,(hk b h1 h2).1.1,(hk b h1 h2).1.2,h3.keep (hk b h1 h2).2⟩
theorem ExR.at_{Q:Nat->Prop}{e:Ex}{A:Option Addr}{c:Nat}{w:World}(h:ExR Q e A c w)(hQ:∀b,Q b->b<w.heap.size){Y:World}(hb:Below w.heap.size w Y):∃n,ExS 1000 n Y Y.heap.size A e.l:=by
 obtain⟨_,_,_,n,h4⟩:=h;exact⟨n,((h4.toS hQ n).below n hb).more hb.size n⟩
end
section
open Go.RowKit
structure Fr where
 c:Int
 t:List UInt8
structure Tb where
 n:List UInt8
 cols:List Col
 key:Int
 uniq:List Int
 refs:List Fr
 chk:Ex
structure Rl where
 t:Tb
 rows:List (List V)
structure Sl where
 a:Option Addr
 c:Nat
structure TbP where
 cols:Sl
 uniq:Sl
 refs:Sl
 chk:Sl
structure RlP where
 t:TbP
 rows:Sl
def Tb.cells(t:Tb)(p:TbP):List Value:=
 [.string ⟨t.n.toArray⟩,.slice p.cols.a t.cols.length p.cols.c,.int .i64 t.key,.slice p.uniq.a t.uniq.length p.uniq.c,.slice p.refs.a t.refs.length p.refs.c,
  .string ⟨t.chk.op.toArray⟩,.int .i64 t.chk.v.k,.int .i64 t.chk.v.i,.string ⟨t.chk.v.s.toArray⟩,.string ⟨t.chk.s.toArray⟩,.slice p.chk.a t.chk.l.length p.chk.c]
def Rl.cells(x:Rl)(p:RlP):List Value:=
 [.string ⟨x.t.n.toArray⟩,.slice p.t.cols.a x.t.cols.length p.t.cols.c,.int .i64 x.t.key,.slice p.t.uniq.a x.t.uniq.length p.t.uniq.c,.slice p.t.refs.a x.t.refs.length p.t.refs.c,
  .string ⟨x.t.chk.op.toArray⟩,.int .i64 x.t.chk.v.k,.int .i64 x.t.chk.v.i,.string ⟨x.t.chk.v.s.toArray⟩,.string ⟨x.t.chk.s.toArray⟩,.slice p.t.chk.a x.t.chk.l.length p.t.chk.c,.slice p.rows.a x.rows.length p.rows.c]
def CQ(l:List Col)(A:Option Addr)(Q:Nat->Prop)(w:World):Prop:=0<l.length->∃b off,A=some ⟨b,off,none⟩/\Q b/\Le w b off l
def WQ(l:List V)(A:Option Addr)(Q:Nat->Prop)(w:World):Prop:=0<l.length->∃b off,A=some ⟨b,off,none⟩/\Q b/\Wp w b off l
def IQ(l:List Int)(A:Option Addr)(Q:Nat->Prop)(w:World):Prop:=0<l.length->∃b off,A=some ⟨b,off,none⟩/\Q b/\∀i x,l[i]? = some x->w.cell? ⟨b,off+i,none⟩=some (.int .i64 x)
def FQ(l:List Fr)(A:Option Addr)(Q:Nat->Prop)(w:World):Prop:=0<l.length->∃b off,A=some ⟨b,off,none⟩/\Q b/\∀i x,l[i]? = some x->w.cell? ⟨b,off+i * 2,none⟩=some (.int .i64 x.c)/\w.cell? ⟨b,off+i * 2+1,none⟩=some (.string ⟨x.t.toArray⟩)
def RQ(l:List (List V))(A:Option Addr)(Q:Nat->Prop)(w:World):Prop:=0<l.length->∃b off,A=some ⟨b,off,none⟩/\Q b/\∀i r,l[i]? = some r->∃A' c',w.cell? ⟨b,off+i,none⟩=some (.slice A' r.length c')/\WQ r A' Q w
section
variable {A : Option Addr} {Q Q' : Nat → Prop} {w w' : World}
theorem CQ.keep{l:List Col}(h:CQ l A Q w)(hk:∀b,Q b->Q' b/\∀o,w'.cell? ⟨b,o,none⟩=w.cell? ⟨b,o,none⟩):CQ l A Q' w':=λhl=>by
 obtain⟨b,off,rfl,h1,h2⟩:=h hl;refine⟨b,off,rfl,(hk b h1).1,λi x hx=>?_⟩;obtain⟨c0,c1,c2⟩:=h2 i x hx;exact⟨((hk b h1).2 _).trans c0,((hk b h1).2 _).trans c1,((hk b h1).2 _).trans c2⟩
theorem WQ.keep{l:List V}(h:WQ l A Q w)(hk:∀b,Q b->Q' b/\∀o,w'.cell? ⟨b,o,none⟩=w.cell? ⟨b,o,none⟩):WQ l A Q' w':=λhl=>by
 obtain⟨b,off,rfl,h1,h2⟩:=h hl;exact⟨b,off,rfl,(hk b h1).1,h2.keep (hk b h1).2⟩
theorem IQ.keep{l:List Int}(h:IQ l A Q w)(hk:∀b,Q b->Q' b/\∀o,w'.cell? ⟨b,o,none⟩=w.cell? ⟨b,o,none⟩):IQ l A Q' w':=λhl=>by
 obtain⟨b,off,rfl,h1,h2⟩:=h hl;exact⟨b,off,rfl,(hk b h1).1,λi x hx=>((hk b h1).2 _).trans (h2 i x hx)⟩
theorem FQ.keep{l:List Fr}(h:FQ l A Q w)(hk:∀b,Q b->Q' b/\∀o,w'.cell? ⟨b,o,none⟩=w.cell? ⟨b,o,none⟩):FQ l A Q' w':=λhl=>by
 obtain⟨b,off,rfl,h1,h2⟩:=h hl;exact⟨b,off,rfl,(hk b h1).1,λi x hx=>⟨((hk b h1).2 _).trans (h2 i x hx).1,((hk b h1).2 _).trans (h2 i x hx).2⟩⟩
theorem RQ.keep{l:List (List V)}(h:RQ l A Q w)(hk:∀b,Q b->Q' b/\∀o,w'.cell? ⟨b,o,none⟩=w.cell? ⟨b,o,none⟩):RQ l A Q' w':=λhl=>by
 obtain⟨b,off,rfl,h1,h2⟩:=h hl;refine⟨b,off,rfl,(hk b h1).1,λi r hr=>?_⟩;obtain⟨A',c',h3,h4⟩:=h2 i r hr;exact⟨A',c',((hk b h1).2 _).trans h3,h4.keep hk⟩
theorem CQ.s{l:List Col}(h:CQ l A Q w){B:Nat}(hq:∀b,Q b->b<B):J3 w B A l:=λhl=>by
 obtain⟨b,off,rfl,h1,h2⟩:=h hl;exact⟨b,off,rfl,hq b h1,h2⟩
theorem WQ.s{l:List V}(h:WQ l A Q w){B:Nat}(hq:∀b,Q b->b<B):VS w B A l:=λhl=>by
 obtain⟨b,off,rfl,h1,h2⟩:=h hl;exact⟨b,off,rfl,hq b h1,h2⟩
theorem CQ.ofF{l:List Col}{lo hi:Nat}(h:Ku w lo hi A l)(hq:∀b,lo<=b->b<hi->Q b):CQ l A Q w:=λhl=>by
 obtain⟨b,off,rfl,h1,h2,h3⟩:=h hl;exact⟨b,off,rfl,hq b h1 h2,h3⟩
theorem WQ.ofF{l:List V}{lo hi:Nat}(h:VF w lo hi A l)(hq:∀b,lo<=b->b<hi->Q b):WQ l A Q w:=λhl=>by
 obtain⟨b,off,rfl,h1,h2,h3⟩:=h hl;exact⟨b,off,rfl,hq b h1 h2,h3⟩
theorem IQ.ofF{l:List Int}{lo hi:Nat}(h:IF w lo hi A l)(hq:∀b,lo<=b->b<hi->Q b):IQ l A Q w:=λhl=>by
 obtain⟨b,off,rfl,h1,h2,h3⟩:=h hl;exact⟨b,off,rfl,hq b h1 h2,h3⟩
theorem WQ.nil:WQ [] A Q w:=λh=>absurd h (by simp)
theorem CQ.nil:CQ [] A Q w:=λh=>absurd h (by simp)
theorem IQ.nil:IQ [] A Q w:=λh=>absurd h (by simp)
theorem FQ.nil:FQ [] A Q w:=λh=>absurd h (by simp)
theorem RQ.nil:RQ [] A Q w:=λh=>absurd h (by simp)
theorem IQ.at_{l:List Int}(h:IQ l A Q w){j:Nat}(hj:j<l.length):∃b off x,A=some ⟨b,off,none⟩/\Q b/\l[j]? = some x/\w.cell? ⟨b,off+j,none⟩=some (.int .i64 x):=by
 obtain⟨b,off,rfl,hb,hr⟩:=h (by omega);exact⟨b,off,l[j],rfl,hb,List.getElem?_eq_getElem hj,hr j _ (List.getElem?_eq_getElem hj)⟩
theorem FQ.at_{l:List Fr}(h:FQ l A Q w){j:Nat}(hj:j<l.length):∃b off x,A=some ⟨b,off,none⟩/\Q b/\l[j]? = some x/\w.cell? ⟨b,off+j * 2,none⟩=some (.int .i64 x.c)/\w.cell? ⟨b,off+j * 2+1,none⟩=some (.string ⟨x.t.toArray⟩):=by
 obtain⟨b,off,rfl,hb,hr⟩:=h (by omega);exact⟨b,off,l[j],rfl,hb,List.getElem?_eq_getElem hj,hr j _ (List.getElem?_eq_getElem hj)⟩
theorem RQ.at_{l:List (List V)}(h:RQ l A Q w){j:Nat}(hj:j<l.length):∃b off r A' c',A=some ⟨b,off,none⟩/\Q b/\l[j]? = some r/\w.cell? ⟨b,off+j,none⟩=some (.slice A' r.length c')/\WQ r A' Q w:=by
 obtain⟨b,off,rfl,hb,hr⟩:=h (by omega);obtain⟨A',c',h1,h2⟩:=hr j _ (List.getElem?_eq_getElem hj);exact⟨b,off,l[j],A',c',rfl,hb,List.getElem?_eq_getElem hj,h1,h2⟩
theorem RQ.take{l:List (List V)}(h:RQ l A Q w)(n:Nat):RQ (l.take n) A Q w:=λhl=>by
 obtain⟨b,off,rfl,h1,h2⟩:=h (by rw[List.length_take]at hl;omega);refine⟨b,off,rfl,h1,λi r hr=>h2 i r ?_⟩;rw[List.getElem?_take]at hr;split at hr
 ·exact hr
 ·cases hr
end
def TbQ(K:Nat)(t:Tb)(p:TbP)(Q:Nat->Prop)(w:World):Prop:=CQ t.cols p.cols.a Q w/\IQ t.uniq p.uniq.a Q w/\FQ t.refs p.refs.a Q w/\∃n,ExQ K n w Q p.chk.a t.chk.l
def RlQ(K:Nat)(x:Rl)(p:RlP)(Q:Nat->Prop)(w:World):Prop:=TbQ K x.t p.t Q w/\RQ x.rows p.rows.a Q w
theorem TbQ.keep{K:Nat}{t:Tb}{p:TbP}{Q Q':Nat->Prop}{w w':World}(h:TbQ K t p Q w)(hk:∀b,Q b->Q' b/\∀o,w'.cell? ⟨b,o,none⟩=w.cell? ⟨b,o,none⟩):TbQ K t p Q' w':=by
 obtain⟨h1,h2,h3,n,h4⟩:=h;exact⟨h1.keep hk,h2.keep hk,h3.keep hk,n,h4.keep hk n⟩
theorem RlQ.keep{K:Nat}{x:Rl}{p:RlP}{Q Q':Nat->Prop}{w w':World}(h:RlQ K x p Q w)(hk:∀b,Q b->Q' b/\∀o,w'.cell? ⟨b,o,none⟩=w.cell? ⟨b,o,none⟩):RlQ K x p Q' w':=⟨h.1.keep hk,h.2.keep hk⟩
def Old(B:Nat)(b:Nat):Prop:=b<B
theorem DK{B B':Nat}{w w':World}(hb:Below B w w')(hB:B<=B'):∀b,Old B b->Old B' b/\∀o,w'.cell? ⟨b,o,none⟩=w.cell? ⟨b,o,none⟩:=λb h=>⟨Nat.lt_of_lt_of_le h hB,λo=>hb.cell (p:=⟨b,o,none⟩) h⟩
theorem ExS.toQ{K:Nat}{w:World}{B:Nat}:∀(n:Nat) {A:Option Addr} {l:List Ex},ExS K n w B A l->ExQ K n w (Old B) A l
 |0,_,_,h=>h
 |n+1,_,_,h=>λhl=>by
  obtain⟨b,off,rfl,hb,hr⟩:=h hl;refine⟨b,off,rfl,hb,λi e he=>?_⟩;obtain⟨A',c',hf,h1,h2,h3,h4⟩:=hr i e he;exact⟨A',c',hf,h1,h2,h3,h4.toQ n⟩
def Rl.big(x:Rl):Prop:=x.t.n.length<=maxLen/\x.t.cols.length<=maxLen/\(∀c∈x.t.cols,c.n.length<=maxLen)/\x.t.uniq.length<=maxLen/\x.t.refs.length<=maxLen/\(∀r∈x.t.refs,r.t.length<=maxLen)/\x.t.chk.fit maxLen/\x.t.chk.l.length<=maxLen ∧
 x.rows.length<=maxLen/\∀r∈x.rows,r.length<=maxLen/\∀v∈r,Fq v.i
def Tb.few(t:Tb):Tb:=⟨t.n.take 20,FI t.cols,t.key,t.uniq.take 10,(t.refs.take 10).map λr=>⟨r.c,r.t.take 20⟩,UQ t.chk⟩
def Rl.few(x:Rl):Rl:=⟨x.t.few,(x.rows.take (if 200<x.rows.length then 201 else 40)).map Ny⟩
structure Rf where
 c:List UInt8
 t:List UInt8
structure Se where
 n:List UInt8
 e:Ex
structure St where
 op:List UInt8
 tb:List UInt8
 ot:List UInt8
 names:List (List UInt8)
 cols:List Col
 key:List UInt8
 uniq:List (List UInt8)
 refs:List Rf
 chk:Ex
 row:List V
 sets:List Se
 whr:Ex
 role:List UInt8
structure StP where
 names:Sl
 cols:Sl
 uniq:Sl
 refs:Sl
 chk:Sl
 row:Sl
 sets:Sl
 whr:Sl
structure Gr where
 r:List UInt8
 t:List UInt8
 w:Bool
def St.cells(s:St)(p:StP):List Value:=
 [.string ⟨s.op.toArray⟩,.string ⟨s.tb.toArray⟩,.string ⟨s.ot.toArray⟩,.slice p.names.a s.names.length p.names.c,.slice p.cols.a s.cols.length p.cols.c,.string ⟨s.key.toArray⟩,.slice p.uniq.a s.uniq.length p.uniq.c,.slice p.refs.a s.refs.length p.refs.c,
  .string ⟨s.chk.op.toArray⟩,.int .i64 s.chk.v.k,.int .i64 s.chk.v.i,.string ⟨s.chk.v.s.toArray⟩,.string ⟨s.chk.s.toArray⟩,.slice p.chk.a s.chk.l.length p.chk.c,.slice p.row.a s.row.length p.row.c,.slice p.sets.a s.sets.length p.sets.c,
  .string ⟨s.whr.op.toArray⟩,.int .i64 s.whr.v.k,.int .i64 s.whr.v.i,.string ⟨s.whr.v.s.toArray⟩,.string ⟨s.whr.s.toArray⟩,.slice p.whr.a s.whr.l.length p.whr.c,.string ⟨s.role.toArray⟩]
def SQ(l:List (List UInt8))(A:Option Addr)(Q:Nat->Prop)(w:World):Prop:=0<l.length->∃b off,A=some ⟨b,off,none⟩/\Q b/\∀i x,l[i]? = some x->w.cell? ⟨b,off+i,none⟩=some (.string ⟨x.toArray⟩)
def XQ(l:List Rf)(A:Option Addr)(Q:Nat->Prop)(w:World):Prop:=0<l.length->∃b off,A=some ⟨b,off,none⟩/\Q b/\∀i x,l[i]? = some x->w.cell? ⟨b,off+i * 2,none⟩=some (.string ⟨x.c.toArray⟩)/\w.cell? ⟨b,off+i * 2+1,none⟩=some (.string ⟨x.t.toArray⟩)
def ZQ(K n:Nat)(l:List Se)(A:Option Addr)(Q:Nat->Prop)(w:World):Prop:=0<l.length->∃b off,A=some ⟨b,off,none⟩/\Q b/\∀i x,l[i]? = some x->w.cell? ⟨b,off+i * 7,none⟩=some (.string ⟨x.n.toArray⟩) ∧
 ∃A' c',x.e.fit K/\x.e.l.length<=c'/\c'<=maxLen/\Six w b (off+i * 7+1) x.e A' c'/\ExQ K n w Q A' x.e.l
def GQ(l:List Gr)(A:Option Addr)(Q:Nat->Prop)(w:World):Prop:=0<l.length->∃b off,A=some ⟨b,off,none⟩/\Q b/\∀i x,l[i]? = some x->w.cell? ⟨b,off+i * 3,none⟩=some (.string ⟨x.r.toArray⟩)/\w.cell? ⟨b,off+i * 3+1,none⟩=some (.string ⟨x.t.toArray⟩)/\w.cell? ⟨b,off+i * 3+2,none⟩=some (.bool x.w)
section
variable {A : Option Addr} {Q Q' : Nat → Prop} {w w' : World}
theorem SQ.keep{l:List (List UInt8)}(h:SQ l A Q w)(hk:∀b,Q b->Q' b/\∀o,w'.cell? ⟨b,o,none⟩=w.cell? ⟨b,o,none⟩):SQ l A Q' w':=λhl=>by
 obtain⟨b,off,rfl,h1,h2⟩:=h hl;exact⟨b,off,rfl,(hk b h1).1,λi x hx=>((hk b h1).2 _).trans (h2 i x hx)⟩
theorem XQ.keep{l:List Rf}(h:XQ l A Q w)(hk:∀b,Q b->Q' b/\∀o,w'.cell? ⟨b,o,none⟩=w.cell? ⟨b,o,none⟩):XQ l A Q' w':=λhl=>by
 obtain⟨b,off,rfl,h1,h2⟩:=h hl;exact⟨b,off,rfl,(hk b h1).1,λi x hx=>⟨((hk b h1).2 _).trans (h2 i x hx).1,((hk b h1).2 _).trans (h2 i x hx).2⟩⟩
theorem ZQ.keep{K n:Nat}{l:List Se}(h:ZQ K n l A Q w)(hk:∀b,Q b->Q' b/\∀o,w'.cell? ⟨b,o,none⟩=w.cell? ⟨b,o,none⟩):ZQ K n l A Q' w':=λhl=>by
 obtain⟨b,off,rfl,h1,h2⟩:=h hl;refine⟨b,off,rfl,(hk b h1).1,λi x hx=>?_⟩;obtain⟨c0,A',c',f,g1,g2,g3,g4⟩:=h2 i x hx;exact⟨((hk b h1).2 _).trans c0,A',c',f,g1,g2,g3.keep (hk b h1).2,g4.keep hk n⟩
theorem ZQ.ups{K n m:Nat}{l:List Se}(h:ZQ K n l A Q w)(hm:n<=m):ZQ K m l A Q w:=λhl=>by
 obtain⟨b,off,rfl,h1,h2⟩:=h hl;refine⟨b,off,rfl,h1,λi x hx=>?_⟩;obtain⟨c0,A',c',f,g1,g2,g3,g4⟩:=h2 i x hx;exact⟨c0,A',c',f,g1,g2,g3,g4.ups m hm⟩
theorem GQ.keep{l:List Gr}(h:GQ l A Q w)(hk:∀b,Q b->Q' b/\∀o,w'.cell? ⟨b,o,none⟩=w.cell? ⟨b,o,none⟩):GQ l A Q' w':=λhl=>by
 obtain⟨b,off,rfl,h1,h2⟩:=h hl;exact⟨b,off,rfl,(hk b h1).1,λi x hx=>⟨((hk b h1).2 _).trans (h2 i x hx).1,((hk b h1).2 _).trans (h2 i x hx).2.1,((hk b h1).2 _).trans (h2 i x hx).2.2⟩⟩
theorem SQ.nil:SQ [] A Q w:=λh=>absurd h (by simp)
theorem XQ.nil:XQ [] A Q w:=λh=>absurd h (by simp)
theorem ZQ.nil{K n:Nat}:ZQ K n [] A Q w:=λh=>absurd h (by simp)
theorem GQ.nil:GQ [] A Q w:=λh=>absurd h (by simp)
theorem SQ.at_{l:List (List UInt8)}(h:SQ l A Q w){j:Nat}(hj:j<l.length):∃b off x,A=some ⟨b,off,none⟩/\Q b/\l[j]? = some x/\w.cell? ⟨b,off+j,none⟩=some (.string ⟨x.toArray⟩):=by
 obtain⟨b,off,rfl,hb,hr⟩:=h (by omega);exact⟨b,off,l[j],rfl,hb,List.getElem?_eq_getElem hj,hr j _ (List.getElem?_eq_getElem hj)⟩
theorem XQ.at_{l:List Rf}(h:XQ l A Q w){j:Nat}(hj:j<l.length):∃b off x,A=some ⟨b,off,none⟩/\Q b/\l[j]? = some x/\w.cell? ⟨b,off+j * 2,none⟩=some (.string ⟨x.c.toArray⟩)/\w.cell? ⟨b,off+j * 2+1,none⟩=some (.string ⟨x.t.toArray⟩):=by
 obtain⟨b,off,rfl,hb,hr⟩:=h (by omega);exact⟨b,off,l[j],rfl,hb,List.getElem?_eq_getElem hj,hr j _ (List.getElem?_eq_getElem hj)⟩
theorem ZQ.at_{K n:Nat}{l:List Se}(h:ZQ K n l A Q w){j:Nat}(hj:j<l.length):∃b off x A' c',A=some ⟨b,off,none⟩/\Q b/\l[j]? = some x/\w.cell? ⟨b,off+j * 7,none⟩=some (.string ⟨x.n.toArray⟩) ∧
  x.e.fit K/\x.e.l.length<=c'/\c'<=maxLen/\Six w b (off+j * 7+1) x.e A' c'/\ExQ K n w Q A' x.e.l:=by
 obtain⟨b,off,rfl,hb,hr⟩:=h (by omega);obtain⟨c0,A',c',f,g1,g2,g3,g4⟩:=hr j _ (List.getElem?_eq_getElem hj);exact⟨b,off,l[j],A',c',rfl,hb,List.getElem?_eq_getElem hj,c0,f,g1,g2,g3,g4⟩
theorem GQ.at_{l:List Gr}(h:GQ l A Q w){j:Nat}(hj:j<l.length):∃b off x,A=some ⟨b,off,none⟩/\Q b/\l[j]? = some x/\w.cell? ⟨b,off+j * 3,none⟩=some (.string ⟨x.r.toArray⟩)/\w.cell? ⟨b,off+j * 3+1,none⟩=some (.string ⟨x.t.toArray⟩)/\w.cell? ⟨b,off+j * 3+2,none⟩=some (.bool x.w):=by
 obtain⟨b,off,rfl,hb,hr⟩:=h (by omega);exact⟨b,off,l[j],rfl,hb,List.getElem?_eq_getElem hj,hr j _ (List.getElem?_eq_getElem hj)⟩
end
def StQ(K:Nat)(s:St)(p:StP)(Q:Nat->Prop)(w:World):Prop:=
 SQ s.names p.names.a Q w/\CQ s.cols p.cols.a Q w/\SQ s.uniq p.uniq.a Q w/\XQ s.refs p.refs.a Q w/\(∃n,ExQ K n w Q p.chk.a s.chk.l)/\WQ s.row p.row.a Q w/\(∃n,ZQ K n s.sets p.sets.a Q w)/\∃n,ExQ K n w Q p.whr.a s.whr.l
theorem StQ.keep{K:Nat}{s:St}{p:StP}{Q Q':Nat->Prop}{w w':World}(h:StQ K s p Q w)(hk:∀b,Q b->Q' b/\∀o,w'.cell? ⟨b,o,none⟩=w.cell? ⟨b,o,none⟩):StQ K s p Q' w':=by
 obtain⟨h1,h2,h3,h4,⟨n,h5⟩,h6,⟨m,h7⟩,k,h8⟩:=h;exact⟨h1.keep hk,h2.keep hk,h3.keep hk,h4.keep hk,⟨n,h5.keep hk n⟩,h6.keep hk,⟨m,h7.keep hk⟩,k,h8.keep hk k⟩
def OY(w:World):Prop:=w.cell? ⟨0,0,none⟩=some (.string ⟨#[73,78,84]⟩)/\w.cell? ⟨0,1,none⟩=some (.string ⟨#[84,69,88,84]⟩)/\w.cell? ⟨0,2,none⟩=some (.string ⟨#[66,79,79,76]⟩)
theorem OY.below{w w':World}(h:OY w)(hb:Below w.heap.size w w'):OY w':=by
 obtain⟨h0,h1,h2⟩:=h;have hl:=Ag h0;exact⟨(hb.cell (p:=⟨_,0,none⟩) hl).trans h0,(hb.cell (p:=⟨_,1,none⟩) hl).trans h1,(hb.cell (p:=⟨_,2,none⟩) hl).trans h2⟩
def FY(w:World):Prop:=Kq w/\L9 w/\OY w
theorem FY.below{w w':World}(h:FY w)(hb:Below w.heap.size w w'):FY w':=⟨h.1.below hb rfl,h.2.1.below hb rfl,h.2.2.below hb⟩
def Kt(B:Nat)(w:World):Prop:=∃W0:World,FY W0/\W0.heap.size<=B/\Below W0.heap.size W0 w
theorem Kt.below{B B':Nat}{w w':World}(h:Kt B w)(hb:Below B' w w')(hB:B<=B'):Kt B w':=by
 obtain⟨W0,h1,h2,h3⟩:=h;exact⟨W0,h1,h2,h3.trans (hb.mono (Nat.le_trans h2 hB))⟩
theorem Kt.out{B:Nat}{w:World}(h:Kt B w):FY w:=by
 obtain⟨W0,h1,h2,h3⟩:=h;exact h1.below h3
theorem Kt.of{w:World}(h:FY w):Kt w.heap.size w:=⟨w,h,Nat.le_refl _,Below.refl _ _⟩
theorem Kt.more{B B':Nat}{w:World}(h:Kt B w)(hB:B<=B'):Kt B' w:=by
 obtain⟨W0,h1,h2,h3⟩:=h;exact⟨W0,h1,Nat.le_trans h2 hB,h3⟩
end
section
open Go.ChangeShapes Go.WideShapes Go.ChangeAt Go.RowKit Go.Deep Go.Joins
theorem own:ownKnob Tryz.prog.godebug=none:=by kernel_rfl
theorem laidOut:laidOutB Tryz.prog=true:=by kernel_rfl
section
variable {H : Type} {enc : TypeId × Value → H} {P : Program} {w : World} {base : Nat} {spare : Nat → Bool} {held : Bool}
theorem Gw{t e:TypeId}{fs:Array Field}{fuel:Nat}{cs:List Value}{x:DataW H×List MemPlace}(ht:P.underlying t=some (.slice e))(he:P.underlying e=some (.struct fs))
 (hone:oneCellFields P fs=true)(hC:P.cellsOf e=fs.size)(h:DataW.trod enc P w base spare held fuel t cs=some x):
  (cs=[.slice none 0 0]/\x=(.nil,[])) ∨
  ∃(a:Addr) (len cap m:Nat) (D:Nat->DataW H) (Pl:Nat->List MemPlace),cs=[.slice (some a) len cap]/\base<=a.block/\len<=cap/\cap<=maxLen/\m=(if spare a.block then cap else len) ∧
   x=(.slice ((List.range len).map D) ((List.range (m - len)).map λj=>D (len+j)),MemPlace.row a (m * fs.size)++(List.range m).flatMap Pl) ∧
   ∀i,i<m->∃(ys:List (DataW H×List MemPlace)) (n:Nat),D i=.agg (ys.map (·.1))/\Pl i=ys.flatMap (·.2)/\ys.length=fs.size ∧
    ∀(j:Nat) (f:Field),fs[j]? = some f->∃(v:Value) (y:DataW H×List MemPlace),w.cell? (a.add (i * fs.size+j))=some v/\ys[j]? = some y/\DataW.trod enc P w base spare held n f.type [v]=some y:=by
 rcases open_slice ht h with h0|⟨a,len,cap,m,n,D,Pl,hcs,hb,hl,hm,hmm,hx,hi⟩
 ·exact .inl h0
 ·refine .inr ⟨a,len,cap,m,D,Pl,hcs,hb,hl,hm,hmm,by rw[hC]at hx;exact hx,λi him=>?_⟩;obtain⟨cs',hc,ht'⟩:=hi i him;rw[hC]at hc;obtain⟨ys,n',hn',hy,hlen,hyl,hf⟩:=DataW.trod_struct he ht';obtain⟨_,hcl,hat⟩:=World.cells?_some hc;simp only[Prod.mk.injEq]at hy;refine⟨ys,n',hy.1,hy.2,hyl,λj f hj=>?_⟩;obtain⟨ho,hk⟩:=hone_of hone j f hj;have hjl:j<fs.size:=(Array.getElem?_eq_some_iff.1 hj).1;have hcell:=hat j hjl;have hv:cs'[j]? = some (cs'[j]'(by omega)):=List.getElem?_eq_getElem (by omega);have h1:=hf j f hj;rw[ho,hk]at h1;have hone':(cs'.drop j).take 1=[cs'[j]'(by omega)]:=by
   rw[List.drop_eq_getElem_cons (by omega)];rfl
  rw[hone']at h1;have hys:ys[j]? = some (ys[j]'(by omega)):=List.getElem?_eq_getElem (by omega);refine⟨_,_, ?_,hys,h1.trans hys⟩;rw[<-Go.Deep.add_add,hcell,hv]
end
def V.ok(v:V):Prop:=(-9223372036854775808<=v.k/\v.k<=9223372036854775807)/\(-9223372036854775808<=v.i/\v.i<=9223372036854775807)/\v.s.length<=9223372036854775807
theorem IZ{n:Int}(h:(Lit.int .i64 n).wf=true):-9223372036854775808<=n/\n<=9223372036854775807:=by
 simpa[Lit.wf,IntKind.min,IntKind.max,IntKind.signed,IntKind.bits]using h
theorem UD{H:Type}{enc:TypeId×Value->H}{W:World}{fuel:Nat}{c0 c1 c2:Value}{x:DataW H×List MemPlace}
 (hf:DataW.trod enc Tryz.prog W 0 (λ_=>true) true fuel 27 [c0,c1,c2]=some x):
  ∃x:V,c0=.int .i64 x.k/\c1=.int .i64 x.i/\c2=.string ⟨x.s.toArray⟩/\x.ok:=by
 obtain⟨ys,n,_,_,_,hlen,hg⟩:=DataW.trod_struct Tryz.underlying27 hf
 match ys,hlen with
 |[y0,y1,y2],_=>
  have s0:Tryz.prog.cellsOf 3=1:=by kernel_rfl
  have s1:Tryz.prog.cellsOf 2=1:=by kernel_rfl
  have s2:Tryz.prog.cellsOf 9=1:=by kernel_rfl
  have t0:DataW.trod enc Tryz.prog W 0 (λ_=>true) true n 3 (([c0,c1,c2].drop 0).take (Tryz.prog.cellsOf 3))=some y0:=hg 0 _ rfl;have t1:DataW.trod enc Tryz.prog W 0 (λ_=>true) true n 2 (([c0,c1,c2].drop 1).take (Tryz.prog.cellsOf 2))=some y1:=hg 1 _ rfl;have t2:DataW.trod enc Tryz.prog W 0 (λ_=>true) true n 9 (([c0,c1,c2].drop 2).take (Tryz.prog.cellsOf 9))=some y2:=hg 2 _ rfl;rw[s0]at t0;rw[s1]at t1;rw[s2]at t2;obtain⟨k,e0,_,w0⟩:=DataW.trod_int Tryz.underlying3 t0;obtain⟨j,e1,_,w1⟩:=DataW.trod_int Tryz.underlying2 t1;obtain⟨s,e2,_,w2⟩:=DataW.trod_string Tryz.underlying9 t2;simp at e0 e1 e2;subst e0 e1 e2;refine⟨⟨k,j,s.data.toList⟩,rfl,rfl,rfl,IZ w0,IZ w1, ?_⟩;have hsz:s.data.toList.length=s.size:=by rw[Array.length_toList];rfl
  show s.data.toList.length<=9223372036854775807
  unfold maxLen at w2;omega
end
section
open Go.ChangeShapes Go.WideShapes Go.ChangeAt Go.RowKit
theorem Uy{H:Type}{enc:TypeId×Value->H}{a:Assume}{C:Checked}{os:Os}{f:FuncId}{fn:Func}{s:ChangeSpec}{conds:List PathCond}{apart fresh handsOn again:Bool}{X:World->Array Value->Prop}
 (hX:∀(w w':World) (args:Array Value),w.heap=w'.heap->X w args->X w' args)
 (own:ownKnob C.prog.godebug=none)(started:os.Started)(noInit:C.prog.inits.idxOf? f=none)(hfn:C.prog.funcs[f]? = some fn)
 (witness:∃(w:World) (tape:Tape) (i:Input),w.os=os/\(w.forCall tape i).Shaped C.prog/\i.vars=[]/\Input.okWide C.prog (w.forCall tape i) .any w.heap.size f i ∧
   ((s.pre enc C.prog fn conds apart (w.forCall tape i).memory i.args/\X (w.forCall tape i).memory i.args)/\sizedMet enc C.prog fn (OpenSpec.ofChange s) apart (w.forCall tape i).memory i.args)/\a.holds C.prog (lone (Frame.enter C.prog f i.args .normal) [] (w.forCall tape i)))
 (contract:∀(W:World) (base:Nat) (args:Array Value) (ds gs:List (DataW H)) (before:List MemPlace),
   (∀(j:Nat) t v,fn.params[j]? = some t->args[j]? = some v->Value.okWide C.prog W .any base t v)->
   DataW.Whole enc C.prog fn.params.toList s.vars apart W args.toList ds gs before->
   conds.all (PathCond.test C.prog ⟨fn.params.toList,ds,s.plain.varTypes C.prog,gs⟩)=true->
   (DataW.weightsEach C.prog (fn.params.toList++s.plain.varTypes C.prog) (ds++gs)).all (·<=reachBytes)=true->X W args->W.ShapedOpen C.prog->
   a.holds C.prog (lone (Frame.enter C.prog f args .normal) [] W)->
   Calls C.prog f args W λe W'=>∃v,e=.returned v/\s.post enc C.prog fn apart fresh handsOn again W args v W'):
  ReturnsInHanded a C os f .any (λw args=>(s.pre enc C.prog fn conds apart w args/\X w args)/\sizedMet enc C.prog fn (OpenSpec.ofChange s) apart w args) (s.post enc C.prog fn apart fresh handsOn again):=by
 refine returnsInHanded_of_calls own started noInit witness ?_;intro w tape i _ hsh _ hok hpre hholds;obtain⟨_,_,_,fn',hfn',_,_,_,_,hval⟩:=hok;have e:fn'=fn:=Option.some.inj (hfn'.symm.trans hfn);subst e;obtain⟨⟨⟨ds,gs,before,hw,hc⟩,hx⟩,hz⟩:=hpre;have hw':=DataW.Whole.of_heap (w':=w.forCall tape i) (by rfl) hw;refine(contract (w.forCall tape i) w.heap.size i.args ds gs before hval hw' hc (hz.weights hw) (hX _ _ _ (by rfl) hx) hsh hholds).mono λe W' ⟨v,he,hp⟩=>?_
 subst he;exact ChangeSpec.post_blind hp
theorem Yy{W:World}(h:W.ShapedOpen Tryz.prog):Kq W:=
 cell_of_shapedOpen_int (zero:=#[.int .i64 0]) (t:=3) h (by decide +kernel) (by kernel_rfl) rfl (by kernel_rfl) (by kernel_rfl) Tryz.underlying3
end
end Go.Proofs.YtchilcchogcibaaGreatDoor
