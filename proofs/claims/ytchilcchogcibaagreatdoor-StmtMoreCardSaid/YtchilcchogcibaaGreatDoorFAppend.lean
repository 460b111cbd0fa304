/- Plain words for memory; Several reads of a drawn region taken first, one behind the other, by a list of their numbers; and words that stand for a walk's common tactics (short texts); Plain words for tokens; Rows that a call owns, known whole; append onto a row of the call's own, from a slice of values that may be nil. -/
import Derived.WalkKit
import Derived.WalkSpells
import Derived.WalkLawsBesides
import Derived.Lib.OthersKept
import Derived.Lib.TrimU
import Derived.Deep.LoopGhost
import Derived.Lib.Hide
import Derived.Deep.Light
import Derived.Deep.QuietTactic
import Derived.BigQuiet
import Derived.Deep.Draws
import Derived.Deep.OwnRows
import Derived.Maps.AppendAt
import Derived.Deep.AppendLies
import Derived.ProofKit
import Derived.Deep.Slices
import Derived.Deep.Fields
import Derived.Deep.RegionHeld3
import Derived.Laws.CopyRow
import Derived.Lib.Overlaps
import Derived.Lib.AppendZeros
import Derived.Lib.AppendZerosOnto
import Derived.Lib.SliceRun
namespace Go.Proofs.YtchilcchogcibaaGreatDoor
section
open Go.RowKit
structure V where
 k:Int
 i:Int
 s:List UInt8
def V.zero:V:=⟨0,0,[]⟩
def V.cells(v:V):List Value:=[.int .i64 v.k,.int .i64 v.i,.string ⟨v.s.toArray⟩]
theorem V.cells_length(v:V):v.cells.length=3:=rfl
def V.wf(v:V):Prop:=(-9223372036854775808<=v.k/\v.k<=9223372036854775807)/\(-9223372036854775808<=v.i/\v.i<=9223372036854775807)/\v.s.length<=140737488351232
def Wp(w:World)(b off:Nat)(l:List V):Prop:=
 ∀i v,l[i]? = some v->w.cell? ⟨b,off+i * 3,none⟩=some (.int .i64 v.k)/\w.cell? ⟨b,off+i * 3+1,none⟩=some (.int .i64 v.i)/\w.cell? ⟨b,off+i * 3+2,none⟩=some (.string ⟨v.s.toArray⟩)
def VS(w:World)(B:Nat)(A:Option Addr)(l:List V):Prop:=
 0<l.length->∃b off,A=some ⟨b,off,none⟩/\b<B/\Wp w b off l
theorem VS.at_{w:World}{B:Nat}{A:Option Addr}{l:List V}(h:VS w B A l){j:Nat}(hj:j<l.length):
  ∃b off v,A=some ⟨b,off,none⟩/\b<B/\l[j]? = some v/\w.cell? ⟨b,off+j * 3,none⟩=some (.int .i64 v.k)/\w.cell? ⟨b,off+j * 3+1,none⟩=some (.int .i64 v.i)/\w.cell? ⟨b,off+j * 3+2,none⟩=some (.string ⟨v.s.toArray⟩):=by
 obtain⟨b,off,rfl,hb,hr⟩:=h (by omega);have hv:l[j]? = some l[j]:=List.getElem?_eq_getElem hj;obtain⟨h0,h1,h2⟩:=hr j _ hv;exact⟨b,off,l[j],rfl,hb,hv,h0,h1,h2⟩
def VF(w:World)(lo hi:Nat)(A:Option Addr)(l:List V):Prop:=
 0<l.length->∃b off,A=some ⟨b,off,none⟩/\lo<=b/\b<hi/\Wp w b off l
theorem Wp.keep{w w':World}{b off:Nat}{l:List V}(h:Wp w b off l)(hk:∀o,w'.cell? ⟨b,o,none⟩=w.cell? ⟨b,o,none⟩):Wp w' b off l:=by
 intro i v hv;obtain⟨h0,h1,h2⟩:=h i v hv;exact⟨(hk _).trans h0,(hk _).trans h1,(hk _).trans h2⟩
section
variable {w w' : World} {lo hi : Nat} {A : Option Addr} {l : List V}
theorem VF.vs(h:VF w lo hi A l){B:Nat}(hB:hi<=B):VS w B A l:=λhl=>by
 obtain⟨b,off,rfl,_,h2,h3⟩:=h hl;exact⟨b,off,rfl,by omega,h3⟩
theorem VF.below(h:VF w lo hi A l){B:Nat}(hb:Below B w w')(hB:hi<=B):VF w' lo hi A l:=λhl=>by
 obtain⟨b,off,rfl,h1,h2,h3⟩:=h hl;exact⟨b,off,rfl,h1,h2,h3.keep λo=>hb.cell (p:=⟨b,o,none⟩) (by show b<B;omega)⟩
theorem VF.alloc(h:VF w lo hi A l)(hB:hi<=w.heap.size)(o:Obj):VF (w.alloc o) lo hi A l:=h.below ((Below.refl w.heap.size w).alloc (Nat.le_refl _) o) hB
theorem VF.drew(h:VF w lo hi A l):VF w.drew lo hi A l:=h
theorem VF.drewN(h:VF w lo hi A l)(n:Nat):VF (w.drewN n) lo hi A l:=h
theorem VF.setCell(h:VF w lo hi A l){p:Addr}(hp:p.block<lo\/hi<=p.block)(u:Value):VF (w.setCell p u) lo hi A l:=λhl=>by
 obtain⟨b,off,rfl,h1,h2,h3⟩:=h hl;exact⟨b,off,rfl,h1,h2,h3.keep λo=>World.cell?_setCell_other w p ⟨b,o,none⟩ u (λe=>by subst e;simp only at hp;omega)⟩
end
theorem VS.below{w w':World}{B:Nat}{A:Option Addr}{l:List V}(h:VS w B A l)(hb:Below B w w'):VS w' B A l:=by
 intro hl;obtain⟨b,off,rfl,hbB,hr⟩:=h hl;refine⟨b,off,rfl,hbB,λi v hv=>?_⟩;obtain⟨h0,h1,h2⟩:=hr i v hv;exact⟨(hb.cell (p:=⟨b,_,none⟩) hbB).trans h0,(hb.cell (p:=⟨b,_,none⟩) hbB).trans h1,(hb.cell (p:=⟨b,_,none⟩) hbB).trans h2⟩
theorem VS.more{w:World}{B B':Nat}{A:Option Addr}{l:List V}(h:VS w B A l)(hB:B<=B'):VS w B' A l:=by
 intro hl;obtain⟨b,off,rfl,hbB,hr⟩:=h hl;exact⟨b,off,rfl,by omega,hr⟩
theorem VS.nil{w:World}{B:Nat}{A:Option Addr}:VS w B A []:=λh=>absurd h (by simp)
theorem VS.take{w:World}{B:Nat}{A:Option Addr}{l:List V}(h:VS w B A l)(n:Nat):VS w B A (l.take n):=by
 intro hl;obtain⟨b,off,rfl,hbB,hr⟩:=h (by rw[List.length_take]at hl;omega);refine⟨b,off,rfl,hbB,λi v hv=>hr i v ?_⟩;rw[List.getElem?_take]at hv;split at hv
 ·exact hv
 ·cases hv
theorem add_mid(b o j:Nat):(⟨b,o,none⟩:Addr).add j=⟨b,o+j,none⟩:=by unfold Addr.add;split<;>simp_all
theorem SN:∀(l:List V) (i j:Nat) (v:V),l[i]? = some v->j<3->(l.flatMap V.cells)[i * 3+j]? = v.cells[j]? :=by
 intro l
 induction l with
 |nil=>intro i j v h;simp at h
 |cons x r ih=>
  intro i j v h hj;cases i with
  |zero=>
   simp at h;subst h;rw[List.flatMap_cons,List.getElem?_append_left (by rw[V.cells_length];omega)];simp
  |succ i=>
   rw[List.flatMap_cons,List.getElem?_append_right (by rw[V.cells_length];omega),V.cells_length];have e:(i+1) * 3+j - 3=i * 3+j:=by omega
   rw[e];exact ih i j v (by simpa using h) hj
theorem LZ(l:List V):(l.flatMap V.cells).length=l.length * 3:=by
 induction l with
 |nil=>rfl
 |cons x r ih=>rw[List.flatMap_cons,List.length_append,ih,V.cells_length,List.length_cons];omega
theorem Pg(l:List V):∀u∈l.flatMap V.cells,u.oneCell'=true:=by
 intro u hu;rw[List.mem_flatMap]at hu;obtain⟨v,_,hv⟩:=hu;simp only[V.cells,List.mem_cons,List.not_mem_nil,or_false]at hv;rcases hv with rfl|rfl|rfl<;>rfl
theorem VS.own{w:World}{base:Nat}{e:TypeId}{sv:Value}{n:Nat}{l:List V}(h:w.ownsRow base e 3 sv n (l.flatMap V.cells)):
  ∃A c,sv=.slice A l.length c/\l.length<=c/\c<=maxLen/\VF w base w.heap.size A l:=by
 have hn:l.length=n:=by have:=h.1;rw[LZ]at this;omega
 rcases h.2 with⟨rfl,h0⟩|⟨g,cap,cur,rfl,hb,hg,hnc,hcm,hcs,htk⟩
 ·refine⟨none,0, ?_,by omega,Nat.zero_le _,λhl=>absurd hl (by omega)⟩;rw[hn,h0]
 ·refine⟨some ⟨g,0,none⟩,cap,by rw[hn],by omega,hcm,λ_=>⟨g,0,rfl,hb, ?_, ?_⟩⟩
  ·exact(Array.getElem?_eq_some_iff.1 hg).1
  ·intro i v hv;have hc:=h.cells (g:=g) rfl;have key:∀j u,j<3->v.cells[j]? = some u->w.cell? ⟨g,0+i * 3+j,none⟩=some u:=by
    intro j u hj hu;have:=hc (i * 3+j) u (by rw[SN l i j v hv hj];exact hu);rw[add_mid]at this;rw[Nat.add_assoc];exact this
   exact⟨key 0 _ (by omega) rfl,key 1 _ (by omega) rfl,key 2 _ (by omega) rfl⟩
theorem EJ{W w1:World}{B:Nat}(hb:Below B W w1):(∀b o,b<B->w1.cell? ⟨b,o,none⟩=W.cell? ⟨b,o,none⟩)/\(∀b o,b<B->w1.frozen? ⟨b,o,none⟩=W.frozen? ⟨b,o,none⟩):=
 ⟨λb o h=>hb.cell (p:=⟨b,o,none⟩) h,λb o h=>hb.frozen (p:=⟨b,o,none⟩) h⟩
theorem SS{B:Nat}{a w:World}(h:Below B a w)(n:Nat):Below B a (w.drewN n):=⟨h.os,h.tape,h.output,h.size,h.block⟩
section
variable {B B' : Nat} {a w w' : World}
theorem bwR:Below B w w:=Below.refl B w
theorem bwD(h:Below B a w):Below B a w.drew:=h.drew
theorem bwN{n:Nat}(h:Below B a w):Below B a (w.drewN n):=SS h n
theorem bwS{p:Addr}{u:Value}(h:Below B a w)(hp:B<=p.block):Below B a (w.setCell p u):=h.setCell hp u
theorem bwA{o:Obj}(h:Below B a w)(hB:B<=w.heap.size):Below B a (w.alloc o):=h.alloc hB o
theorem bwT(h:Below B a w)(k:Below B' w w')(hB:B<=B'):Below B a w':=h.trans (k.mono hB)
theorem bl(h:Below B a w:=by((with_reducible repeat'(first|exact bwR|assumption|refine bwD ?_|refine bwN ?_|refine bwS ?_ ?_|refine bwA ?_ ?_|refine bwT ?_ (by assumption) ?_))<;>first|(simp;done)|(simp;omega)|omega)):Below B a w:=h
end
theorem Zg(s:List UInt8):(⟨s.toArray⟩:ByteArray).size=s.length:=rfl
theorem Ak(s:List UInt8)(j:Nat)(h:j<(⟨s.toArray⟩:ByteArray).size):(⟨s.toArray⟩:ByteArray)[j]'h=s[j]'(by rw[Zg]at h;exact h):=rfl
theorem AY(a b:List UInt8):(⟨a.toArray⟩:ByteArray)++⟨b.toArray⟩=⟨(a++b).toArray⟩:=by
 apply ByteArray.ext;simp[ByteArray.data_append]
theorem PZ(s:ByteArray)(k:Nat)(h:k<s.size):s.data.toList.drop k=s[k]::s.data.toList.drop (k+1):=by
 rw[List.drop_eq_getElem_cons (by simpa using h)];rfl
theorem CJ{w w':World}{base:Nat}{e:TypeId}{size:Nat}{v:Value}{n:Nat}{xs:List Value}(h:w.ownsRow base e size v n xs)(hb:Below w.heap.size w w'):w'.ownsRow base e size v n xs:=by
 refine⟨h.1, ?_⟩;rcases h.2 with h2|⟨g,cap,cur,hv,hg,hh,r⟩
 ·exact Or.inl h2
 ·exact Or.inr ⟨g,cap,cur,hv,hg,(hb.block g (Array.getElem?_eq_some_iff.1 hh).1).trans hh,r⟩
def Blk(w:World)(g:Nat)(t:TypeId)(cs:Array Value):Prop:=w.heap[g]? = some (.cells cs t (0,0))
section
variable {w w' : World} {g : Nat} {t : TypeId} {cs : Array Value}
theorem Blk.lt(h:Blk w g t cs):g<w.heap.size:=by
 rcases Nat.lt_or_ge g w.heap.size with hlt|hge
 ·exact hlt
 ·unfold Blk at h;rw[Array.getElem?_eq_none hge]at h;cases h
theorem Blk.cell(h:Blk w g t cs)(i:Nat):w.cell? ⟨g,i,none⟩=cs[i]? :=cell_of_row w g i cs t (0,0) h
theorem Blk.frozen(h:Blk w g t cs)(i:Nat):w.frozen? ⟨g,i,none⟩=false:=by
 unfold Blk at h;simp[World.frozen?,h]
theorem Blk.new(w:World)(t:TypeId)(cs:Array Value):Blk (w.alloc (.cells cs t)) w.heap.size t cs:=heap_alloc_new w _
theorem Blk.drew(h:Blk w g t cs):Blk w.drew g t cs:=h
theorem Blk.drewN(h:Blk w g t cs)(n:Nat):Blk (w.drewN n) g t cs:=h
theorem Blk.alloc(h:Blk w g t cs)(o:Obj):Blk (w.alloc o) g t cs:=(Below.heap_alloc w o g h.lt).trans h
theorem Blk.set_(h:Blk w g t cs)(i:Nat)(u:Value):Blk (w.setCell ⟨g,i,none⟩ u) g t (cs.setIfInBounds i u):=by
 unfold Blk at h ⊢;simp[World.setCell,Array.getElem?_modify,h]
theorem Blk.far(h:Blk w g t cs){p:Addr}(hp:g≠p.block)(u:Value):Blk (w.setCell p u) g t cs:=(Below.heap_setCell w p u g hp).trans h
theorem Blk.below{B:Nat}(h:Blk w g t cs)(hb:Below B w w')(hg:g<B):Blk w' g t cs:=(hb.block g hg).trans h
theorem Blk.grown{row:Option Nat}(h:Blk w g t cs)(hb:w.grownBy w' row)(hg:some g≠row):Blk w' g t cs:=(hb.block g h.lt hg).trans h
theorem Blk.new'(w:World)(n:Nat)(t:TypeId)(cs:Array Value)(hn:w.heap.size=n):Blk (w.alloc (.cells cs t)) n t cs:=by subst hn;exact Blk.new w t cs
def BD(w:World)(g:Nat)(t:TypeId):Prop:=∃x0 x1 x2,Blk w g t #[x0,x1,x2]
theorem BD.new'(w:World)(n:Nat)(t:TypeId)(x0 x1 x2:Value)(hn:w.heap.size=n):BD (w.alloc (.cells #[x0,x1,x2] t)) n t:=⟨x0,x1,x2,Blk.new' w n t _ hn⟩
theorem BD.drew(h:BD w g t):BD w.drew g t:=h
theorem BD.drewN(h:BD w g t)(n:Nat):BD (w.drewN n) g t:=h
theorem BD.alloc(h:BD w g t)(o:Obj):BD (w.alloc o) g t:=by obtain⟨x0,x1,x2,h⟩:=h;exact⟨x0,x1,x2,h.alloc o⟩
theorem BD.far(h:BD w g t){p:Addr}(hp:g≠p.block)(u:Value):BD (w.setCell p u) g t:=by obtain⟨x0,x1,x2,h⟩:=h;exact⟨x0,x1,x2,h.far hp u⟩
theorem BD.below{B:Nat}(h:BD w g t)(hb:Below B w w')(hg:g<B):BD w' g t:=by obtain⟨x0,x1,x2,h⟩:=h;exact⟨x0,x1,x2,h.below hb hg⟩
theorem Blk.set3(h:BD w g t)(y0 y1 y2:Value):Blk (((w.setCell ⟨g,0,none⟩ y0).setCell ⟨g,1,none⟩ y1).setCell ⟨g,2,none⟩ y2) g t #[y0,y1,y2]:=by
 obtain⟨x0,x1,x2,h⟩:=h;exact((h.set_ 0 y0).set_ 1 y1).set_ 2 y2
theorem Blk.three{x0 x1 x2:Value}(h:Blk w g t #[x0,x1,x2]):(w.cell? ⟨g,0,none⟩=some x0/\w.cell? ⟨g,1,none⟩=some x1/\w.cell? ⟨g,2,none⟩=some x2)/\(w.frozen? ⟨g,0,none⟩=false/\w.frozen? ⟨g,1,none⟩=false/\w.frozen? ⟨g,2,none⟩=false):=
 ⟨⟨h.cell 0,h.cell 1,h.cell 2⟩,h.frozen 0,h.frozen 1,h.frozen 2⟩
theorem Blk.two{x0 x1:Value}(h:Blk w g t #[x0,x1]):(w.cell? ⟨g,0,none⟩=some x0/\w.cell? ⟨g,1,none⟩=some x1)/\(w.frozen? ⟨g,0,none⟩=false/\w.frozen? ⟨g,1,none⟩=false):=
 ⟨⟨h.cell 0,h.cell 1⟩,h.frozen 0,h.frozen 1⟩
end
def Ret(v:Value)(w:World)(e:Ending)(w':World):Prop:=e=.returned v/\Below w.heap.size w w'
def Zn(l:List V)(w:World)(e:Ending)(w':World):Prop:=
 ∃A c,e=.returned (.slice A l.length c)/\l.length<=c/\c<=maxLen/\VF w' w.heap.size w'.heap.size A l/\Below w.heap.size w w'
end
section
open Go Go.RowKit
theorem ap{X Z:Prop}(k:Z)(h:X=Z:=by((try simp only[Act.put,List.getElem_toArray,List.getElem_cons_zero,List.getElem_cons_succ,List.setIfInBounds_toArray,List.set_cons_zero,List.set_cons_succ]);first|done|with_reducible rfl)):X:=h ▸ k
section
variable {P : Program} {ops : Array Oper} {Q : Exit → Act → World → Prop} {md : Region.Mode} {S : World → Prop} {fuel : Nat} {listed : Array Bool} {a : Act} {w : World}
def Kv(_is:List Nat)(P:Program)(md:Region.Mode)(ops:Array Oper)(Q:Exit->Act->World->Prop)(S:World->Prop)(fuel:Nat)(listed:Array Bool)(a:Act)(w:World):Prop:=wpAnyH P md ops Q S fuel listed a w
theorem tS(is:List Nat)(h:Kv is P md ops Q S fuel listed a w):wpAnyH P md ops Q S fuel listed a w:=h
theorem tN(h:wpAnyH P md ops Q S fuel listed a w):Kv [] P md ops Q S fuel listed a w:=h
theorem tC{i:Nat}{is:List Nat}{oi:Oper}{v:Value}
 (h:Kv is P md ops Q S fuel (listed.setIfInBounds i true) (a.put oi.dst v) w)
 (hi:ops[i]? = some oi:=by rfl)(hs:Region.noSelect ops=true:=by kernel_rfl)(hf:Region.free md ops listed i=true:=by kernel_rfl)(hr:(Region.ready md ops listed).contains i=true:=by kernel_rfl)
 (hQ:∀c a w,Q (.panic c) (a.put oi.dst v) w->Q (.panic c) a w:=by exactλ_ _ _ h=>h)
 (hy:YieldsIf P ops S oi v a:=by(refine Or.inl ⟨by rfl, ?_⟩;intro wq hSw;(try dsimp only at hSw);go_simp;first|done|with_reducible rfl|rw[if_neg (by omega)]))
 (hS:S w:=by assumption):Kv (i::is) P md ops Q S (fuel+1) listed a w:=
 wpAnyH_take hi hs hf hr hQ hy hS h
theorem tX{i:Nat}{is:List Nat}{oi:Oper}
 (h:Kv is P md ops Q S fuel (listed.setIfInBounds i true) (a.put oi.dst undef) w)
 (hi:ops[i]? = some oi:=by rfl)(hs:Region.noSelect ops=true:=by kernel_rfl)(hf:Region.free md ops listed i=true:=by kernel_rfl)(hr:(Region.ready md ops listed).contains i=true:=by kernel_rfl)
 (hQ:∀c a w,Q (.panic c) (a.put oi.dst undef) w->Q (.panic c) a w:=by exactλ_ _ _ h=>h)
 (hy:YieldsIf P ops S oi undef a:=by exact Or.inr ⟨by rfl,rfl⟩)
 (hS:S w:=by assumption):Kv (i::is) P md ops Q S (fuel+1) listed a w:=
 wpAnyH_take hi hs hf hr hQ hy hS h
theorem rgn{id:Nat}{w0:World}(HS:Hid (∀Z:World,Below w0.heap.size w0 Z->S Z))(h:S w.drew->wpAnyH P .any ops Q S ops.size (Array.replicate ops.size false) a w.drew)
 (hb:Below w0.heap.size w0 w.drew:=by exact bl)(hm:P.follows .mixedOrders=true:=by kernel_rfl):(Code.region id ops true).wp P Q a w:=
 wp_region_held_drew hm (HS.out _ hb) h
theorem rdy(i:Nat){o:Oper}(h:∀K':Act->World->Prop,Shut (∀a w,S w->(S w->wpAnyH P md ops Q S fuel (listed.setIfInBounds i true) a w)->K' a w)->if Region.wanted o (yielded ops a.tmps)=true then Oper.wp P o a w K' Q else K' (a.put o.dst undef) w)
 (hr:Region.ready md ops listed=[i]:=by kernel_rfl)(ho:ops[i]? = some o:=by rfl):wpAnyH P md ops Q S (fuel+1) listed a w:=
 wpAnyH_ready hr (by simp) (AllReadyH.cons ho h AllReadyH.nil)
end
end
section
open Go.RowKit
structure Tok where
 k:Int
 s:List UInt8
def Tok.cells(t:Tok):List Value:=[.int .i64 t.k,.string ⟨t.s.toArray⟩]
theorem Tok.cells_length(t:Tok):t.cells.length=2:=rfl
def SV(w:World)(b off:Nat)(l:List Tok):Prop:=∀i v,l[i]? = some v->w.cell? ⟨b,off+i * 2,none⟩=some (.int .i64 v.k)/\w.cell? ⟨b,off+i * 2+1,none⟩=some (.string ⟨v.s.toArray⟩)
def TkS(w:World)(B:Nat)(A:Option Addr)(l:List Tok):Prop:=0<l.length->∃b off,A=some ⟨b,off,none⟩/\b<B/\SV w b off l
def TkF(w:World)(lo hi:Nat)(A:Option Addr)(l:List Tok):Prop:=0<l.length->∃b off,A=some ⟨b,off,none⟩/\lo<=b/\b<hi/\SV w b off l
section
variable {w w' : World} {A : Option Addr} {l : List Tok}
theorem TkS.at_{B:Nat}(h:TkS w B A l){j:Nat}(hj:j<l.length):
  ∃b off v,A=some ⟨b,off,none⟩/\b<B/\l[j]? = some v/\w.cell? ⟨b,off+j * 2,none⟩=some (.int .i64 v.k)/\w.cell? ⟨b,off+j * 2+1,none⟩=some (.string ⟨v.s.toArray⟩):=by
 obtain⟨b,off,rfl,hb,hr⟩:=h (by omega);have hv:l[j]? = some l[j]:=List.getElem?_eq_getElem hj;obtain⟨h0,h1⟩:=hr j _ hv;exact⟨b,off,l[j],rfl,hb,hv,h0,h1⟩
theorem SV.keep{b off:Nat}(h:SV w b off l)(hk:∀o,w'.cell? ⟨b,o,none⟩=w.cell? ⟨b,o,none⟩):SV w' b off l:=by
 intro i v hv;obtain⟨h0,h1⟩:=h i v hv;exact⟨(hk _).trans h0,(hk _).trans h1⟩
theorem TkS.below{B:Nat}(h:TkS w B A l)(hb:Below B w w'):TkS w' B A l:=λhl=>by
 obtain⟨b,off,rfl,hbB,hr⟩:=h hl;exact⟨b,off,rfl,hbB,hr.keep λo=>hb.cell (p:=⟨b,o,none⟩) hbB⟩
theorem TkS.more{B B':Nat}(h:TkS w B A l)(hB:B<=B'):TkS w B' A l:=λhl=>by
 obtain⟨b,off,rfl,hbB,hr⟩:=h hl;exact⟨b,off,rfl,by omega,hr⟩
theorem TkS.nil{B:Nat}:TkS w B A []:=λh=>absurd h (by simp)
theorem TkF.nil{lo hi:Nat}:TkF w lo hi A []:=λh=>absurd h (by simp)
theorem TkF.vs{lo hi B:Nat}(h:TkF w lo hi A l)(hB:hi<=B):TkS w B A l:=λhl=>by
 obtain⟨b,off,rfl,_,h2,h3⟩:=h hl;exact⟨b,off,rfl,by omega,h3⟩
theorem TkF.below{lo hi B:Nat}(h:TkF w lo hi A l)(hb:Below B w w')(hB:hi<=B):TkF w' lo hi A l:=λhl=>by
 obtain⟨b,off,rfl,h1,h2,h3⟩:=h hl;exact⟨b,off,rfl,h1,h2,h3.keep λo=>hb.cell (p:=⟨b,o,none⟩) (by show b<B;omega)⟩
end
theorem Zj:∀(l:List Tok) (i j:Nat) (v:Tok),l[i]? = some v->j<2->(l.flatMap Tok.cells)[i * 2+j]? = v.cells[j]? :=by
 intro l
 induction l with
 |nil=>intro i j v h;simp at h
 |cons x r ih=>
  intro i j v h hj;cases i with
  |zero=>
   simp at h;subst h;rw[List.flatMap_cons,List.getElem?_append_left (by rw[Tok.cells_length];omega)];simp
  |succ i=>
   rw[List.flatMap_cons,List.getElem?_append_right (by rw[Tok.cells_length];omega),Tok.cells_length];have e:(i+1) * 2+j - 2=i * 2+j:=by omega
   rw[e];exact ih i j v (by simpa using h) hj
theorem Zy(l:List Tok):(l.flatMap Tok.cells).length=l.length * 2:=by
 induction l with
 |nil=>rfl
 |cons x r ih=>rw[List.flatMap_cons,List.length_append,ih,Tok.cells_length,List.length_cons];omega
theorem Zx(l:List Tok):∀u∈l.flatMap Tok.cells,u.oneCell'=true:=by
 intro u hu;rw[List.mem_flatMap]at hu;obtain⟨v,_,hv⟩:=hu;simp only[Tok.cells,List.mem_cons,List.not_mem_nil,or_false]at hv;rcases hv with rfl|rfl<;>rfl
theorem TkS.own{w:World}{base:Nat}{e:TypeId}{sv:Value}{n:Nat}{l:List Tok}(h:w.ownsRow base e 2 sv n (l.flatMap Tok.cells)):
  ∃A c,sv=.slice A l.length c/\l.length<=c/\c<=maxLen/\TkF w base w.heap.size A l:=by
 have hn:l.length=n:=by have:=h.1;rw[Zy]at this;omega
 rcases h.2 with⟨rfl,h0⟩|⟨g,cap,cur,rfl,hb,hg,hnc,hcm,hcs,htk⟩
 ·refine⟨none,0, ?_,by omega,Nat.zero_le _,λhl=>absurd hl (by omega)⟩;rw[hn,h0]
 ·refine⟨some ⟨g,0,none⟩,cap,by rw[hn],by omega,hcm,λ_=>⟨g,0,rfl,hb, ?_, ?_⟩⟩
  ·exact(Array.getElem?_eq_some_iff.1 hg).1
  ·intro i v hv;have hc:=h.cells (g:=g) rfl;have key:∀j u,j<2->v.cells[j]? = some u->w.cell? ⟨g,0+i * 2+j,none⟩=some u:=by
    intro j u hj hu;have:=hc (i * 2+j) u (by rw[Zj l i j v hv hj];exact hu);rw[add_mid]at this;rw[Nat.add_assoc];exact this
   exact⟨key 0 _ (by omega) rfl,key 1 _ (by omega) rfl⟩
theorem tk_block{w:World}{g:Nat}{e:TypeId}{l:List Tok}(h:Blk w g e (l.flatMap Tok.cells).toArray):TkS w w.heap.size (some ⟨g,0,none⟩) l:=by
 intro _;refine⟨g,0,rfl,h.lt,λi v hv=>?_⟩;have key:∀j u,j<2->v.cells[j]? = some u->w.cell? ⟨g,0+i * 2+j,none⟩=some u:=by
  intro j u hj hu;rw[h.cell,List.getElem?_toArray,Nat.zero_add,Zj l i j v hv hj];exact hu
 exact⟨key 0 _ (by omega) rfl,key 1 _ (by omega) rfl⟩
def Zp(l:List Tok)(n:Int)(w:World)(e:Ending)(w':World):Prop:=
 ∃A c,e=.returned (.tuple #[.slice A l.length c,.int .i64 n])/\l.length<=c/\c<=maxLen/\TkF w' w.heap.size w'.heap.size A l/\Below w.heap.size w w'
theorem Blk.row{w:World}{g:Nat}{t:TypeId}{cur:Array Value}(h:Blk w g t cur)(cs:Array Value):Blk (w.setRow g cs) g t cs:=setRow_heap w g cur cs t (0,0) h
theorem BI(w:World)(g k:Nat)(cs:Array Value)(hk:k≠g):(w.setRow g cs).heap[k]? = w.heap[k]? :=by
 unfold World.setRow;simp only;rw[Array.getElem?_modify,if_neg (Ne.symm hk)]
theorem Bg(w:World)(g:Nat)(cs:Array Value):(w.setRow g cs).heap.size=w.heap.size:=by unfold World.setRow;simp
theorem Df{B:Nat}{a w:World}{g:Nat}(h:Below B a w)(hg:B<=g)(cs:Array Value):Below B a (w.setRow g cs):=
 ⟨h.os,h.tape,h.output,by rw[Bg];exact h.size,λk hk=>(BI w g k cs (by omega)).trans (h.block k hk)⟩
theorem Blk.own{w:World}{base g:Nat}{t:TypeId}{cur:Array Value}{size n cap:Nat}{xs:List Value}(h:Blk w g t cur)(hb:base<=g)(hn:n<=cap)(hc:cap<=maxLen)(hs:cur.size=cap * size)(hx:cur.toList.take (n * size)=xs):
  w.ownsRow base t size (.slice (some ⟨g,0,none⟩) n cap) n xs:=by
 refine⟨?_,.inr ⟨g,cap,cur,rfl,hb,h,hn,hc,hs,hx⟩⟩;rw[<-hx,List.length_take,Array.length_toList,hs];exact Nat.min_eq_left (Nat.mul_le_mul_right _ hn)
def Reads(w:World)(B size:Nat)(A:Option Addr)(n:Nat)(xs:List Value):Prop:=
 xs.length=n * size/\(0<n->∃ad,A=some ad/\ad.block<B/\∀j u,xs[j]? = some u->w.cell? (ad.add j)=some u)
theorem VS.reads{w:World}{B:Nat}{A:Option Addr}{l:List V}(h:VS w B A l):Reads w B 3 A l.length (l.flatMap V.cells):=by
 refine⟨LZ l,λhn=>?_⟩;obtain⟨b,off,rfl,hb,hr⟩:=h hn;refine⟨⟨b,off,none⟩,rfl,hb,λj u hu=>?_⟩;have hj:j<(l.flatMap V.cells).length:=by
  rcases Nat.lt_or_ge j (l.flatMap V.cells).length with h1|h1
  ·exact h1
  ·rw[List.getElem?_eq_none h1]at hu;cases hu
 rw[LZ]at hj;have hi:j / 3<l.length:=by omega
 have hv:l[j / 3]? = some l[j / 3]:=List.getElem?_eq_getElem hi;have e:j=j / 3 * 3+j % 3:=by omega
 have hc:=SN l (j / 3) (j % 3) _ hv (Nat.mod_lt _ (by omega));rw[<-e,hu]at hc;obtain⟨h0,h1,h2⟩:=hr (j / 3) _ hv;rw[add_mid];have hm:j % 3=0\/j % 3=1\/j % 3=2:=by omega
 rcases hm with hm|hm|hm<;>rw[hm]at hc e<;>simp[V.cells]at hc<;>subst hc
 ·rw[show off+j=off+j / 3 * 3 by omega];exact h0
 ·rw[show off+j=off+j / 3 * 3+1 by omega];exact h1
 ·rw[show off+j=off+j / 3 * 3+2 by omega];exact h2
end
end Go.Proofs.YtchilcchogcibaaGreatDoor
