/- Plain words for expressions (trees) and columns; Plain laws on replacing; Plain law; What expressions may be, and come to, as plain functions. -/
import Derived.Lib.Replace
import Derived.Test.YtchilcchogcibaaGreatDoorFStage2
namespace Go.Proofs.YtchilcchogcibaaGreatDoor
section
open Go.RowKit
inductive Ex where
 |mk (op:List UInt8) (v:V) (s:List UInt8) (l:List Ex)
def Ex.op:Ex->List UInt8 | .mk o _ _ _=>o
def Ex.v:Ex->V | .mk _ v _ _=>v
def Ex.s:Ex->List UInt8 | .mk _ _ s _=>s
def Ex.l:Ex->List Ex | .mk _ _ _ l=>l
theorem Ex.eta(e:Ex):e=.mk e.op e.v e.s e.l:=by cases e;rfl
def Ex.cells(e:Ex)(A:Option Addr)(c:Nat):List Value:=
 [.string ⟨e.op.toArray⟩,.int .i64 e.v.k,.int .i64 e.v.i,.string ⟨e.v.s.toArray⟩,.string ⟨e.s.toArray⟩,.slice A e.l.length c]
def Six(w:World)(b o:Nat)(e:Ex)(A:Option Addr)(c:Nat):Prop:=
 w.cell? ⟨b,o,none⟩=some (.string ⟨e.op.toArray⟩)/\w.cell? ⟨b,o+1,none⟩=some (.int .i64 e.v.k)/\w.cell? ⟨b,o+2,none⟩=some (.int .i64 e.v.i) ∧
  w.cell? ⟨b,o+3,none⟩=some (.string ⟨e.v.s.toArray⟩)/\w.cell? ⟨b,o+4,none⟩=some (.string ⟨e.s.toArray⟩)/\w.cell? ⟨b,o+5,none⟩=some (.slice A e.l.length c)
def Ex.fit(K:Nat)(e:Ex):Prop:=(-9223372036854775808<=e.v.i/\e.v.i<=9223372036854775807)/\e.op.length<=K/\e.s.length<=K/\e.v.s.length<=K
def ExS(K:Nat):Nat->World->Nat->Option Addr->List Ex->Prop
 |0,_,_,_,l=>l=[]
 |n+1,w,B,A,l=>0<l.length->∃b off,A=some ⟨b,off,none⟩/\b<B/\∀i e,l[i]? = some e->
   ∃A' c',e.fit K/\e.l.length<=c'/\c'<=maxLen/\Six w b (off+i * 6) e A' c'/\ExS K n w B A' e.l
theorem Six.keep{w w':World}{b o:Nat}{e:Ex}{A:Option Addr}{c:Nat}(h:Six w b o e A c)(hk:∀o,w'.cell? ⟨b,o,none⟩=w.cell? ⟨b,o,none⟩):Six w' b o e A c:=by
 obtain⟨h0,h1,h2,h3,h4,h5⟩:=h;exact⟨(hk _).trans h0,(hk _).trans h1,(hk _).trans h2,(hk _).trans h3,(hk _).trans h4,(hk _).trans h5⟩
theorem ExS.nil{K:Nat}{w:World}{B:Nat}{A:Option Addr}:∀n,ExS K n w B A []
 |0=>rfl
 |_+1=>λh=>absurd h (by simp)
theorem ExS.below{K:Nat}{w w':World}{B:Nat}:∀(n:Nat) {A:Option Addr} {l:List Ex},ExS K n w B A l->Below B w w'->ExS K n w' B A l
 |0,_,_,h,_=>h
 |n+1,_,_,h,hb=>λhl=>by
  obtain⟨b,off,rfl,hbB,hr⟩:=h hl;refine⟨b,off,rfl,hbB,λi e he=>?_⟩;obtain⟨A',c',hf,h1,h2,h3,h4⟩:=hr i e he;exact⟨A',c',hf,h1,h2,h3.keep λo=>hb.cell (p:=⟨b,o,none⟩) hbB,h4.below n hb⟩
theorem ExS.more{K:Nat}{w:World}{B B':Nat}(hB:B<=B'):∀(n:Nat) {A:Option Addr} {l:List Ex},ExS K n w B A l->ExS K n w B' A l
 |0,_,_,h=>h
 |n+1,_,_,h=>λhl=>by
  obtain⟨b,off,rfl,hbB,hr⟩:=h hl;refine⟨b,off,rfl,by omega,λi e he=>?_⟩;obtain⟨A',c',hf,h1,h2,h3,h4⟩:=hr i e he;exact⟨A',c',hf,h1,h2,h3,h4.more hB n⟩
theorem ExS.up{K:Nat}{w:World}{B:Nat}:∀(n:Nat) {A:Option Addr} {l:List Ex},ExS K n w B A l->ExS K (n+1) w B A l
 |0,_,_,h=>by cases h;exact ExS.nil 1
 |n+1,_,_,h=>λhl=>by
  obtain⟨b,off,rfl,hbB,hr⟩:=h hl;refine⟨b,off,rfl,hbB,λi e he=>?_⟩;obtain⟨A',c',hf,h1,h2,h3,h4⟩:=hr i e he;exact⟨A',c',hf,h1,h2,h3,h4.up n⟩
theorem ExS.ups{K:Nat}{w:World}{B:Nat}{A:Option Addr}{l:List Ex}{n:Nat}(h:ExS K n w B A l):∀m,n<=m->ExS K m w B A l
 |0,hm=>by
  have:n=0:=by omega
  subst this;exact h
 |m+1,hm=>by
  by_cases e:n=m+1
  ·subst e;exact h
  ·exact(h.ups m (by omega)).up m
theorem ExS.at_{K:Nat}{w:World}{B n:Nat}{A:Option Addr}{l:List Ex}(h:ExS K (n+1) w B A l){j:Nat}(hj:j<l.length):
  ∃b off e A' c',A=some ⟨b,off,none⟩/\b<B/\l[j]? = some e/\e.fit K/\e.l.length<=c'/\c'<=maxLen/\Six w b (off+j * 6) e A' c'/\ExS K n w B A' e.l:=by
 obtain⟨b,off,rfl,hb,hr⟩:=h (by omega);obtain⟨A',c',hf,h1,h2,h3,h4⟩:=hr j l[j] (List.getElem?_eq_getElem hj);exact⟨b,off,l[j],A',c',rfl,hb,List.getElem?_eq_getElem hj,hf,h1,h2,h3,h4⟩
def Hgt:Nat->List Ex->Prop
 |0,l=>l=[]
 |n+1,l=>∀e∈l,Hgt n e.l
theorem Hgt.nil:∀n,Hgt n []
 |0=>rfl
 |_+1=>λ_ h=>by simp at h
theorem ExS.hgt{K:Nat}{w:World}{B:Nat}:∀(n:Nat) {A:Option Addr} {l:List Ex},ExS K n w B A l->Hgt n l
 |0,_,_,h=>h
 |n+1,_,l,h=>λe he=>by
  obtain⟨i,hi,rfl⟩:=List.getElem_of_mem he;obtain⟨b,off,rfl,_,hr⟩:=h (by omega);obtain⟨A',c',_,_,_,_,h4⟩:=hr i l[i] (List.getElem?_eq_getElem hi);exact h4.hgt n
theorem Hgt.up:∀(n:Nat) {l:List Ex},Hgt n l->Hgt (n+1) l
 |0,_,h=>by cases h;exact Hgt.nil 1
 |n+1,_,h=>λe he=>(h e he).up n
structure But (p:Nat) (w w':World):Prop where
 os:w'.os=w.os
 tape:w'.tape=w.tape
 output:w'.output=w.output
 size:w.heap.size<=w'.heap.size
 block:∀k,k<w.heap.size->k≠p->w'.heap[k]? = w.heap[k]?
theorem But.refl(p:Nat)(w:World):But p w w:=⟨rfl,rfl,rfl,Nat.le_refl _,λ_ _ _=>rfl⟩
theorem But.trans{p:Nat}{a b c:World}(h:But p a b)(k:But p b c):But p a c:=
 ⟨k.os.trans h.os,k.tape.trans h.tape,k.output.trans h.output,Nat.le_trans h.size k.size,λi hi hp=>(k.block i (Nat.lt_of_lt_of_le hi h.size) hp).trans (h.block i hi hp)⟩
theorem But.of_below{p:Nat}{w w':World}(h:Below w.heap.size w w'):But p w w':=⟨h.os,h.tape,h.output,h.size,λk hk _=>h.block k hk⟩
theorem But.below{p:Nat}{w w':World}(h:But p w w')(hp:p<=w.heap.size):Below p w w':=⟨h.os,h.tape,h.output,h.size,λk hk=>h.block k (by omega) (by omega)⟩
theorem But.blk{p:Nat}{w w':World}(h:But p w w'){g:Nat}{t:TypeId}{cs:Array Value}(hb:Blk w g t cs)(hg:g≠p):Blk w' g t cs:=(h.block g hb.lt hg).trans hb
theorem But.inside{p:Nat}{w0 w w':World}(h0:Below w0.heap.size w0 w)(hp:w0.heap.size<=p)(h:But p w w'):Below w0.heap.size w0 w':=
 ⟨h.os.trans h0.os,h.tape.trans h0.tape,h.output.trans h0.output,Nat.le_trans h0.size h.size,λk hk=>(h.block k (Nat.lt_of_lt_of_le hk h0.size) (by omega)).trans (h0.block k hk)⟩
structure Col where
 n:List UInt8
 t:Int
 b:Bool
def Col.cells(c:Col):List Value:=[.string ⟨c.n.toArray⟩,.int .i64 c.t,.bool c.b]
def Le(w:World)(b off:Nat)(l:List Col):Prop:=∀i v,l[i]? = some v->w.cell? ⟨b,off+i * 3,none⟩=some (.string ⟨v.n.toArray⟩)/\w.cell? ⟨b,off+i * 3+1,none⟩=some (.int .i64 v.t)/\w.cell? ⟨b,off+i * 3+2,none⟩=some (.bool v.b)
def J3(w:World)(B:Nat)(A:Option Addr)(l:List Col):Prop:=0<l.length->∃b off,A=some ⟨b,off,none⟩/\b<B/\Le w b off l
theorem J3.at_{w:World}{B:Nat}{A:Option Addr}{l:List Col}(h:J3 w B A l){j:Nat}(hj:j<l.length):
  ∃b off v,A=some ⟨b,off,none⟩/\b<B/\l[j]? = some v/\w.cell? ⟨b,off+j * 3,none⟩=some (.string ⟨v.n.toArray⟩)/\w.cell? ⟨b,off+j * 3+1,none⟩=some (.int .i64 v.t)/\w.cell? ⟨b,off+j * 3+2,none⟩=some (.bool v.b):=by
 obtain⟨b,off,rfl,hb,hr⟩:=h (by omega);have hv:l[j]? = some l[j]:=List.getElem?_eq_getElem hj;obtain⟨h0,h1,h2⟩:=hr j _ hv;exact⟨b,off,l[j],rfl,hb,hv,h0,h1,h2⟩
theorem J3.below{w w':World}{B:Nat}{A:Option Addr}{l:List Col}(h:J3 w B A l)(hb:Below B w w'):J3 w' B A l:=λhl=>by
 obtain⟨b,off,rfl,hbB,hr⟩:=h hl;refine⟨b,off,rfl,hbB,λi v hv=>?_⟩;have hk:∀o,w'.cell? ⟨b,o,none⟩=w.cell? ⟨b,o,none⟩:=λo=>hb.cell (p:=⟨b,o,none⟩) hbB
 obtain⟨h0,h1,h2⟩:=hr i v hv;exact⟨(hk _).trans h0,(hk _).trans h1,(hk _).trans h2⟩
theorem J3.more{w:World}{B B':Nat}{A:Option Addr}{l:List Col}(h:J3 w B A l)(hB:B<=B'):J3 w B' A l:=λhl=>by
 obtain⟨b,off,rfl,hbB,hr⟩:=h hl;exact⟨b,off,rfl,by omega,hr⟩
theorem J3.nil{w:World}{B:Nat}{A:Option Addr}:J3 w B A []:=λh=>absurd h (by simp)
end
section
open Go
section
variable (old new : List UInt8)
theorem WN(b:UInt8)(l:List UInt8)(h:old.isPrefixOf (b::l)=true):Lib.index (b::l) old=((0:Nat):Int):=by rw[Lib.index,if_pos h];rfl
theorem Ri(b:UInt8)(l:List UInt8)(h:old.isPrefixOf (b::l)=false):Lib.index (b::l) old=if Lib.index l old == -1 then -1 else Lib.index l old+1:=by rw[Lib.index,h];simp
theorem OB(b:UInt8)(l:List UInt8)(h0:old≠[])(h:old.isPrefixOf (b::l)=false):Lib.count (b::l) old=Lib.count l old:=by
 have hi:=Ri old b l h;by_cases hm:Lib.index l old = -1
 ·rw[Lib.count_miss hm,Lib.count_miss (by rw[hi,hm];rfl)]
 ·have hge:=Lib.index_ge l old;obtain⟨i,e⟩:∃i:Nat,Lib.index l old=i:=⟨(Lib.index l old).toNat,by omega⟩;have e2:Lib.index (b::l) old=((i+1:Nat):Int):=by rw[hi,e,if_neg (by simp)];rfl
  rw[Lib.count_hit h0 e,Lib.count_hit h0 e2];congr 2;rw[show i+1+old.length=(i+old.length)+1 by omega,List.drop_succ_cons]
theorem Ti(b:UInt8)(l:List UInt8)(h:old.isPrefixOf (b::l)=false):∀k,Lib.replaceK old new k (b::l)=b::Lib.replaceK old new k l
 |0=>rfl
 |k+1=>by
  have hi:=Ri old b l h;by_cases hm:Lib.index l old = -1
  ·rw[Lib.replaceK,Lib.replaceK,hi,hm];simp
  ·have hge:=Lib.index_ge l old;obtain⟨i,e⟩:∃i:Nat,Lib.index l old=i:=⟨(Lib.index l old).toNat,by omega⟩;have e2:Lib.index (b::l) old=((i+1:Nat):Int):=by rw[hi,e,if_neg (by simp)];rfl
   rw[Lib.replaceK_hit _ _ _ _ _ e,Lib.replaceK_hit _ _ _ _ _ e2,show i+1+old.length=(i+old.length)+1 by omega,List.drop_succ_cons];simp
theorem Um(b:UInt8)(l:List UInt8)(h0:old≠[])(h:old.isPrefixOf (b::l)=true):
  Lib.replaceK old new (Lib.count (b::l) old) (b::l)=new++Lib.replaceK old new (Lib.count ((b::l).drop old.length) old) ((b::l).drop old.length):=by
 have e:=WN old b l h;rw[Lib.count_hit h0 e,Nat.add_comm,Lib.replaceK_hit _ _ _ _ _ e];simp
theorem MJ(h0:old≠[]):Lib.replaceK old new (Lib.count [] old) []=[]:=by
 rw[Lib.count_miss (by cases old<;>simp_all [Lib.index])];rfl
theorem EL(s:List UInt8)(h:(old==new)=false):Lib.replaceAll s old new=Lib.replaceK old new (Lib.count s old) s:=by
 unfold Lib.replaceAll Lib.replace Lib.replaceNum;rw[h,if_pos (Or.inl (by decide))];rfl
end
def Bi:List UInt8->List UInt8
 |[]=>[]
 |c::r=>if c=39 then 39::39::Bi r else c::Bi r
theorem Jj(s:List UInt8):Lib.replaceAll s [39] [39,39]=Bi s:=by
 rw[EL _ _ _ (by decide)]
 induction s with
 |nil=>exact MJ _ _ (by simp)
 |cons c r ih=>
  by_cases h:c=39
  ·subst h;rw[Um _ _ _ _ (by simp) (by simp[List.isPrefixOf])];simp only[List.length_cons,List.length_nil,List.drop_succ_cons,List.drop_zero,Nat.zero_add];rw[ih];simp[Bi]
  ·have hp:([39]:List UInt8).isPrefixOf (c::r)=false:=by simp[List.isPrefixOf];exactλe=>h e.symm
   rw[OB _ _ _ (by simp) hp,Ti _ _ _ _ hp,ih];simp[Bi,h]
def DJ:List UInt8->List UInt8
 |[]=>[]
 |[c]=>[c]
 |c::d::r=>if c=39/\d=39 then 39::DJ r else c::DJ (d::r)
theorem MH:∀(n:Nat) (s:List UInt8),s.length<=n->Lib.replaceAll s [39,39] [39]=DJ s:=by
 intro n
 induction n with
 |zero=>
  intro s hs;rw[EL _ _ _ (by decide)];obtain rfl:s=[]:=List.eq_nil_of_length_eq_zero (by omega);exact MJ _ _ (by simp)
 |succ n ih=>
  intro s hs
  match s,hs with
  |[],_=>rw[EL _ _ _ (by decide)];exact MJ _ _ (by simp)
  |[c],_=>
   have hp:([39,39]:List UInt8).isPrefixOf [c]=false:=by simp[List.isPrefixOf]
   rw[EL _ _ _ (by decide),OB _ _ _ (by simp) hp,Ti _ _ _ _ hp,MJ _ _ (by simp)];rfl
  |c::d::r,hs=>
   by_cases h:c=39/\d=39
   ·obtain⟨rfl,rfl⟩:=h;have e:=ih r (by simp at hs;omega);rw[EL _ _ _ (by decide)]at e ⊢;rw[Um _ _ _ _ (by simp) (by simp[List.isPrefixOf])];simp only[List.length_cons,List.length_nil,List.drop_succ_cons,List.drop_zero,Nat.zero_add];rw[e];simp[DJ]
   ·have hp:([39,39]:List UInt8).isPrefixOf (c::d::r)=false:=by
     simp[List.isPrefixOf];intro e1 e2;exact h ⟨e1.symm,e2.symm⟩
    have e:=ih (d::r) (by simp at hs ⊢;omega);rw[EL _ _ _ (by decide)]at e ⊢;rw[OB _ _ _ (by simp) hp,Ti _ _ _ _ hp,e];simp[DJ,h]
theorem NQ(s:List UInt8):(Bi s).length<=2 * s.length:=by
 induction s with
 |nil=>simp[Bi]
 |cons c r ih=>unfold Bi;split<;>simp<;>omega
theorem Oc(s:List UInt8):DJ (Bi s)=s:=by
 induction s with
 |nil=>rfl
 |cons c r ih=>
  by_cases h:c=39
  ·subst h;simp[Bi,DJ,ih]
  ·have:Bi (c::r)=c::Bi r:=by simp[Bi,h]
   rw[this];cases hq:Bi r with
   |nil=>rw[hq]at ih;simp[DJ]at ih ⊢;exact ih
   |cons d t=>rw[hq]at ih;rw[DJ,if_neg (by simp[h]),ih]
end
section
open Go.RowKit
def Uj:List UInt8:=[40,41,44,61,60,43,45,42]
def Uk(c:UInt8):Bool:=decide (0<=Lib.indexByte Uj c)
def GM(m:Nat)(f g:UInt8->Bool)(s:List UInt8):Bool:=decide (1<=s.length)&&decide (s.length<=m)&&(Aj f g s==s.length)
def P6:List UInt8->Bool
 |[c]=>Uk c
 |_=>false
def EG(t:Tok):Bool:=
 if t.k=3 then D5 2 0 t.s else if t.k=4 then P6 t.s
 else if t.k=1 then GM 16 DV BV t.s else if t.k=2 then GM 19 BA BA t.s else false
def DN:List UInt8->Nat->Option Nat
 |[],_=>none
 |[c],n=>if c.toNat=39 then some n else none
 |c::d::r,n=>if c.toNat=39 then(if d.toNat=39 then DN r (n+2)else some n)else DN (d::r) (n+1)
def Fa(s:List UInt8):Tok×Nat:=match DN (s.drop 1) 1 with|none=>(⟨0,[]⟩,0)|some n=>(⟨3,DJ ((s.take n).drop 1)⟩,n+1)
def Ah(s:List UInt8):Tok×Nat:=
 if 0<Aj DV BV s then(⟨1,s.take (Aj DV BV s)⟩,Aj DV BV s)
 else if 0<Aj BA BA s then(⟨2,s.take (Aj BA BA s)⟩,Aj BA BA s)
 else match s with|[]=>(⟨4,[]⟩,1)|c::r=>if c.toNat=39 then Fa (c::r)else(⟨4,[c]⟩,1)
def CP(c:UInt8):Bool:=c.toNat==32||c.toNat==10
def LX:Nat->List UInt8->List Tok->Option (List Tok)
 |_,[],l=>some l
 |0,_::_,_=>none
 |n+1,c::r,l=>if CP c then LX n r l else if EG (Ah (c::r)).1&&decide (l.length≠400)then LX n ((c::r).drop (Ah (c::r)).2) (l++[(Ah (c::r)).1])else none
def Ii(s:List UInt8):Option (List Tok):=LX s.length s []
def CU:List UInt8:=[108,105,116]
def DC:List UInt8:=[99,111,108]
def C9:List UInt8:=[110,111,116]
def Be:List UInt8:=[110,117,108,108]
def PH:List UInt8:=[97,110,100]
def Vr:List UInt8:=[111,114]
def Vt:List UInt8:=[61]
def Vs:List UInt8:=[60]
def LD:List UInt8:=[43]
def JZ:List UInt8:=[45]
def Dx(op:List UInt8):Int:=
 if op=CU\/op=DC then 0 else if op=C9\/op=Be then 1
 else if op=PH\/op=Vr\/op=Vt\/op=Vs\/op=LD\/op=JZ then 2 else -1
def Eg:List (List UInt8):=[[65,78,68],[79,82],[78,79,84],[73,83],[78,85,76,76],[84,82,85,69],[70,65,76,83,69],[67,82,69,65,84,69],[84,65,66,76,69],[73,78,84],[84,69,88,84],[66,79,79,76],[75,69,89],[85,78,73,81,85,69],[82,69,70,69,82,69,78,67,69,83],[67,72,69,67,75],[68,82,79,80],[73,78,83,69,82,84],[73,78,84,79],[86,65,76,85,69,83],[85,80,68,65,84,69],[83,69,84],[87,72,69,82,69],[68,69,76,69,84,69],[70,82,79,77],[83,69,76,69,67,84],[71,82,65,78,84],[82,69,65,68],[87,82,73,84,69],[79,78],[84,79],[82,69,86,79,75,69],[77,73,71,82,65,84,69],[67,79,80,89],[74,79,73,78],[71,82,79,85,80],[66,89],[83,85,77]]
def CZ(s:List UInt8):Bool:=Eg.contains s
def D9(s:List UInt8):Bool:=GM 16 DV BV s
def Eu(v:V):Bool:=decide (v.k=0)&&decide (v.i=0)&&decide (v.s=[])
def EP(f:Nat->Ex->Bool×Nat):Nat->List Ex->Bool×Nat
 |c,[]=>(true,c)
 |c,x::r=>if (f c x).1 then EP f (f c x).2 r else(false,(f c x).2)
def D7:Nat->Nat->Nat->Ex->Bool×Nat
 |n,d,c,e=>
  if decide (12<d)||decide (60<c+1)||!decide ((e.l.length:Int)=Dx e.op)then(false,c+1)
  else if e.op=CU then(decide (e.s=[])&&D5 e.v.k e.v.i e.v.s,c+1)
  else if e.op=DC then(Eu e.v&&D9 e.s&&!CZ e.s,c+1)
  else if !Eu e.v||!decide (e.s=[])then(false,c+1)
  else match n with
   |0=>(true,c+1)
   |n+1=>EP (D7 n (d+1)) (c+1) e.l
def may(n:Nat)(e:Ex):Bool:=(D7 n 1 0 e).1
def O9(s:List UInt8):List Col->Nat->Int
 |[],_=>-1
 |c::r,n=>if c.n=s then(n:Int)else O9 s r (n+1)
def Xa(l:List Col)(s:List UInt8):Int:=O9 s l 0
def andV(a b:V):V:=TD (andN (Gv a.k a.i a.s) (Gv b.k b.i b.s))
def orV(a b:V):V:=TD (orN (Gv a.k a.i a.s) (Gv b.k b.i b.s))
def notV(a:V):V:=TD (notN (Gv a.k a.i a.s))
def nullV(a:V):V:=bV (decide ((L8 a.k a.i a.s).k=0))
def doF(op:List UInt8)(a b:V):V:=
 if op=PH then andV a b else if op=Vr then orV a b else if op=C9 then notV a else if op=Vt then bG a b
 else if op=Vs then lessV a b else if op=LD then plusV a b else if op=JZ then ag a b else nullV a
def X9:Nat->List Col->List V->Ex->V
 |n,cols,row,e=>
  if e.op=CU then e.v
  else if e.op=DC then(if Xa cols e.s<0 then V.zero else row.getD (Xa cols e.s).toNat V.zero)
  else match n with
   |0=>doF e.op V.zero V.zero
   |n+1=>doF e.op (((e.l.map (X9 n cols row))).getD 0 V.zero) ((e.l.map (X9 n cols row)).getD 1 V.zero)
def eval(n:Nat)(cols:List Col)(row:List V)(e:Ex):V:=if may n e then X9 n cols row e else V.zero
end
end Go.Proofs.YtchilcchogcibaaGreatDoor
