/- Plain laws on writing tokens; Plain laws on cutting a text in pieces; Statements, in plain words; The document's reserved words, names and Ops of two parts, as plain functions; The document's form, nodes and May of an expression, as plain functions; What may be, after the document's form and number of nodes, is what may be after the program's; Words for a drawn region of calls that answer memory, and of one new variable; A drawn region in which calls stand in a chain, and one new variable may be made ahead of, among, or behind them. -/
import Derived.Test.YtchilcchogcibaaGreatDoorFCutLaw
import Derived.Test.YtchilcchogcibaaGreatDoorFLift
namespace Go.Proofs.YtchilcchogcibaaGreatDoor
section
open Go.RowKit
def wrT(t:Tok):List UInt8:=if t.k=3 then DT 2 0 t.s else t.s
theorem Jk:∀(l:List UInt8) (c:UInt8),0<=Lib.indexByte l c->c∈l
 |[],c,h=>by simp[Lib.indexByte]at h
 |b::r,c,h=>by
  by_cases e:b=c
  ·simp[e]
  ·have ih:=Jk r c;unfold Lib.indexByte at h;rw[if_neg (by simpa using e)]at h;split at h
   ·omega
   ·rename_i hn
    by_cases h0:0<=Lib.indexByte r c
    ·exact List.mem_cons_of_mem _ (ih h0)
    ·have:Lib.indexByte r c = -1:=by omega
     exact absurd (by simp[this]) hn
theorem NI(c:UInt8)(h:Uk c=true):DV c=false/\BA c=false/\¬c.toNat=39/\CP c=false:=by
 have hm:c∈Uj:=by
  unfold Uk at h;simp only[decide_eq_true_eq]at h;exact Jk _ _ h
 simp only[Uj,List.mem_cons,List.not_mem_nil,or_false]at hm;rcases hm with rfl|rfl|rfl|rfl|rfl|rfl|rfl|rfl<;>decide
theorem FZ(s rest:List UInt8)(t:Tok)(c:UInt8)(r:List UInt8)(hs:s=c::r)(hb:CP c=false)(hm:EG t=true)(hf:Ah (s++rest)=(t,s.length)):DW (s++rest)=(DW rest).map (t::·):=by
 subst hs;have hd:(c::r++rest).drop (c::r).length=rest:=by simp
 rw[List.cons_append]at hf hd ⊢;rw[E9 c _ hb (by rw[hf];exact hm),hf];simp only;rw[hd]
theorem Oh{c:UInt8}(h:DV c=true):CP c=false:=by
 cases hb:CP c
 ·rfl
 ·rw[(FM hb).2.1]at h;cases h
theorem Om{c:UInt8}(h:BA c=true):CP c=false:=by
 cases hb:CP c
 ·rfl
 ·rw[(FM hb).2.2]at h;cases h
theorem SE{c:UInt8}(h:BA c=true):DV c=false:=by
 unfold BA at h;unfold DV;simp only[Bool.and_eq_true,decide_eq_true_eq]at h;simp;omega
theorem NP{m:Nat}{f g:UInt8->Bool}{s:List UInt8}(h:GM m f g s=true):(∃c r,s=c::r/\f c=true)/\Aj f g s=s.length:=by
 unfold GM at h;simp only[Bool.and_eq_true,decide_eq_true_eq,beq_iff_eq]at h;obtain⟨⟨h1,_⟩,h3⟩:=h;cases s with
 |nil=>simp at h1
 |cons c r=>
  refine⟨⟨c,r,rfl, ?_⟩,h3⟩;cases hf:f c
  ·have h4:Aj f g (c::r)=0:=by show(if f c then 1+(r.takeWhile g).length else 0)=0;rw[hf];rfl
   rw[h4]at h3;simp at h3
  ·rfl
theorem YW(t:Tok)(hm:EG t=true)(rest:List UInt8)(hg:Gap rest):DW (wrT t++rest)=(DW rest).map (t::·):=by
 obtain⟨k,s⟩:=t;have hm0:=hm;unfold EG at hm;simp only at hm;obtain⟨g1,g2,g3⟩:=hg.run;by_cases h3:k=3
 ·subst h3;rw[if_pos rfl]at hm;have hw:wrT ⟨3,s⟩=MW s:=by unfold wrT;rw[if_pos rfl];unfold DT;rw[hm];rfl
  rw[hw];exact VL s rest hg hm
 ·rw[if_neg h3]at hm;have hw:wrT ⟨k,s⟩=s:=by unfold wrT;rw[if_neg h3]
  rw[hw];by_cases h4:k=4
  ·subst h4;rw[if_pos rfl]at hm
   match s,hm with
   |[c],hm=>
    obtain⟨f1,f2,f3,f4⟩:=NI c hm;refine FZ [c] rest ⟨4,[c]⟩ c [] rfl f4 hm0 ?_;show Ah (c::rest)=_
    unfold Ah;have l1:Aj DV BV (c::rest)=0:=by unfold Aj;simp[f1]
    have l2:Aj BA BA (c::rest)=0:=by unfold Aj;simp[f2]
    rw[l1,l2];simp only[Nat.lt_irrefl,if_false];rw[if_neg f3];rfl
  ·rw[if_neg h4]at hm;by_cases h1:k=1
   ·subst h1;rw[if_pos rfl]at hm;obtain⟨⟨c,r,hs,hc⟩,hl⟩:=NP hm;have hp:0<s.length:=by rw[hs];simp
    refine FZ s rest ⟨1,s⟩ c r hs (Oh hc) hm0 ?_;unfold Ah;rw[ET DV BV s rest hp g1,hl,if_pos hp];simp
   ·rw[if_neg h1]at hm;by_cases h2:k=2
    ·subst h2;rw[if_pos rfl]at hm;obtain⟨⟨c,r,hs,hc⟩,hl⟩:=NP hm;have hp:0<s.length:=by rw[hs];simp
     refine FZ s rest ⟨2,s⟩ c r hs (Om hc) hm0 ?_;have l1:Aj DV BV (s++rest)=0:=by rw[hs,List.cons_append];unfold Aj;simp[SE hc]
     unfold Ah;rw[l1,ET BA BA s rest hp g2,hl,if_neg (Nat.lt_irrefl 0),if_pos hp];simp
    ·rw[if_neg h2]at hm;cases hm
theorem toks_may:∀(n:Nat) (s:List UInt8) (l:List Tok),s.length<=n->DW s=some l->∀t∈l,EG t=true:=by
 intro n
 induction n with
 |zero=>
  intro s l hs h;have:s=[]:=List.eq_nil_of_length_eq_zero (by omega);subst this;cases h
  intro t ht;simp at ht
 |succ n ih=>
  intro s l hs h;cases s with
  |nil=>cases h;intro t ht;simp at ht
  |cons c r=>
   simp only[List.length_cons]at hs;cases hb:CP c
   ·cases hm:EG (Ah (c::r)).1
    ·rw[J6 c r hb hm]at h;cases h
    ·have hge:=(EN (c::r) (by simp)).2 hm;rw[E9 c r hb hm]at h;cases hq:DW ((c::r).drop (Ah (c::r)).2)with
     |none=>rw[hq]at h;cases h
     |some a'=>
      rw[hq]at h;cases h
      intro t ht;rcases List.mem_cons.1 ht with rfl|ht
      ·exact hm
      ·exact ih _ a' (by rw[List.length_drop,List.length_cons];omega) hq t ht
   ·rw[Dq c r hb]at h;exact ih r l (by omega) h
def Ub(t:List UInt8):Prop:=t=[]\/∃b q,t=b::q/\BV b=false/\¬b.toNat=39
theorem Ub.run{t:List UInt8}(h:Ub t):(t=[]\/∃b q,t=b::q/\BV b=false)/\(t=[]\/∃b q,t=b::q/\BA b=false)/\(t=[]\/∃b q,t=b::q/\¬b.toNat=39):=by
 rcases h with rfl|⟨b,q,rfl,h1,h2⟩
 ·exact⟨.inl rfl,.inl rfl,.inl rfl⟩
 ·refine⟨.inr ⟨b,q,rfl,h1⟩,.inr ⟨b,q,rfl, ?_⟩,.inr ⟨b,q,rfl,h2⟩⟩;unfold BV at h1;simp only[Bool.or_eq_false_iff]at h1;exact h1.1.2
theorem Gap.edge{t:List UInt8}(h:Gap t):Ub t:=by
 rcases h with rfl|⟨b,r,rfl,hb⟩
 ·exact .inl rfl
 ·exact .inr ⟨b,r,rfl,(FM hb).1,by rcases G6 hb with e|e<;>omega⟩
theorem Rt(c:UInt8)(r t:List UInt8)(ht:Ub t)(hm:EG (Ah (c::r)).1=true):Ah (c::r++t)=Ah (c::r):=by
 obtain⟨g1,g2,g3⟩:=ht.run;have e1:=ET DV BV (c::r) t (by simp) g1;have e2:=ET BA BA (c::r) t (by simp) g2;have l1:=EM DV BV (c::r);have l2:=EM BA BA (c::r);unfold Ah at hm ⊢;rw[e1,e2];split
 ·rw[List.take_append_of_le_length l1]
 ·rename_i h1
  rw[if_neg h1]at hm;split
  ·rw[List.take_append_of_le_length l2]
  ·rename_i h2
   rw[if_neg h2]at hm;simp only[List.cons_append]at hm ⊢;split
   ·rename_i hc
    rw[if_pos hc]at hm;rw[EC]at hm ⊢;rw[EC];cases he:DN ((c::r).drop 1) 1 with
    |none=>rw[he]at hm;cases hm
    |some k=>
     have hk:=Jc _ _ _ he;have h3:DN ((c::(r++t)).drop 1) 1=some k:=JJ _ t 1 k g3 he;rw[h3];simp only[FD];rw[List.length_drop]at hk;have:(c::(r++t)).take k=(c::r).take k:=by
      rw[<-List.cons_append];exact List.take_append_of_le_length (by omega)
     rw[this]
   ·rfl
theorem VN(t:List UInt8)(ht:Ub t):∀(n:Nat) (s:List UInt8) (a:List Tok),s.length<=n->DW s=some a->DW (s++t)=(DW t).map (a++·):=by
 intro n
 induction n with
 |zero=>
  intro s a hs h;have:s=[]:=List.eq_nil_of_length_eq_zero (by omega);subst this;cases h
  cases hq:DW t<;>simp[hq]
 |succ n ih=>
  intro s a hs h;cases s with
  |nil=>cases h;cases hq:DW t<;>simp[hq]
  |cons c r=>
   simp only[List.length_cons]at hs;cases hb:CP c
   ·cases hm:EG (Ah (c::r)).1
    ·rw[J6 c r hb hm]at h;cases h
    ·have hge:=(EN (c::r) (by simp)).2 hm;have hle:=(EN (c::r) (by simp)).1;rw[E9 c r hb hm]at h;cases hq:DW ((c::r).drop (Ah (c::r)).2)with
     |none=>rw[hq]at h;cases h
     |some a'=>
      rw[hq]at h;cases h
      have hf:=Rt c r t ht hm;have h1:=ih ((c::r).drop (Ah (c::r)).2) a' (by rw[List.length_drop,List.length_cons];omega) hq;rw[List.cons_append]at hf ⊢;rw[E9 c (r++t) hb (by rw[hf];exact hm),hf,<-List.cons_append,List.drop_append_of_le_length hle,h1];cases DW t<;>simp
   ·rw[Dq c r hb]at h;rw[List.cons_append,Dq c _ hb];exact ih r a (by omega) h
theorem XF(t:Tok)(hm:EG t=true):DW (wrT t)=some [t]:=by
 have:=YW t hm [] (.inl rfl);rw[List.append_nil]at this;exact this
def Tk(s:List UInt8)(a:List Tok):Prop:=∀rest,Ub rest->DW (s++rest)=(DW rest).map (a++·)
def BG(s:List UInt8):Prop:=∃b q,s=b::q/\BV b=false/\¬b.toNat=39
theorem BG.mk(b:UInt8)(q:List UInt8)(h:BV b=false:=by decide)(h2:¬b.toNat=39:=by decide):BG (b::q):=⟨b,q,rfl,h,h2⟩
theorem BG.edge{s:List UInt8}(h:BG s)(rest:List UInt8):Ub (s++rest):=by
 obtain⟨b,q,rfl,h1,h2⟩:=h;exact .inr ⟨b,q++rest,rfl,h1,h2⟩
theorem BG.app{s:List UInt8}(h:BG s)(t:List UInt8):BG (s++t):=by
 obtain⟨b,q,rfl,h1,h2⟩:=h;exact⟨b,q++t,rfl,h1,h2⟩
theorem Tk.of{s:List UInt8}{a:List Tok}(h:DW s=some a):Tk s a:=λrest hr=>VN rest hr _ s a (Nat.le_refl _) h
theorem Tk.out{s:List UInt8}{a:List Tok}(h:Tk s a):DW s=some a:=by
 have:=h [] (.inl rfl);rw[List.append_nil]at this;rw[this];simp[QL]
theorem Tk.nil:Tk [] []:=Tk.of QL
theorem Tk.wr{t:Tok}(hm:EG t=true):Tk (wrT t) [t]:=Tk.of (XF t hm)
theorem Tk.app{s t:List UInt8}{a b:List Tok}(h:Tk s a)(k:Tk t b)(e:t=[]\/BG t):Tk (s++t) (a++b):=λrest hr=>by
 rw[List.append_assoc,h (t++rest) (by rcases e with rfl|e;exact hr;exact e.edge rest),k rest hr];cases DW rest<;>simp
theorem Tk.blank{s:List UInt8}{a:List Tok}(h:Tk s a):Tk (32::s) a:=λrest hr=>by
 rw[List.cons_append,Dq 32 _ (by decide)];exact h rest hr
theorem Tk.sign{c:UInt8}{s:List UInt8}{a:List Tok}(hc:Uk c=true)(h:Tk s a):Tk (c::s) (⟨4,[c]⟩::a):=λrest hr=>by
 obtain⟨f1,f2,f3,f4⟩:=NI c hc;have hf:Ah ([c]++(s++rest))=(⟨4,[c]⟩,([c]:List UInt8).length):=by
  show Ah (c::(s++rest))=_
  unfold Ah;have l1:Aj DV BV (c::(s++rest))=0:=by unfold Aj;simp[f1]
  have l2:Aj BA BA (c::(s++rest))=0:=by unfold Aj;simp[f2]
  rw[l1,l2];simp only[Nat.lt_irrefl,if_false];rw[if_neg f3];rfl
 have:=FZ [c] (s++rest) ⟨4,[c]⟩ c [] rfl f4 (show P6 [c]=true from hc) hf;rw[List.cons_append];rw[show c::(s++rest)=[c]++(s++rest)from rfl,this,h rest hr];cases DW rest<;>simp
theorem Tk.word{x s:List UInt8}{a:List Tok}(hx:D9 x=true)(h:Tk s a)(e:s=[]\/BG s):Tk (x++s) (⟨1,x⟩::a):=by
 have:=(Tk.wr (t:=⟨1,x⟩) hx).app h e;exact this
theorem Tk.num{x s:List UInt8}{a:List Tok}(hx:GM 19 BA BA x=true)(h:Tk s a)(e:s=[]\/BG s):Tk (x++s) (⟨2,x⟩::a):=by
 have:=(Tk.wr (t:=⟨2,x⟩) hx).app h e;exact this
def Ai(s:List UInt8):Bool:=D9 s&&!CZ s
def DU(e:Ex):Bool:=e.op.isEmpty&&veq e.v V.zero&&e.s.isEmpty&&e.l.isEmpty
def Aq(e:Ex):Bool:=DU e||E5 e
def Bh{α:Type}(l:List α)(lo hi:Nat)(p:α->Bool):Bool:=decide (lo<=l.length)&&decide (l.length<=hi)&&l.all p
def GI(c:Col):Bool:=Ai c.n&&decide (1<=c.t)&&decide (c.t<=3)
def G9(r:Rf):Bool:=Ai r.c&&Ai r.t
def GG(x:Se):Bool:=Ai x.n&&E5 x.e
def Cf(s:St):Bool:=(s.tb++s.ot++s.key++s.role).isEmpty&&decide (s.names.length+s.cols.length+s.uniq.length+s.refs.length+s.row.length+s.sets.length=0)&&DU s.chk&&DU s.whr
def OA(s:St):Bool:=Bh s.cols 1 8 GI&&Ai s.key&&Bh s.uniq 0 8 Ai&&Bh s.refs 0 8 G9&&Aq s.chk
def GR:List UInt8:=[99,114,101,97,116,101]
def Lp:List UInt8:=[100,114,111,112]
def Ff:List UInt8:=[105,110,115,101,114,116]
def Fe:List UInt8:=[117,112,100,97,116,101]
def Eo:List UInt8:=[100,101,108,101,116,101]
def FH:List UInt8:=[115,101,108,101,99,116]
def Hw:List UInt8:=[114,101,97,100]
def FV:List UInt8:=[119,114,105,116,101]
def EZ:List UInt8:=[117,110,114,101,97,100]
def Dy:List UInt8:=[117,110,119,114,105,116,101]
def Gx:List UInt8:=[99,111,112,121]
def I8:List UInt8:=[106,111,105,110]
def GH:List UInt8:=[103,114,111,117,112]
def Am(s:St):Bool:=
 if s.op=GR then Ai s.tb&&OA s&&Cf {s with tb:=[],cols:=[],key:=[],uniq:=[],refs:=[],chk:=AL}
 else if s.op=Lp then Ai s.tb&&Cf {s with tb:=[]}
 else if s.op=Ff then Ai s.tb&&Bh s.row 1 12 (λv=>D5 v.k v.i v.s)&&Cf {s with tb:=[],row:=[]}
 else if s.op=Fe then Ai s.tb&&Bh s.sets 1 8 GG&&Aq s.whr&&Cf {s with tb:=[],sets:=[],whr:=AL}
 else if s.op=Eo\/s.op=FH then Ai s.tb&&Aq s.whr&&Cf {s with tb:=[],whr:=AL}
 else if s.op=Hw\/s.op=FV\/s.op=EZ\/s.op=Dy then Ai s.tb&&Ai s.role&&Cf {s with tb:=[],role:=[]}
 else if s.op=Gx then Ai s.tb&&Ai s.ot&&Bh s.names 1 8 Ai&&Aq s.chk&&Cf {s with tb:=[],ot:=[],names:=[],chk:=AL}
 else if s.op=I8 then Ai s.tb&&Ai s.ot&&Ai s.key&&Ai s.role&&Aq s.chk&&Cf {s with tb:=[],ot:=[],key:=[],role:=[],chk:=AL}
 else if s.op=GH then Ai s.tb&&Ai s.ot&&Bh s.names 2 2 Ai&&Aq s.chk&&Cf {s with tb:=[],ot:=[],names:=[],chk:=AL}
 else false
def upperB(l:List UInt8):List UInt8:=l.map λc=>if 97<=c/\c<=122 then c - 32 else c
def BJ:Nat->Ex->List UInt8
 |0,_=>[]
 |n+1,e=>
  if e.op=CU then DT e.v.k e.v.i e.v.s
  else if e.op=DC then e.s
  else if e.op=C9 then[40,78,79,84,32]++BJ n (e.l.getD 0 AL)++[41]
  else if e.op=Be then[40]++BJ n (e.l.getD 0 AL)++[32,73,83,32,78,85,76,76,41]
  else[40]++BJ n (e.l.getD 0 AL)++[32]++upperB e.op++[32]++BJ n (e.l.getD 1 AL)++[41]
def FB(e:Ex):List UInt8:=BJ 13 e
def DY(e:Ex):List UInt8:=if DU e then[]else[32,87,72,69,82,69,32]++FB e
def Bz(a:List UInt8)(e:Ex):List UInt8:=if DU e then[]else a++[67,72,69,67,75,32,40,32]++FB e++[32,41]
def BM(sep:List UInt8):List (List UInt8)->List UInt8
 |[]=>[]
 |[x]=>x
 |x::y::r=>x++sep++BM sep (y::r)
def BB:List UInt8:=[32,44,32]
def Ic(t:Int):List UInt8:=if t=1 then[73,78,84]else if t=2 then[84,69,88,84]else[66,79,79,76]
def Ij(c:Col):List UInt8:=c.n++[32]++Ic c.t++(if c.b then[32,78,79,84,32,78,85,76,76]else[])
def Ih(x:Se):List UInt8:=x.n++[32,61,32]++FB x.e
def Eh(l:List (List UInt8)):List UInt8:=l.flatMap λc=>[32,44,32,85,78,73,81,85,69,32,40,32]++c++[32,41]
def Ei(l:List Rf):List UInt8:=l.flatMap λr=>[32,44,32,82,69,70,69,82,69,78,67,69,83,32,40,32]++r.c++[32,41,32]++r.t
def JB(s:St):List UInt8:=[77,73,71,82,65,84,69,32]++upperB s.op++[32]++s.tb++[32,70,82,79,77,32]++s.ot
def Dk(s:St):List UInt8:=
 if s.op=GR then[67,82,69,65,84,69,32,84,65,66,76,69,32]++s.tb++[32,40,32]++BM BB (s.cols.map Ij)++[32,44,32,75,69,89,32,40,32]++s.key++[32,41]++Eh s.uniq++Ei s.refs++Bz BB s.chk++[32,41]
 else if s.op=Lp then[68,82,79,80,32,84,65,66,76,69,32]++s.tb
 else if s.op=Ff then[73,78,83,69,82,84,32,73,78,84,79,32]++s.tb++[32,86,65,76,85,69,83,32,40,32]++BM BB (s.row.map λv=>DT v.k v.i v.s)++[32,41]
 else if s.op=Fe then[85,80,68,65,84,69,32]++s.tb++[32,83,69,84,32]++BM BB (s.sets.map Ih)++DY s.whr
 else if s.op=Eo then[68,69,76,69,84,69,32,70,82,79,77,32]++s.tb++DY s.whr
 else if s.op=FH then[83,69,76,69,67,84,32,42,32,70,82,79,77,32]++s.tb++DY s.whr
 else if s.op=Hw\/s.op=FV then[71,82,65,78,84,32]++upperB s.op++[32,79,78,32]++s.tb++[32,84,79,32]++s.role
 else if s.op=EZ\/s.op=Dy then[82,69,86,79,75,69,32]++upperB (s.op.drop 2)++[32,79,78,32]++s.tb++[32,70,82,79,77,32]++s.role
 else if s.op=Gx then JB s++[32,40,32]++BM BB s.names++[32,41]++Bz [32] s.chk
 else if s.op=I8 then JB s++[32,44,32]++s.role++[32,79,78,32]++s.key++Bz [32] s.chk
 else JB s++[32,66,89,32]++s.names.getD 0 []++[32,83,85,77,32]++s.names.getD 1 []++Bz [32] s.chk
def Jf(s:St):Bool:=Am s&&(Ii (Dk s)).isSome
end
section
open Go.RowKit
attribute [local go_sem] ByteArray.extract_mk Ak AY
attribute [local go_sem ↓] Go.wp_at_zero Go.wp_at_succ
def J5(op:List UInt8):Bool:=decide (op=PH\/op=Vr\/op=Vt\/op=Vs\/op=LD\/op=JZ)
end
section
open Go.RowKit
attribute [local go_sem] ByteArray.extract_mk Ak AY
attribute [local go_sem ↓] Go.wp_at_zero Go.wp_at_succ CY CE
def ex0:Ex:=.mk [] V.zero [] []
def Cc:Nat->Ex->Bool
 |0,_=>false
 |d+1,e=>
  if e.op=CU then D5 e.v.k e.v.i e.v.s&&((e.s==[])&&decide (e.l.length=0))
  else if e.op=DC then veq e.v V.zero&&(D9 e.s&&(!CZ e.s&&decide (e.l.length=0)))
  else if e.op=C9\/e.op=Be then veq e.v V.zero&&((e.s==[])&&(decide (e.l.length=1)&&Cc d (e.l.getD 0 ex0)))
  else if J5 e.op=true then veq e.v V.zero&&((e.s==[])&&(decide (e.l.length=2)&&(Cc d (e.l.getD 0 ex0)&&Cc d (e.l.getD 1 ex0))))
  else false
theorem Vb{K n:Nat}{w:World}{B:Nat}{A:Option Addr}{l:List Ex}(h:ExS K n w B A l){j:Nat}(hj:j<l.length):
  ∃m b off e A' c',n=m+1/\A=some ⟨b,off,none⟩/\b<B/\l[j]? = some e/\l.getD j ex0=e/\e.fit K/\e.l.length<=c'/\c'<=maxLen/\Six w b (off+j * 6) e A' c'/\ExS K m w B A' e.l:=by
 cases n with
 |zero=>rw[show l=[]from h]at hj;simp at hj
 |succ m=>
  obtain⟨b,off,e,A',c',h1,h2,h3,h4,h5,h6,h7,h8⟩:=h.at_ hj;exact⟨m,b,off,e,A',c',rfl,h1,h2,h3,by rw[List.getD_eq_getElem?_getD,h3];rfl,h4,h5,h6,h7,h8⟩
end
section
def Cm:Nat->Ex->Nat
 |0,_=>1
 |n+1,e=>1+((e.l.map (Cm n)).sum)
theorem PK:∀(n:Nat) (e:Ex),1<=Cm n e
 |0,_=>Nat.le_refl _
 |n+1,e=>by unfold Cm;omega
theorem PM:∀(n:Nat) (e:Ex),e.l.length=0->Cm n e=1
 |0,_,_=>rfl
 |n+1,e,h=>by
  have:e.l=[]:=List.eq_nil_of_length_eq_zero h;unfold Cm;rw[this];rfl
theorem LH(n:Nat)(e:Ex)(h:e.l.length=1):Cm (n+1) e=1+Cm n (e.l.getD 0 ex0):=by
 match hl:e.l,h with
 |[a],_=>
  rw[Cm,hl];simp
theorem PI(n:Nat)(e:Ex)(h:e.l.length=2):Cm (n+1) e=1+(Cm n (e.l.getD 0 ex0)+Cm n (e.l.getD 1 ex0)):=by
 match hl:e.l,h with
 |[a,b],_=>
  rw[Cm,hl];simp
theorem YR(v:V):Eu v=veq v V.zero:=by
 unfold Eu veq V.zero;rw[Bool.eq_iff_iff];simp[and_assoc]
theorem Hq(op:List UInt8):J5 op=true↔(op=PH\/op=Vr\/op=Vt\/op=Vs\/op=LD\/op=JZ):=by unfold J5;simp
theorem PE{op:List UInt8}(h:op=CU\/op=DC):Dx op=0:=by unfold Dx;rw[if_pos h]
theorem Vo{op:List UInt8}(h:op=C9\/op=Be):Dx op=1:=by
 unfold Dx;rcases h with rfl|rfl<;>rfl
theorem Vm{op:List UInt8}(h:J5 op=true):Dx op=2:=by
 rw[Hq]at h;rcases h with rfl|rfl|rfl|rfl|rfl|rfl<;>rfl
theorem Xd{op:List UInt8}(h1:¬op=CU)(h2:¬op=DC)(h3:¬(op=C9\/op=Be))(h4:¬J5 op=true):Dx op = -1:=by
 rw[Hq]at h4;unfold Dx;rw[if_neg (by rintro(h|h);exact h1 h;exact h2 h),if_neg h3,if_neg h4]
theorem Np{d:Nat}{e:Ex}(h:e.op=CU):Cc (d+1) e=(D5 e.v.k e.v.i e.v.s&&((e.s==[])&&decide (e.l.length=0))):=by rw[Cc,if_pos h]
theorem Nq{d:Nat}{e:Ex}(h0:¬e.op=CU)(h:e.op=DC):Cc (d+1) e=(veq e.v V.zero&&(D9 e.s&&(!CZ e.s&&decide (e.l.length=0)))):=by rw[Cc,if_neg h0,if_pos h]
theorem KO{d:Nat}{e:Ex}(h0:¬e.op=CU)(h1:¬e.op=DC)(h:e.op=C9\/e.op=Be):Cc (d+1) e=(veq e.v V.zero&&((e.s==[])&&(decide (e.l.length=1)&&Cc d (e.l.getD 0 ex0)))):=by rw[Cc,if_neg h0,if_neg h1,if_pos h]
theorem Nl{d:Nat}{e:Ex}(h0:¬e.op=CU)(h1:¬e.op=DC)(h2:¬(e.op=C9\/e.op=Be))(h:J5 e.op=true):Cc (d+1) e=(veq e.v V.zero&&((e.s==[])&&(decide (e.l.length=2)&&(Cc d (e.l.getD 0 ex0)&&Cc d (e.l.getD 1 ex0))))):=by rw[Cc,if_neg h0,if_neg h1,if_neg h2,if_pos h]
theorem Uz{d:Nat}{e:Ex}(h0:¬e.op=CU)(h1:¬e.op=DC)(h2:¬(e.op=C9\/e.op=Be))(h:¬J5 e.op=true):Cc (d+1) e=false:=by rw[Cc,if_neg h0,if_neg h1,if_neg h2,if_neg h]
theorem Xk{n d c:Nat}{e:Ex}(hd:d<=12)(hc:c<60):D7 (n+1) d c e=if ¬((e.l.length:Int)=Dx e.op)then(false,c+1)else if e.op=CU then(decide (e.s=[])&&D5 e.v.k e.v.i e.v.s,c+1)
  else if e.op=DC then(veq e.v V.zero&&D9 e.s&&!CZ e.s,c+1)else if ¬(veq e.v V.zero=true/\e.s=[])then(false,c+1)else EP (D7 n (d+1)) (c+1) e.l:=by
 have h1:decide (12<d)=false:=by simp;omega
 have h2:decide (60<c+1)=false:=by simp;omega
 rw[D7,h1,h2,<-YR];by_cases hp:(e.l.length:Int)=Dx e.op
 ·by_cases hz:Eu e.v=true<;>by_cases hs:e.s=[]<;>simp[hp,hz,hs]
 ·simp[hp]
theorem RJ:∀(n d c:Nat) (e:Ex),n+d=13->1<=d->((D7 n d c e).1=(Cc n e&&decide (c+Cm n e<=60)))/\((D7 n d c e).1=true->(D7 n d c e).2=c+Cm n e):=by
 intro n
 induction n with
 |zero=>
  intro d c e hd _;have:decide (12<d)=true:=by simp;omega
  unfold D7 Cc;simp[this]
 |succ n ih=>
  intro d c e hd h1;by_cases hc:60<c+1
  ·have h2:=PK (n+1) e;have h3:decide (c+Cm (n+1) e<=60)=false:=by simp;omega
   rw[h3];unfold D7;simp[hc]
  ·rw[Xk (by omega) (by omega)];have hc1:decide (c+1<=60)=true:=by simp;omega
   by_cases hLit:e.op=CU
   ·rw[Np hLit,PE (Or.inl hLit)];by_cases hl:e.l.length=0
    ·rw[PM _ _ hl,hc1,if_neg (by rw[hl];simp),if_pos hLit];by_cases hs:e.s=[]<;>cases hm:D5 e.v.k e.v.i e.v.s<;>simp[hs,hl]
    ·rw[if_pos (by omega)];simp[hl]
   ·by_cases hCol:e.op=DC
    ·rw[Nq hLit hCol,PE (Or.inr hCol)];by_cases hl:e.l.length=0
     ·rw[PM _ _ hl,hc1,if_neg (by rw[hl];simp),if_neg hLit,if_pos hCol];cases hz:veq e.v V.zero<;>cases hn:D9 e.s<;>cases hr:CZ e.s<;>simp[hl]
     ·rw[if_pos (by omega)];simp[hl]
    ·by_cases hOne:e.op=C9\/e.op=Be
     ·rw[KO hLit hCol hOne,Vo hOne];by_cases hl:e.l.length=1
      ·rw[LH _ _ hl,if_neg (by omega),if_neg hLit,if_neg hCol];obtain⟨a,ha⟩:∃a,e.l=[a]:=by
        match he:e.l,hl with
        |[a],_=>exact⟨a,rfl⟩
       have hi:=ih (d+1) (c+1) a (by omega) (by omega);have e1:c+(1+Cm n a)=c+1+Cm n a:=by omega
       rw[ha];simp only[List.length_cons,List.length_nil,List.getD_cons_zero,e1];by_cases hz:veq e.v V.zero=true/\e.s=[]
       ·rw[if_neg (by simp[hz])];simp only[EP,hz];cases hm:(D7 n (d+1) (c+1) a).1
        ·rw[hm]at hi;simpa using hi.1
        ·rw[hm]at hi;have h2:=hi.1;simp at h2;simp[h2,hi.2 rfl]
       ·rw[if_pos hz];refine⟨?_,by simp⟩;cases hv:veq e.v V.zero
        ·rfl
        ·have:(e.s==[])=false:=by rw[beq_eq_false_iff_ne];exactλh=>hz ⟨hv,h⟩
         rw[this];rfl
      ·rw[if_pos (by omega)];simp[hl]
     ·by_cases hTwo:J5 e.op=true
      ·rw[Nl hLit hCol hOne hTwo,Vm hTwo];by_cases hl:e.l.length=2
       ·rw[PI _ _ hl,if_neg (by omega),if_neg hLit,if_neg hCol];obtain⟨a,b,ha⟩:∃a b,e.l=[a,b]:=by
         match he:e.l,hl with
         |[a,b],_=>exact⟨a,b,rfl⟩
        have hi:=ih (d+1) (c+1) a (by omega) (by omega);have e1:c+(1+(Cm n a+Cm n b))=c+1+Cm n a+Cm n b:=by omega
        have hj:=ih (d+1) (c+1+Cm n a) b (by omega) (by omega);rw[ha];simp only[List.length_cons,List.length_nil,List.getD_cons_zero,List.getD_cons_succ,e1];by_cases hz:veq e.v V.zero=true/\e.s=[]
        ·rw[if_neg (by simp[hz])];simp only[EP,hz];cases hm:(D7 n (d+1) (c+1) a).1
         ·rw[hm]at hi;have h2:=hi.1;simp at h2;simp;intro hfa _;have:=h2 hfa;omega
         ·rw[hm]at hi;have h2:=hi.1;simp at h2;have h3:=hi.2 rfl;rw[h3];cases hm2:(D7 n (d+1) (c+1+Cm n a) b).1
          ·rw[hm2]at hj;have h4:=hj.1;simp at h4;simp;intro _ hfb;exact h4 hfb
          ·rw[hm2]at hj;have h4:=hj.1;simp at h4;simp[h2,h4,hj.2 rfl]
        ·rw[if_pos hz];refine⟨?_,by simp⟩;cases hv:veq e.v V.zero
         ·rfl
         ·have:(e.s==[])=false:=by rw[beq_eq_false_iff_ne];exactλh=>hz ⟨hv,h⟩
          rw[this];rfl
       ·rw[if_pos (by omega)];simp[hl]
      ·rw[Uz hLit hCol hOne hTwo,Xd hLit hCol hOne hTwo,if_pos (by omega)];simp
end
section
open Go.RowKit
def Kr(E:Ex)(u:Value)(Q:Nat->Prop)(w:World):Prop:=∃A c,u=.agg #[.string ⟨E.op.toArray⟩,.int .i64 E.v.k,.int .i64 E.v.i,.string ⟨E.v.s.toArray⟩,.string ⟨E.s.toArray⟩,.slice A E.l.length c]/\ExR Q E A c w
def QH(l:List Col)(u:Value)(Q:Nat->Prop)(w:World):Prop:=∃A c,u=.slice A l.length c/\CQ l A Q w
def GotT(t:Tb)(u:Value)(Q:Nat->Prop)(w:World):Prop:=∃p:TbP,u=.agg (t.cells p).toArray/\TbQ 1000 t p Q w
def Ph(G:(Nat->Prop)->World->Prop):Prop:=∀(Q Q':Nat->Prop) (w w':World),(∀b,Q b->Q' b/\∀o,w'.cell? ⟨b,o,none⟩=w.cell? ⟨b,o,none⟩)->G Q w->G Q' w'
theorem Kr.keeps(E:Ex)(u:Value):Ph (Kr E u):=λ_ _ _ _ hk ⟨A,c,h1,h2⟩=>⟨A,c,h1,h2.keep hk⟩
theorem QH.keeps(l:List Col)(u:Value):Ph (QH l u):=λ_ _ _ _ hk ⟨A,c,h1,h2⟩=>⟨A,c,h1,h2.keep hk⟩
theorem GotT.keeps(t:Tb)(u:Value):Ph (GotT t u):=λ_ _ _ _ hk ⟨p,h1,h2⟩=>⟨p,h1,h2.keep hk⟩
def Av1(L:Array Bool)(i B:Nat)(u:Value)(w:World)(b:Nat):Prop:=(B<=b/\b<w.heap.size)/\(Up L i->u≠.pointer (some ⟨b,0,none⟩))
def Ws(L:Array Bool)(i B:Nat)(t:TypeId)(cs:Array Value)(w:World)(u:Value):Prop:=Up L i->∃g,u=.pointer (some ⟨g,0,none⟩)/\B<=g/\Blk w g t cs
theorem Ws.put{L:Array Bool}{i j B:Nat}{t:TypeId}{cs:Array Value}{w w':World}{u:Value}(h:Ws L j B t cs w u)(hne:i≠j)(hb:Below w.heap.size w w'):Ws (L.setIfInBounds i true) j B t cs w' u:=λhu=>by
 obtain⟨g,e,h1,h2⟩:=h (hu.put hne);exact⟨g,e,h1,h2.below hb h2.lt⟩
theorem Ws.new{L:Array Bool}{i B:Nat}{t:TypeId}{cs:Array Value}{w:World}(hB:B<=w.heap.size):Ws L i B t cs (w.alloc (.cells cs t)) (.pointer (some ⟨w.heap.size,0,none⟩)):=
 λ_=>⟨_,rfl,hB,Blk.new w _ _⟩
section
variable {L : Array Bool} {i a B k : Nat} {t : TypeId} {cs : Array Value} {U : Value} {w w' : World} {G : (Nat → Prop) → World → Prop}
theorem Uo{g b:Nat}(h:g≠b):(Value.pointer (some ⟨g,0,none⟩))≠.pointer (some ⟨b,0,none⟩):=λe=>by
 injection e with e
 injection e with e
 injection e with e
 exact h e
theorem Av1.call(h1:i≠a)(hb:Below w.heap.size w w')(b:Nat)(h:Av1 L a B U w b):Av1 (L.setIfInBounds i true) a B U w' b:=⟨⟨h.1.1,Nat.lt_of_lt_of_le h.1.2 hb.size⟩,λhu=>h.2 (hu.put h1)⟩
theorem Av1.new(o:Obj)(b:Nat)(h:Av1 L a B U w b):Av1 (L.setIfInBounds a true) a B (.pointer (some ⟨w.heap.size,0,none⟩)) (w.alloc o) b:=
 ⟨by have:=h.1;simp;omega,λ_=>Uo (by have:=h.1;omega)⟩
theorem Av1.fresh(hA:Ws L a B t cs w U)(h1:i≠a)(hB:B<=w.heap.size)(b:Nat)(h:w.heap.size<=b/\b<w'.heap.size):Av1 (L.setIfInBounds i true) a B U w' b:=
 ⟨⟨Nat.le_trans hB h.1,h.2⟩,λhu=>by
  obtain⟨g,rfl,_,hk⟩:=hA (hu.put h1);have:=hk.lt;exact Uo (by omega)⟩
theorem Av1.parts{g b:Nat}(z1:Up L a)(h:Av1 L a B (.pointer (some ⟨g,0,none⟩)) w b):(B<=b/\b<w.heap.size)/\b≠g:=⟨h.1,λe=>h.2 z1 (by rw[e])⟩
def AHK(L:Array Bool)(k:Nat)(G:(Nat->Prop)->World->Prop)(Q:Nat->Prop)(w:World):Prop:=Up L k->G Q w
theorem AHK.put{U':Value}(h:AHK L k G (Av1 L a B U w) w)(hG:Ph G)(hne:i≠k)(hb:Below w.heap.size w w')(hav:∀b,Av1 L a B U w b->Av1 (L.setIfInBounds i true) a B U' w' b):AHK (L.setIfInBounds i true) k G (Av1 (L.setIfInBounds i true) a B U' w') w':=
 λhu=>hG _ _ _ _ (λb hq=>⟨hav b hq,λo=>hb.cell (p:=⟨b,o,none⟩) hq.1.2⟩) (h (hu.put hne))
end
theorem Kr.fresh{E:Ex}{A:Option Addr}{c:Nat}{w w':World}{Q:Nat->Prop}(h:ExR (λb=>w.heap.size<=b/\b<w'.heap.size) E A c w')(hq:∀b,w.heap.size<=b/\b<w'.heap.size->Q b):
  Kr E (.agg #[.string ⟨E.op.toArray⟩,.int .i64 E.v.k,.int .i64 E.v.i,.string ⟨E.v.s.toArray⟩,.string ⟨E.s.toArray⟩,.slice A E.l.length c]) Q w':=⟨A,c,rfl,h.keep λb hb=>⟨hq b hb,λ_=>rfl⟩⟩
theorem QH.fresh{l:List Col}{A:Option Addr}{c:Nat}{w w':World}{Q:Nat->Prop}(h:Ku w' w.heap.size w'.heap.size A l)(hq:∀b,w.heap.size<=b/\b<w'.heap.size->Q b):QH l (.slice A l.length c) Q w':=
 ⟨A,c,rfl,CQ.ofF h (λb h1 h2=>hq b ⟨h1,h2⟩)⟩
end
section
open Go Go.RowKit
section
variable {P : Program} {ops : Array Oper} {Q : Exit → Act → World → Prop} {md : Region.Mode} {S : World → Prop}
def uptoC(base:Array Bool)(ks:List Nat)(z j:Nat)(d:Bool):Array Bool:=
 if d then((ks.take j).foldl (λL i=>L.setIfInBounds i true) base).setIfInBounds z true else(ks.take j).foldl (λL i=>L.setIfInBounds i true) base
theorem Wi{n z f0:Nat}{kk:Nat->Nat}{Ls:Nat->Bool->Array Bool}(I:Nat->Option Nat->Act->World->Prop)
 (hL:∀j,j<n->∀d,(Ls j d).setIfInBounds (kk j) true=Ls (j+1) d)(hZ:∀j,j<n+1->(Ls j false).setIfInBounds z true=Ls j true)
 (hr1:∀j,j<n->Region.ready md ops (Ls j true)=[kk j])(hr2:∀j,j<n->(Region.ready md ops (Ls j false)).all (λi=>i==kk j||i==z)=true/\(Region.ready md ops (Ls j false)).isEmpty=false)(hr3:Region.ready md ops (Ls n false)=[z])
 (hcall:∀j d a w,j<n->I j d a w->wpOp P ops Q (kk j) (λa' w'=>S w'/\I (j+1) d a' w') a w)
 (hnew:∀j a w,j<n+1->I j none a w->wpOp P ops Q z (λa' w'=>S w'/\∃g,I j (some g) a' w') a w)
 (hfin:∀g a w,I n (some g) a w->wpAnyH P md ops Q S f0 (Ls n true) a w):
  ∀(m j:Nat) (d:Option Nat) (a:Act) (w:World),m=(n - j)+(if d.isSome then 0 else 1)->j<=n->I j d a w->wpAnyH P md ops Q S (m+f0) (Ls j d.isSome) a w:=by
 intro m
 induction m with
 |zero=>
  intro j d a w hm hj hI;cases d with
  |none=>simp at hm
  |some g=>
   simp at hm;obtain rfl:j=n:=by omega
   rw[Nat.zero_add];exact hfin g a w hI
 |succ m ih=>
  intro j d a w hm hj hI;rw[show m+1+f0=(m+f0)+1 by omega];have call:j<n->wpOp P ops Q (kk j) (λa' w'=>S w'/\wpAnyH P md ops Q S (m+f0) ((Ls j d.isSome).setIfInBounds (kk j) true) a' w') a w:=λhlt=>by
   refine wpOp_mono (λa' w' h=>⟨h.1, ?_⟩) (hcall j d a w hlt hI);rw[hL j hlt];refine ih (j+1) d a' w' ?_ (by omega) h.2;cases d<;>simp at hm ⊢<;>omega
  cases d with
  |some g=>
   have hlt:j<n:=by simp at hm;omega
   refine⟨λh=>?_,λi hi=>?_⟩
   ·rw[show(some g).isSome=true from rfl,hr1 j hlt]at h;cases h
   ·rw[show(some g).isSome=true from rfl,hr1 j hlt]at hi;obtain rfl:=List.mem_singleton.1 hi;exact call hlt
  |none=>
   have new:wpOp P ops Q z (λa' w'=>S w'/\wpAnyH P md ops Q S (m+f0) ((Ls j (none:Option Nat).isSome).setIfInBounds z true) a' w') a w:=by
    refine wpOp_mono (λa' w' h=>⟨h.1, ?_⟩) (hnew j a w (by omega) hI);obtain⟨_,g,hg⟩:=h;rw[show(none:Option Nat).isSome=false from rfl,hZ j (by omega)];exact ih j (some g) a' w' (by simp at hm ⊢;omega) hj hg
   by_cases hlt:j<n
   ·obtain⟨h1,h2⟩:=hr2 j hlt;refine⟨λh=>?_,λi hi=>?_⟩
    ·rw[show(none:Option Nat).isSome=false from rfl]at h;rw[h]at h2;cases h2
    ·have:=List.all_eq_true.1 h1 i hi;simp only[Bool.or_eq_true,beq_iff_eq]at this;rcases this with rfl|rfl
     ·exact call hlt
     ·exact new
   ·obtain rfl:j=n:=by omega
    refine⟨λh=>?_,λi hi=>?_⟩
    ·rw[show(none:Option Nat).isSome=false from rfl,hr3]at h;cases h
    ·rw[show(none:Option Nat).isSome=false from rfl,hr3]at hi;obtain rfl:=List.mem_singleton.1 hi;exact new
def Sv(V:Nat->Value)(j:Nat)(u:Value):Nat->Value:=λi=>if i=j then u else V i
theorem Su(V:Nat->Value){i j:Nat}(u:Value)(h:i≠j):Sv V j u i=V i:=if_neg h
def ptrV:Option Nat->Value
 |some g=>.pointer (some ⟨g,0,none⟩)
 |none=>undef
def AHN(F:(Nat->Value)->Value->Array Value)(w0:World)(t:TypeId)(zs:Array Value)(A:Nat->(Nat->Value)->(Nat->Prop)->World->Prop)(S:World->Prop)(j:Nat)(d:Option Nat)(a:Act)(w:World):Prop:=
 ∃V:Nat->Value,a=⟨F V (ptrV d),[]⟩/\Below w0.heap.size w0 w/\S w/\(∀i,i<j->A i V (λb=>(w0.heap.size<=b/\b<w.heap.size)/\d≠some b) w)/\∀g,d=some g->w0.heap.size<=g/\Blk w g t zs
theorem YE{n z f0 sz:Nat}{kk sl:Nat->Nat}{Ls:Nat->Bool->Array Bool}{F:(Nat->Value)->Value->Array Value}{w0:World}{t:TypeId}{zs:Array Value}{A:Nat->(Nat->Value)->(Nat->Prop)->World->Prop}
 (hL:∀j,j<n->∀d,(Ls j d).setIfInBounds (kk j) true=Ls (j+1) d)(hZ:∀j,j<n+1->(Ls j false).setIfInBounds z true=Ls j true)
 (hr1:∀j,j<n->Region.ready md ops (Ls j true)=[kk j])(hr2:∀j,j<n->(Region.ready md ops (Ls j false)).all (λi=>i==kk j||i==z)=true/\(Region.ready md ops (Ls j false)).isEmpty=false)(hr3:Region.ready md ops (Ls n false)=[z])
 (hput:∀j,j<n->∀V x u,(Act.mk (F V x) []).put (some (sl j)) u=⟨F (Sv V j u) x,[]⟩)(hputz:∀V u,(Act.mk (F V undef) []).put (some sz) u=⟨F V u,[]⟩)
 (hA:∀(j:Nat) (V:Nat->Value) (Q Q':Nat->Prop) (w w':World),(∀b,Q b->Q' b/\∀o,w'.cell? ⟨b,o,none⟩=w.cell? ⟨b,o,none⟩)->A j V Q w->A j V Q' w')(hE:∀(j k:Nat) (V:Nat->Value) (u:Value) (Q:Nat->Prop) (w:World),j<k->A j V Q w->A j (Sv V k u) Q w)
 (hstep:∀j,j<n->∀(V:Nat->Value) (x:Value) (Qd:Nat->Prop) (w:World),Below w0.heap.size w0 w->S w->(∀i,i<j->A i V Qd w)->
   wpOp P ops Q (kk j) (λa' w'=>S w'/\∃u,a'=(Act.mk (F V x) []).put (some (sl j)) u/\A j (Sv V j u) (λb=>w.heap.size<=b/\b<w'.heap.size) w'/\Below w.heap.size w w') ⟨F V x,[]⟩ w)
 (hnew:∀(V:Nat->Value) (w:World),Below w0.heap.size w0 w->S w->
   wpOp P ops Q z (λa' w'=>S w'/\a'=(Act.mk (F V undef) []).put (some sz) (.pointer (some ⟨w.heap.size,0,none⟩))/\w'=w.alloc (.cells zs t)) ⟨F V undef,[]⟩ w)
 (hfin:∀(g:Nat) (V:Nat->Value) (w:World),Below w0.heap.size w0 w->S w->w0.heap.size<=g->Blk w g t zs->(∀i,i<n->A i V (λb=>(w0.heap.size<=b/\b<w.heap.size)/\b≠g) w)->wpAnyH P md ops Q S f0 (Ls n true) ⟨F V (.pointer (some ⟨g,0,none⟩)),[]⟩ w)
 (w:World)(hw:Below w0.heap.size w0 w)(hS:S w)(a:Act)(ha:a=⟨F (λ_=>undef) undef,[]⟩)(Ln:Array Bool)(hLn:Ln=Ls 0 false)(fuel:Nat)(hf:fuel=n+1+f0):wpAnyH P md ops Q S fuel Ln a w:=by
 subst ha hLn hf;refine Wi (n:=n) (z:=z) (f0:=f0) (kk:=kk) (Ls:=Ls) (AHN F w0 t zs A S) hL hZ hr1 hr2 hr3 ?_ ?_ ?_ (n+1) 0 none _ w (by simp) (Nat.zero_le _) ⟨λ_=>undef,rfl,hw,hS,λi h=>absurd h (Nat.not_lt_zero _),λg h=>by cases h⟩
 ·rintro j d a w hj ⟨V,rfl,hb,hs,hans,hg⟩;refine wpOp_mono ?_ (hstep j hj V (ptrV d) _ w hb hs hans);rintro a' w' ⟨hs',u,rfl,hu,hb'⟩;have hz:=hb'.size;refine⟨hs',Sv V j u,hput j hj V _ u,hb.trans (hb'.mono hb.size),hs',λi hi=>?_,λg e=>?_⟩
  ·rcases Nat.lt_or_ge i j with h|h
   ·refine hA _ _ _ _ _ _ (λb hb2=>⟨⟨⟨hb2.1.1,Nat.lt_of_lt_of_le hb2.1.2 hz⟩,hb2.2⟩,λo=>hb'.cell (p:=⟨b,o,none⟩) hb2.1.2⟩) (hE i j V u _ w h (hans i h))
   ·obtain rfl:i=j:=by omega
    refine hA _ _ _ _ _ _ (λb hb2=>⟨⟨⟨Nat.le_trans hb.size hb2.1,hb2.2⟩,λe=>?_⟩,λo=>rfl⟩) hu;have:=(hg b e).2.lt;omega
  ·obtain⟨h1,h2⟩:=hg g e;exact⟨h1,h2.below hb' h2.lt⟩
 ·rintro j a w hj ⟨V,rfl,hb,hs,hans,_⟩;refine wpOp_mono ?_ (hnew V w hb hs);rintro a' w' ⟨hs',rfl,rfl⟩;have hbn:Below w.heap.size w (w.alloc (.cells zs t)):=(Below.refl _ _).alloc (Nat.le_refl _) _;refine⟨hs',w.heap.size,V,hputz V _,hb.trans (hbn.mono hb.size),hs',λi hi=>?_,λg e=>?_⟩
  ·refine hA _ _ _ _ _ _ (λb hb2=>⟨⟨⟨hb2.1.1,Nat.lt_of_lt_of_le hb2.1.2 hbn.size⟩,λe=>?_⟩,λo=>hbn.cell (p:=⟨b,o,none⟩) hb2.1.2⟩) (hans i hi)
   injection e with e
   have:=hb2.1.2;omega
  ·injection e with e
   subst e;exact⟨hb.size,Blk.new w _ _⟩
 ·rintro g a w ⟨V,rfl,hb,hs,hans,hg⟩;obtain⟨h1,h2⟩:=hg g rfl;exact hfin g V w hb hs h1 h2 λi hi=>hA _ _ _ _ _ _ (λb hb2=>⟨⟨hb2.1,λe=>hb2.2 (by rw[e])⟩,λo=>rfl⟩) (hans i hi)
end
end
end Go.Proofs.YtchilcchogcibaaGreatDoor
