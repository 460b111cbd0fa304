/- Plain law; Plain laws. -/
import Derived.Test.YtchilcchogcibaaGreatDoorFWordLaw
namespace Go.Proofs.YtchilcchogcibaaGreatDoor
open Go.RowKit
theorem MM:∀(n:Nat) (e:Ex),Cc n e=true->Cc (n+1) e=true:=by
 intro n
 induction n with
 |zero=>intro e h;simp[Cc]at h
 |succ n ih=>
  intro e h;rcases Ew h with⟨he,hm⟩|⟨he,hn,hr⟩|⟨a,rfl,ha⟩|⟨a,rfl,ha⟩|⟨op,a,b,rfl,ho,ha,hb⟩
  ·have hop:e.op=CU:=by rw[he];rfl
   rw[Np hop]at h ⊢;exact h
  ·have hop:e.op=DC:=by rw[he];rfl
   have hne:¬e.op=CU:=by rw[hop];decide
   rw[Nq hne hop]at h ⊢;exact h
  ·rw[KO (e:=.mk C9 V.zero [] [a]) (show¬C9=CU by decide) (show¬C9=DC by decide) (.inl rfl)]at h ⊢;simp only[Bool.and_eq_true]at h ⊢;exact⟨h.1,h.2.1,h.2.2.1,ih _ h.2.2.2⟩
  ·rw[KO (e:=.mk Be V.zero [] [a]) (show¬Be=CU by decide) (show¬Be=DC by decide) (.inr rfl)]at h ⊢;simp only[Bool.and_eq_true]at h ⊢;exact⟨h.1,h.2.1,h.2.2.1,ih _ h.2.2.2⟩
  ·obtain⟨n1,n2,n3,n4⟩:=IP ho;rw[Nl (e:=.mk op V.zero [] [a,b]) n1 n2 (by rintro(h|h);exact n3 h;exact n4 h) ho]at h ⊢;simp only[Bool.and_eq_true]at h ⊢;exact⟨h.1,h.2.1,h.2.2.1,ih _ h.2.2.2.1,ih _ h.2.2.2.2⟩
theorem QM{n:Nat}{op:List UInt8}{a b:Ex}(n1:¬op=CU)(n2:¬op=DC)(n3:¬op=C9)(n4:¬op=Be):DX (n+1) (.mk op V.zero [] [a,b])=sg 40::(DX n a++opK op::(DX n b++[sg 41])):=by
 conv=>lhs;unfold DX
 rw[if_neg (c:=(Ex.mk op V.zero [] [a,b]).op=CU) n1,if_neg (c:=(Ex.mk op V.zero [] [a,b]).op=DC) n2,if_neg (c:=(Ex.mk op V.zero [] [a,b]).op=C9) n3,if_neg (c:=(Ex.mk op V.zero [] [a,b]).op=Be) n4];rfl
theorem Hr{n:Nat}{op:List UInt8}{a b:Ex}(n1:¬op=CU)(n2:¬op=DC)(n3:¬op=C9)(n4:¬op=Be):BJ (n+1) (.mk op V.zero [] [a,b])=((([40]++BJ n a)++[32])++upperB op)++[32]++BJ n b++[41]:=by
 conv=>lhs;unfold BJ
 rw[if_neg (c:=(Ex.mk op V.zero [] [a,b]).op=CU) n1,if_neg (c:=(Ex.mk op V.zero [] [a,b]).op=DC) n2,if_neg (c:=(Ex.mk op V.zero [] [a,b]).op=C9) n3,if_neg (c:=(Ex.mk op V.zero [] [a,b]).op=Be) n4];rfl
theorem Zu:∀(n:Nat) (e:Ex),Cc n e=true->DX (n+1) e=DX n e/\BJ (n+1) e=BJ n e:=by
 intro n
 induction n with
 |zero=>intro e h;simp[Cc]at h
 |succ n ih=>
  intro e h;rcases Ew h with⟨he,hm⟩|⟨he,hn,hr⟩|⟨a,rfl,ha⟩|⟨a,rfl,ha⟩|⟨op,a,b,rfl,ho,ha,hb⟩
  ·rw[he];exact⟨rfl,rfl⟩
  ·rw[he];exact⟨rfl,rfl⟩
  ·obtain⟨h1,h2⟩:=ih a ha;refine⟨?_, ?_⟩
   ·show sg 40::wd [78,79,84]::(DX (n+1) a++[sg 41])=sg 40::wd [78,79,84]::(DX n a++[sg 41])
    rw[h1]
   ·show([40,78,79,84,32]++BJ (n+1) a)++[41]=([40,78,79,84,32]++BJ n a)++[41]
    rw[h2]
  ·obtain⟨h1,h2⟩:=ih a ha;refine⟨?_, ?_⟩
   ·show sg 40::(DX (n+1) a++[wd [73,83],wd [78,85,76,76],sg 41])=sg 40::(DX n a++[wd [73,83],wd [78,85,76,76],sg 41])
    rw[h1]
   ·show([40]++BJ (n+1) a)++[32,73,83,32,78,85,76,76,41]=([40]++BJ n a)++[32,73,83,32,78,85,76,76,41]
    rw[h2]
  ·obtain⟨h1,h2⟩:=ih a ha;obtain⟨h3,h4⟩:=ih b hb;obtain⟨n1,n2,n3,n4⟩:=IP ho;refine⟨?_, ?_⟩
   ·rw[QM n1 n2 n3 n4,QM n1 n2 n3 n4,h1,h3]
   ·rw[Hr n1 n2 n3 n4,Hr n1 n2 n3 n4,h2,h4]
theorem EH{l:List Tok}{a:Nat}{t:Tok}(h:l[a]? = some t)(w:List UInt8):hit l a w=isB t.k t.s w:=by unfold hit;rw[h]
theorem Rj{l:List Tok}{a:Nat}(h:l[a]? = none)(w:List UInt8):hit l a w=false:=by unfold hit;rw[h]
theorem Dj{l:List Tok}{a:Nat}{t:Tok}{r:List Tok}(h:l.drop a=t::r):l[a]? = some t/\l.drop (a+1)=r:=by
 refine⟨?_, ?_⟩
 ·have:=congrArg (·[0]?) h;simpa using this
 ·rw[<-List.drop_drop,h];rfl
theorem KR{l x r:List Tok}{a:Nat}(h:l.drop a=x++r):l.drop (a+x.length)=r:=by
 rw[<-List.drop_drop,h];simp
def OZ(l:List Tok)(a:Nat):Prop:=Ar l a [[43],[45]]=none/\Ar l a FK=none/\Ar l a [[65,78,68]]=none/\Ar l a [[79,82]]=none
def YK(t:Tok):Bool:=!(isB t.k t.s [43]||isB t.k t.s [45]||isB t.k t.s [61]||isB t.k t.s [60]||isB t.k t.s [73,83]||isB t.k t.s [65,78,68]||isB t.k t.s [79,82])
theorem Ui{l:List Tok}{a:Nat}(h:l[a]? = none\/∃t,l[a]? = some t/\YK t=true):OZ l a:=by
 rcases h with h|⟨t,h,hs⟩
 ·unfold OZ FK;simp[Ar,Rj h]
 ·unfold YK at hs;simp only[Bool.not_eq_true',Bool.or_eq_false_iff]at hs;obtain⟨⟨⟨⟨⟨⟨h1,h2⟩,h3⟩,h4⟩,h5⟩,h6⟩,h7⟩:=hs;unfold OZ FK;simp[Ar,EH h,h1,h2,h3,h4,h5,h6,h7]
abbrev Lev:=(Nat->Ex×Bool×Nat)×(Nat->Ex×Bool×Nat)
def Ir(l:List Tok)(I:Lev):Nat->Ex×Bool×Nat:=D6 (EK l I.2) l [[43],[45]]
theorem P8(l:List Tok)(I:Lev):lev l I=(I9 l I.1 (EI l (Ir l I)),D6 (D6 (I9 l I.1 (EI l (Ir l I))) l [[65,78,68]]) l [[79,82]]):=rfl
theorem JM{l:List Tok}{I:Lev}{a b:Nat}{e:Ex}(h:EK l I.2 a=(e,true,b)):hit l a [78,79,84]=false:=by
 cases hh:hit l a [78,79,84]
 ·rfl
 ·exfalso;cases ht:l[a]? with
  |none=>rw[Rj ht]at hh;cases hh
  |some t=>
   rw[EH ht]at hh;obtain⟨k,s⟩:=t;unfold isB at hh;simp only[Bool.and_eq_true,Bool.or_eq_true,decide_eq_true_eq,beq_iff_eq]at hh;obtain⟨hk,rfl⟩:=hh;unfold EK at h;have h0:hit l a [40]=false:=by rw[EH ht];unfold isB;simp
   have h1:hit l a [45]=false:=by rw[EH ht];unfold isB;simp
   rw[h0,h1]at h;simp only[Bool.false_eq_true,if_false]at h;unfold JO at h;rw[ht]at h;rcases hk with rfl|rfl
   ·have:(MC false ⟨1,[78,79,84]⟩).2=false:=by decide
    simp only at h;split at h
    ·rw[this]at h;simp at h
    ·simp at h
   ·have:EG ⟨4,[78,79,84]⟩=false:=by decide
    simp[this]at h
theorem Fh{l:List Tok}{I:Lev}{a b:Nat}{e:Ex}(h:EK l I.2 a=(e,true,b))(hs:Ar l b [[43],[45]]=none):Ir l I a=(e,true,b):=FX _ _ _ _ _ _ _ h hs
theorem JK{l:List Tok}{I:Lev}{a b:Nat}{e:Ex}(h:Ir l I a=(e,true,b))(hs:Ar l b FK=none):EI l (Ir l I) a=(e,true,b):=by
 unfold EI;rw[h];simp only[if_true,hs]
theorem Fp{l:List Tok}{I:Lev}{a b:Nat}{e:Ex}(hn:hit l a [78,79,84]=false)(h:EI l (Ir l I) a=(e,true,b)):I9 l I.1 (EI l (Ir l I)) a=(e,true,b):=by
 unfold I9;rw[hn];exact h
theorem Js{l:List Tok}{I:Lev}{a b:Nat}{e:Ex}(h:I9 l I.1 (EI l (Ir l I)) a=(e,true,b))(h1:Ar l b [[65,78,68]]=none)(h2:Ar l b [[79,82]]=none):(lev l I).2 a=(e,true,b):=by
 rw[P8];exact FX _ _ _ _ _ _ _ (FX _ _ _ _ _ _ _ h h1) h2
theorem KG{l:List Tok}{I:Lev}{a b:Nat}{e:Ex}(h:EK l I.2 a=(e,true,b))(hs:OZ l b):I9 l I.1 (EI l (Ir l I)) a=(e,true,b):=
 Fp (JM h) (JK (Fh h hs.1) hs.2.1)
theorem Yo{l:List Tok}{I:Lev}{a b:Nat}{e:Ex}(h:EK l I.2 a=(e,true,b))(hs:OZ l b):(lev l I).2 a=(e,true,b):=Js (KG h hs) hs.2.2.1 hs.2.2.2
theorem Jd(F:Nat->Ex×Bool×Nat)(l:List Tok)(ws:List (List UInt8))(a a1 a2:Nat)(e f:Ex)(x:List UInt8)(h1:F a=(e,true,a1))(ht:Ar l a1 ws=some x)(h2:F (a1+1)=(f,true,a2))(hs:Ar l a2 ws=none):
  D6 F l ws a=(.mk (Lib.toLowerA x) V.zero [] [e,f],true,a2):=by
 have hl:=(GZ ht).1;unfold D6;rw[h1];obtain⟨m,hm⟩:∃m,l.length=m+1:=⟨l.length - 1,by omega⟩;rw[hm]
 conv=>lhs;unfold GK
 simp only[if_true,ht,h2]
 conv=>lhs;unfold GK
 simp only[if_true,hs]
theorem Jn{l:List Tok}{a:Nat}(h:l[a]? = some (sg 41)):OZ l a:=Ui (.inr ⟨_,h,by decide⟩)
theorem aT{l:List Tok}{I:Lev}{a a1 a2:Nat}{e f:Ex}{op:List UInt8}(ho:J5 op=true)(h1:EK l I.2 a=(e,true,a1))(ht:l[a1]? = some (opK op))(h2:EK l I.2 (a1+1)=(f,true,a2))(hc:l[a2]? = some (sg 41)):
  (lev l I).2 a=(.mk op V.zero [] [e,f],true,a2):=by
 have hs:=Jn hc;have hn:=JM h1;rw[Hq]at ho;rcases ho with rfl|rfl|rfl|rfl|rfl|rfl
 ·-- AND
  have ht':l[a1]? = some (wd [65,78,68]):=ht;have e1:Ar l a1 [[43],[45]]=none/\Ar l a1 FK=none/\Ar l a1 [[65,78,68]]=some [65,78,68]:=by unfold FK;simp[Ar,EH ht',isB,wd]
  have n1:I9 l I.1 (EI l (Ir l I)) a=(e,true,a1):=Fp hn (JK (Fh h1 e1.1) e1.2.1);have:=Jd _ l [[65,78,68]] a a1 a2 e f _ n1 e1.2.2 (KG h2 hs) hs.2.2.1;rw[P8];exact FX _ _ _ _ _ _ _ this hs.2.2.2
 ·-- OR
  have ht':l[a1]? = some (wd [79,82]):=ht;have e1:Ar l a1 [[43],[45]]=none/\Ar l a1 FK=none/\Ar l a1 [[65,78,68]]=none/\Ar l a1 [[79,82]]=some [79,82]:=by unfold FK;simp[Ar,EH ht',isB,wd]
  have n1:I9 l I.1 (EI l (Ir l I)) a=(e,true,a1):=Fp hn (JK (Fh h1 e1.1) e1.2.1);rw[P8];exact Jd _ l [[79,82]] a a1 a2 e f _ (FX _ _ _ _ _ _ _ n1 e1.2.2.1) e1.2.2.2 (FX _ _ _ _ _ _ _ (KG h2 hs) hs.2.2.1) hs.2.2.2
 ·have ht':l[a1]? = some ⟨4,[61]⟩:=ht;have e1:Ar l a1 [[43],[45]]=none/\Ar l a1 FK=some [61]:=by unfold FK;simp[Ar,EH ht',isB]
  have n1:EI l (Ir l I) a=(.mk Vt V.zero [] [e,f],true,a2):=by
   unfold EI;rw[Fh h1 e1.1];simp only[if_true,e1.2,Fh h2 hs.1];rfl
  exact Js (Fp hn n1) hs.2.2.1 hs.2.2.2
 ·have ht':l[a1]? = some ⟨4,[60]⟩:=ht;have e1:Ar l a1 [[43],[45]]=none/\Ar l a1 FK=some [60]:=by unfold FK;simp[Ar,EH ht',isB]
  have n1:EI l (Ir l I) a=(.mk Vs V.zero [] [e,f],true,a2):=by
   unfold EI;rw[Fh h1 e1.1];simp only[if_true,e1.2,Fh h2 hs.1];rfl
  exact Js (Fp hn n1) hs.2.2.1 hs.2.2.2
 ·have ht':l[a1]? = some ⟨4,[43]⟩:=ht;have e1:Ar l a1 [[43],[45]]=some [43]:=by simp[Ar,EH ht',isB]
  have n1:Ir l I a=(.mk LD V.zero [] [e,f],true,a2):=Jd _ l [[43],[45]] a a1 a2 e f _ h1 e1 h2 hs.1;exact Js (Fp hn (JK n1 hs.2.1)) hs.2.2.1 hs.2.2.2
 ·have ht':l[a1]? = some ⟨4,[45]⟩:=ht;have e1:Ar l a1 [[43],[45]]=some [45]:=by simp[Ar,EH ht',isB]
  have n1:Ir l I a=(.mk JZ V.zero [] [e,f],true,a2):=Jd _ l [[43],[45]] a a1 a2 e f _ h1 e1 h2 hs.1;exact Js (Fp hn (JK n1 hs.2.1)) hs.2.2.1 hs.2.2.2
theorem Yn{l:List Tok}{I:Lev}{a a1:Nat}{e:Ex}(h1:EK l I.2 a=(e,true,a1))(ht:l[a1]? = some (wd [73,83]))(hu:l[a1+1]? = some (wd [78,85,76,76]))(hc:l[a1+2]? = some (sg 41)):
  (lev l I).2 a=(.mk Be V.zero [] [e],true,a1+2):=by
 have hs:=Jn hc;have hn:=JM h1;have e1:Ar l a1 [[43],[45]]=none/\Ar l a1 FK=some [73,83]:=by unfold FK;simp[Ar,EH ht,isB,wd]
 have e2:hit l (a1+1) [78,85,76,76]=true:=by rw[EH hu];decide
 have n1:EI l (Ir l I) a=(.mk Be V.zero [] [e],true,a1+2):=by
  unfold EI;rw[Fh h1 e1.1];simp only[if_true,e1.2,e2]
 exact Js (Fp hn n1) hs.2.2.1 hs.2.2.2
theorem aV{l:List Tok}{I J:Lev}{a a1:Nat}{e:Ex}(hI:I=lev l J)(ht:l[a]? = some (wd [78,79,84]))(h1:EK l J.2 (a+1)=(e,true,a1))(hc:l[a1]? = some (sg 41)):
  (lev l I).2 a=(.mk C9 V.zero [] [e],true,a1):=by
 have hs:=Jn hc;have hh:hit l a [78,79,84]=true:=by rw[EH ht];decide
 have h2:I.1 (a+1)=(e,true,a1):=by
  rw[hI,P8];exact KG h1 hs
 have n1:I9 l I.1 (EI l (Ir l I)) a=(.mk C9 V.zero [] [e],true,a1):=by
  unfold I9;rw[hh,h2];rfl
 exact Js n1 hs.2.2.1 hs.2.2.2
theorem Jz{l:List Tok}{I:Lev}{a a1:Nat}{e:Ex}(ht:l[a]? = some (sg 40))(h:I.2 (a+1)=(e,true,a1))(hc:l[a1]? = some (sg 41)):EK l I.2 a=(e,true,a1+1):=by
 have h1:hit l a [40]=true:=by rw[EH ht];decide
 have h2:hit l a1 [41]=true:=by rw[EH hc];decide
 unfold EK;rw[h1,h];simp only[if_true,h2,Bool.and_self]
theorem II{l:List Tok}{I:Lev}{a:Nat}{t:Tok}{e:Ex}(ht:l[a]? = some t)(hm:EG t=true)(h40:isB t.k t.s [40]=false)(h45:isB t.k t.s [45]=false)(h:MC false t=(e,true)):EK l I.2 a=(e,true,a+1):=by
 unfold EK;rw[EH ht,EH ht,h40,h45];simp only[Bool.false_eq_true,if_false];unfold JO;rw[ht];simp[hm,h]
theorem RF(i:Int)(hf:Fq i):GU (Lib.itoa i)=(i,true):=by
 unfold GU;rw[UC i hf.1 hf.2]
theorem RG{s w:List UInt8}(h:D9 s=true){c:UInt8}{r:List UInt8}(hx:w=c::r)(hc:DV c=false):isB 1 s w=false:=by
 have:=Yt h hx hc;unfold isB;rw[this];rfl
theorem YF(v:V)(hm:D5 v.k v.i v.s=true)(hf:Fq v.i)(l:List Tok)(I:Lev)(a:Nat)(rest:List Tok)(hl:l.drop a=Ob v++rest):EK l I.2 a=(Ee v,true,a+(Ob v).length):=by
 obtain⟨k,i,s⟩:=v;dsimp only at hm hf;unfold Ob at hl ⊢;rcases Hy hm with⟨rfl,rfl,rfl⟩|⟨rfl,rfl⟩|⟨rfl,rfl,_⟩|⟨rfl,hi,rfl⟩
 ·have hl':l.drop a=wd [78,85,76,76]::rest:=hl;exact II (Dj hl').1 (by decide) (by decide) (by decide) rfl
 ·simp only[if_true]at hl ⊢;by_cases hn:i<0
  ·rw[if_pos hn]at hl ⊢;have hl':l.drop a=sg 45::⟨2,Lib.decDigits i.natAbs⟩::rest:=hl;obtain⟨g1,g2⟩:=Dj hl';obtain⟨g3,_⟩:=Dj g2;have h1:hit l a [40]=false:=by rw[EH g1];decide
   have h2:hit l a [45]=true:=by rw[EH g1];decide
   have hr:=MQ i.natAbs (by unfold Fq at hf;omega);have hn2:=RF i hf;unfold Lib.itoa at hn2;rw[if_pos hn]at hn2;unfold EK;rw[h1,h2];simp only[Bool.false_eq_true,if_false,if_true];unfold JO;rw[g3];have hmt:EG ⟨2,Lib.decDigits i.natAbs⟩=true:=hr;simp only[hmt,if_true];unfold MC;simp only[if_true,sgn,hn2];rfl
  ·rw[if_neg hn]at hl ⊢;have hl':l.drop a=⟨2,Lib.decDigits i.toNat⟩::rest:=hl;have hn2:=RF i hf;unfold Lib.itoa at hn2;rw[if_neg hn]at hn2;refine II (Dj hl').1 (MQ i.toNat (by unfold Fq at hf;omega)) rfl rfl ?_;unfold MC;simp[sgn,hn2]
 ·have hl':l.drop a=⟨3,s⟩::rest:=hl;exact II (Dj hl').1 (show EG ⟨3,s⟩=true from hm) rfl rfl rfl
 ·rcases hi with rfl|rfl
  ·have hl':l.drop a=wd [70,65,76,83,69]::rest:=hl;exact II (Dj hl').1 (by decide) (by decide) (by decide) rfl
  ·have hl':l.drop a=wd [84,82,85,69]::rest:=hl;exact II (Dj hl').1 (by decide) (by decide) (by decide) rfl
theorem YH(s:List UInt8)(hn:D9 s=true)(hr:CZ s=false)(l:List Tok)(I:Lev)(a:Nat)(rest:List Tok)(hl:l.drop a=wd s::rest):EK l I.2 a=(.mk DC V.zero s [],true,a+1):=by
 refine II (Dj hl).1 hn (RG hn rfl (by decide)) (RG hn rfl (by decide)) ?_;have h1:∀x,CZ x=true->¬s=x:=λx hx e=>by rw[e,hx]at hr;cases hr
 unfold MC wd;simp only;rw[if_neg (by decide),if_neg (by decide),if_neg (by decide),if_pos trivial,if_neg (h1 _ (by decide)),if_neg (h1 _ (by decide)),if_neg (h1 _ (by decide)),hr];rfl
theorem AHG:∀(n:Nat) (e:Ex),Cc n e=true->D8 n e->∀(m:Nat),2 * n<=m->∀(l:List Tok) (a:Nat) (rest:List Tok),l.drop a=DX n e++rest->EK l (Hf l m).2 a=(e,true,a+(DX n e).length):=by
 intro n
 induction n with
 |zero=>intro e h;simp[Cc]at h
 |succ n ih=>
  intro e h hf m hm l a rest hl;obtain⟨m,rfl⟩:∃k,m=k+2:=⟨m - 2,by omega⟩;rcases Ew h with⟨he,hb⟩|⟨he,hn,hr⟩|⟨x,rfl,hx⟩|⟨x,rfl,hx⟩|⟨op,x,y,rfl,ho,hx,hy⟩
  ·have h2:DX (n+1) e=Ob e.v:=by rw[he];rfl
   have:=Nr hf;rw[h2]at hl ⊢;rw[YF e.v hb this l _ a rest hl]
   conv=>rhs;rw[he]
   rfl
  ·have h2:DX (n+1) e=[wd e.s]:=by rw[he];rfl
   rw[h2]at hl ⊢;rw[YH e.s hn hr l _ a rest hl]
   conv=>rhs;rw[he]
   rfl
  ·have h2:DX (n+1) (.mk C9 V.zero [] [x])=sg 40::wd [78,79,84]::(DX n x++[sg 41]):=rfl;rw[h2]at hl ⊢;simp only[List.cons_append,List.append_assoc]at hl;obtain⟨g1,g2⟩:=Dj hl;obtain⟨g3,g4⟩:=Dj g2;have k1:=ih x hx (hf.2 x (by simp[Ex.l])) m (by omega) l (a+1+1) _ g4;have g5:=(Dj (KR g4)).1;have k2:(Hf l (m+2)).2 (a+1)=(.mk C9 V.zero [] [x],true,a+1+1+(DX n x).length):=aV (I:=Hf l (m+1)) (J:=Hf l m) rfl g3 k1 g5;rw[Jz (I:=Hf l (m+2)) g1 k2 g5];simp only[List.length_cons,List.length_append,List.length_nil];congr 2;omega
  ·have h2:DX (n+1) (.mk Be V.zero [] [x])=sg 40::(DX n x++[wd [73,83],wd [78,85,76,76],sg 41]):=rfl;rw[h2]at hl ⊢;simp only[List.cons_append,List.append_assoc]at hl;obtain⟨g1,g2⟩:=Dj hl;have k1:=ih x hx (hf.2 x (by simp[Ex.l])) (m+1) (by omega) l (a+1) _ g2;have g4:=KR g2;obtain⟨g5,g6⟩:=Dj g4;obtain⟨g7,g8⟩:=Dj g6;have g9:=(Dj g8).1;have k2:(Hf l (m+2)).2 (a+1)=(.mk Be V.zero [] [x],true,a+1+(DX n x).length+2):=Yn (I:=Hf l (m+1)) k1 g5 g7 g9;rw[Jz (I:=Hf l (m+2)) g1 k2 g9];simp only[List.length_cons,List.length_append,List.length_nil];congr 2;omega
  ·obtain⟨n1,n2,n3,n4⟩:=IP ho;have h2:DX (n+1) (.mk op V.zero [] [x,y])=sg 40::(DX n x++opK op::(DX n y++[sg 41])):=by
    conv=>lhs;unfold DX
    rw[if_neg (c:=(Ex.mk op V.zero [] [x,y]).op=CU) n1,if_neg (c:=(Ex.mk op V.zero [] [x,y]).op=DC) n2,if_neg (c:=(Ex.mk op V.zero [] [x,y]).op=C9) n3,if_neg (c:=(Ex.mk op V.zero [] [x,y]).op=Be) n4];rfl
   rw[h2]at hl ⊢;simp only[List.cons_append,List.append_assoc]at hl;obtain⟨g1,g2⟩:=Dj hl;have k1:=ih x hx (hf.2 x (by simp[Ex.l])) (m+1) (by omega) l (a+1) _ g2;have g4:=KR g2;obtain⟨g5,g6⟩:=Dj g4;have k3:=ih y hy (hf.2 y (by simp[Ex.l])) (m+1) (by omega) l (a+1+(DX n x).length+1) _ g6;have g9:=(Dj (KR g6)).1;have k2:(Hf l (m+2)).2 (a+1)=(.mk op V.zero [] [x,y],true,_):=aT (I:=Hf l (m+1)) ho k1 g5 k3 g9;rw[Jz (I:=Hf l (m+2)) g1 k2 g9];simp only[List.length_cons,List.length_append,List.length_nil];congr 2;omega
def StopL(rest:List Tok):Prop:=rest=[]\/∃t r,rest=t::r/\YK t=true
theorem parse_X(e:Ex)(h:E5 e=true)(hf:D8 13 e)(rest:List Tok)(hr:StopL rest):ED (DX 13 e++rest)=(e,(DX 13 e).length,0):=by
 have h1:=MM 12 e (IC h);have k:=AHG 13 e h1 hf 65535 (by omega) (DX 13 e++rest) 0 rest rfl;have hs:OZ (DX 13 e++rest) (0+(DX 13 e).length):=by
  refine Ui ?_;rcases hr with rfl|⟨t,r,rfl,ht⟩
  ·left;simp
  ·right;exact⟨t,by simp,ht⟩
 have k2:(Hf (DX 13 e++rest) 65536).2 0=(e,true,0+(DX 13 e).length):=Yo (I:=Hf (DX 13 e++rest) 65535) k hs;unfold ED;rw[k2];simp[h]
def exK(e:Ex):List Tok:=DX 13 e
def Me(e:Ex):List Tok:=if DU e then[]else wd [87,72,69,82,69]::exK e
def JL(p:List Tok)(e:Ex):List Tok:=if DU e then[]else p++wd [67,72,69,67,75]::sg 40::(exK e++[sg 41])
def PQ:List (List Tok)->List Tok
 |[]=>[]
 |[x]=>x
 |x::y::r=>x++sg 44::PQ (y::r)
def ZV(c:Col):List Tok:=wd c.n::wd (Ic c.t)::(if c.b then[wd [78,79,84],wd [78,85,76,76]]else[])
def aH(x:Se):List Tok:=wd x.n::sg 61::exK x.e
def Zi(l:List (List UInt8)):List Tok:=l.flatMap λc=>[sg 44,wd [85,78,73,81,85,69],sg 40,wd c,sg 41]
def Zk(l:List Rf):List Tok:=l.flatMap λr=>[sg 44,wd [82,69,70,69,82,69,78,67,69,83],sg 40,wd r.c,sg 41,wd r.t]
def Yu(s:St):List Tok:=[wd [77,73,71,82,65,84,69],wd (upperB s.op),wd s.tb,wd [70,82,79,77],wd s.ot]
def tokS(s:St):List Tok:=
 if s.op=GR then wd [67,82,69,65,84,69]::wd [84,65,66,76,69]::wd s.tb::sg 40::(PQ (s.cols.map ZV)++sg 44::wd [75,69,89]::sg 40::wd s.key::sg 41::(Zi s.uniq++(Zk s.refs++(JL [sg 44] s.chk++[sg 41]))))
 else if s.op=Lp then[wd [68,82,79,80],wd [84,65,66,76,69],wd s.tb]
 else if s.op=Ff then wd [73,78,83,69,82,84]::wd [73,78,84,79]::wd s.tb::wd [86,65,76,85,69,83]::sg 40::(PQ (s.row.map Ob)++[sg 41])
 else if s.op=Fe then wd [85,80,68,65,84,69]::wd s.tb::wd [83,69,84]::(PQ (s.sets.map aH)++Me s.whr)
 else if s.op=Eo then wd [68,69,76,69,84,69]::wd [70,82,79,77]::wd s.tb::Me s.whr
 else if s.op=FH then wd [83,69,76,69,67,84]::sg 42::wd [70,82,79,77]::wd s.tb::Me s.whr
 else if s.op=Hw\/s.op=FV then[wd [71,82,65,78,84],wd (upperB s.op),wd [79,78],wd s.tb,wd [84,79],wd s.role]
 else if s.op=EZ\/s.op=Dy then[wd [82,69,86,79,75,69],wd (upperB (s.op.drop 2)),wd [79,78],wd s.tb,wd [70,82,79,77],wd s.role]
 else if s.op=Gx then Yu s++sg 40::(PQ (s.names.map λc=>[wd c])++sg 41::JL [] s.chk)
 else if s.op=I8 then Yu s++sg 44::wd s.role::wd [79,78]::wd s.key::JL [] s.chk
 else Yu s++wd [66,89]::wd (s.names.getD 0 [])::wd [83,85,77]::wd (s.names.getD 1 [])::JL [] s.chk
theorem Ce{s:List UInt8}(h:Ai s=true):D9 s=true:=by unfold Ai at h;simp only[Bool.and_eq_true]at h;exact h.1
theorem J7{α:Type}(f:α->List UInt8)(g:α->List Tok):∀l:List α,(∀x∈l,Tk (f x) (g x))->Tk (BM BB (l.map f)) (PQ (l.map g))
 |[],_=>Tk.nil
 |[x],h=>h x (by simp)
 |x::y::r,h=>by
  have ih:=J7 f g (y::r) (λz hz=>h z (by simp at hz ⊢;exact .inr hz));have e:BM BB ((x::y::r).map f)=f x++(32::(44::(32::BM BB ((y::r).map f)))):=by
   show(f x++BB)++BM BB ((y::r).map f)=_
   rw[List.append_assoc];rfl
  rw[e];exact(h x (by simp)).app (Tk.blank (Tk.sign (by decide) (Tk.blank ih))) (.inr (BG.mk _ _))
theorem Z7{e:Ex}(h:E5 e=true)(hf:D8 13 e):Tk (FB e) (exK e):=tk_X 13 e (MM 12 e (IC h)) hf
theorem QN{e:Ex}(h:Aq e=true)(hf:D8 13 e):Tk (DY e) (Me e)/\(DY e=[]\/BG (DY e)):=by
 unfold DY Me;unfold Aq at h;cases hn:DU e
 ·rw[hn]at h;have e1:[32,87,72,69,82,69,32]++FB e=32::([87,72,69,82,69]++(32::FB e)):=rfl;simp only[Bool.false_eq_true,if_false];rw[e1];exact⟨Tk.blank (Tk.word (by decide) (Tk.blank (Z7 (by simpa using h) hf)) (.inr (BG.mk _ _))),.inr (BG.mk _ _)⟩
 ·exact⟨Tk.nil,.inl rfl⟩
theorem Ox{e:Ex}(h:E5 e=true)(hf:D8 13 e){t:List UInt8}{b:List Tok}(k:Tk t b):Tk ([67,72,69,67,75,32,40,32]++(FB e++([32,41]++t))) (wd [67,72,69,67,75]::sg 40::(exK e++sg 41::b)):=by
 have e1:[67,72,69,67,75,32,40,32]++(FB e++([32,41]++t))=[67,72,69,67,75]++(32::(40::(32::(FB e++(32::(41::t)))))):=rfl;rw[e1];exact Tk.word (by decide) (Tk.blank (Tk.sign (by decide) (Tk.blank ((Z7 h hf).app (Tk.blank (Tk.sign (by decide) k)) (.inr (BG.mk _ _)))))) (.inr (BG.mk _ _))
theorem NE{e:Ex}(h:Aq e=true)(hf:D8 13 e):Tk (Bz [32] e) (JL [] e)/\(Bz [32] e=[]\/BG (Bz [32] e)):=by
 unfold Bz JL;unfold Aq at h;cases hn:DU e
 ·rw[hn]at h;have:=Ox (by simpa using h) hf Tk.nil;simp only[Bool.false_eq_true,if_false,List.append_assoc,List.append_nil]at this ⊢;exact⟨Tk.blank this,.inr (BG.mk _ _)⟩
 ·exact⟨Tk.nil,.inl rfl⟩
theorem VO{e:Ex}(h:Aq e=true)(hf:D8 13 e){t:List UInt8}{b:List Tok}(k:Tk t b)(ht:BG t):Tk (Bz BB e++t) (JL [sg 44] e++b)/\BG (Bz BB e++t):=by
 unfold Bz JL;unfold Aq at h;cases hn:DU e
 ·rw[hn]at h;have:=Ox (by simpa using h) hf k;simp only[Bool.false_eq_true,if_false,List.append_assoc,List.cons_append,List.nil_append]at this ⊢;exact⟨Tk.blank (Tk.sign (by decide) (Tk.blank this)),BG.mk _ _⟩
 ·exact⟨k,ht⟩
theorem S9(t:Int):D9 (Ic t)=true:=by
 unfold Ic;split
 ·decide
 ·split<;>decide
theorem Zz{c:Col}(h:GI c=true):Tk (Ij c) (ZV c):=by
 unfold GI at h;simp only[Bool.and_eq_true]at h;have hn:=Ce h.1.1;unfold Ij ZV;have e1:c.n++[32]++Ic c.t++(if c.b then[32,78,79,84,32,78,85,76,76]else[])=c.n++(32::(Ic c.t++(if c.b then[32,78,79,84,32,78,85,76,76]else[]))):=by simp
 rw[e1];refine Tk.word hn (Tk.blank (Tk.word (S9 _) ?_ ?_)) (.inr (BG.mk _ _))
 ·cases c.b
  ·exact Tk.nil
  ·exact Tk.blank (Tk.word (x:=[78,79,84]) (by decide) (Tk.blank (Tk.wr (t:=wd [78,85,76,76]) (by decide))) (.inr (BG.mk _ _)))
 ·cases c.b
  ·exact .inl rfl
  ·exact .inr (BG.mk _ _)
theorem Zv{x:Se}(h:GG x=true)(hf:D8 13 x.e):Tk (Ih x) (aH x):=by
 unfold GG at h;simp only[Bool.and_eq_true]at h;have e1:Ih x=x.n++(32::(61::(32::FB x.e))):=by unfold Ih;simp
 rw[e1];exact Tk.word (Ce h.1) (Tk.blank (Tk.sign (by decide) (Tk.blank (Z7 h.2 hf)))) (.inr (BG.mk _ _))
theorem Ue:∀(l:List (List UInt8)),(∀c∈l,Ai c=true)->∀{t:List UInt8} {b:List Tok},Tk t b->BG t->Tk (Eh l++t) (Zi l++b)/\BG (Eh l++t)
 |[],_,_,_,k,ht=>⟨k,ht⟩
 |c::r,h,t,b,k,ht=>by
  obtain⟨ih1,ih2⟩:=Ue r (λx hx=>h x (by simp[hx])) k ht;have e1:Eh (c::r)++t=32::(44::(32::([85,78,73,81,85,69]++(32::(40::(32::(c++(32::(41::(Eh r++t)))))))))):=by unfold Eh;simp
  rw[e1];exact⟨Tk.blank (Tk.sign (by decide) (Tk.blank (Tk.word (by decide) (Tk.blank (Tk.sign (by decide) (Tk.blank (Tk.word (Ce (h c (by simp))) (Tk.blank (Tk.sign (by decide) ih1)) (.inr (BG.mk _ _)))))) (.inr (BG.mk _ _))))),BG.mk _ _⟩
theorem Uf:∀(l:List Rf),(∀c∈l,G9 c=true)->∀{t:List UInt8} {b:List Tok},Tk t b->BG t->Tk (Ei l++t) (Zk l++b)/\BG (Ei l++t)
 |[],_,_,_,k,ht=>⟨k,ht⟩
 |c::r,h,t,b,k,ht=>by
  obtain⟨ih1,ih2⟩:=Uf r (λx hx=>h x (by simp[hx])) k ht;have hc:=h c (by simp);unfold G9 at hc;simp only[Bool.and_eq_true]at hc;have e1:Ei (c::r)++t=32::(44::(32::([82,69,70,69,82,69,78,67,69,83]++(32::(40::(32::(c.c++(32::(41::(32::(c.t++(Ei r++t)))))))))))):=by unfold Ei;simp
  rw[e1];exact⟨Tk.blank (Tk.sign (by decide) (Tk.blank (Tk.word (by decide) (Tk.blank (Tk.sign (by decide) (Tk.blank (Tk.word (Ce hc.1) (Tk.blank (Tk.sign (by decide) (Tk.blank (Tk.word (Ce hc.2) ih1 (.inr ih2))))) (.inr (BG.mk _ _)))))) (.inr (BG.mk _ _))))),BG.mk _ _⟩
def fitS(s:St):Prop:=D8 13 s.chk/\D8 13 s.whr/\(∀v∈s.row,Fq v.i)/\∀x∈s.sets,D8 13 x.e
theorem BO{α:Type}{l:List α}{lo hi:Nat}{p:α->Bool}(h:Bh l lo hi p=true):lo<=l.length/\l.length<=hi/\∀x∈l,p x=true:=by
 unfold Bh at h;simp only[Bool.and_eq_true,decide_eq_true_eq,List.all_eq_true]at h;exact⟨h.1.1,h.1.2,h.2⟩
theorem KN{α:Type}{l:List α}{p:α->Bool}{d:α}(h:∀x∈l,p x=true){k:Nat}(hk:k<l.length):p (l.getD k d)=true:=by
 have e:l.getD k d=l[k]:=by simp[List.getD,List.getElem?_eq_getElem hk]
 rw[e];exact h _ (List.getElem_mem _)
theorem TJ{s:St}(hop:s.op=Gx\/s.op=I8\/s.op=GH)(h1:Ai s.tb=true)(h2:Ai s.ot=true){t:List UInt8}{b:List Tok}(k:Tk t b)(ht:BG t):Tk (JB s++t) (Yu s++b):=by
 have e1:JB s++t=[77,73,71,82,65,84,69]++(32::(upperB s.op++(32::(s.tb++(32::([70,82,79,77]++(32::(s.ot++t)))))))):=by unfold JB;simp
 have hu:D9 (upperB s.op)=true:=by rcases hop with h|h|h<;>rw[h]<;>decide
 rw[e1];exact Tk.word (by decide) (Tk.blank (Tk.word hu (Tk.blank (Tk.word (Ce h1) (Tk.blank (Tk.word (by decide) (Tk.blank (Tk.word (Ce h2) k (.inr ht))) (.inr (BG.mk _ _)))) (.inr (BG.mk _ _)))) (.inr (BG.mk _ _)))) (.inr (BG.mk _ _))
theorem tk_S(s:St)(h:Am s=true)(hf:fitS s):Tk (Dk s) (tokS s):=by
 obtain⟨f1,f2,f3,f4⟩:=hf;unfold Am at h;unfold Dk tokS;split at h
 ·rename_i hop
  rw[if_pos hop,if_pos hop];unfold OA at h;simp only[Bool.and_eq_true]at h;obtain⟨⟨h1,⟨⟨⟨⟨h2,h3⟩,h4⟩,h5⟩,h6⟩⟩,_⟩:=h;obtain⟨c1,c2⟩:=VO h6 f1 (t:=32::[41]) (Tk.blank (Tk.sign (by decide) Tk.nil)) (BG.mk _ _);obtain⟨r1,r2⟩:=Uf s.refs (BO h5).2.2 c1 c2;obtain⟨u1,u2⟩:=Ue s.uniq (BO h4).2.2 r1 r2;have hc:=J7 Ij ZV s.cols (λc hc=>Zz ((BO h2).2.2 c hc));have e1:[67,82,69,65,84,69,32,84,65,66,76,69,32]++s.tb++[32,40,32]++BM BB (s.cols.map Ij)++[32,44,32,75,69,89,32,40,32]++s.key++[32,41]++Eh s.uniq++Ei s.refs++Bz BB s.chk++[32,41] =
    [67,82,69,65,84,69]++(32::([84,65,66,76,69]++(32::(s.tb++(32::(40::(32::(BM BB (s.cols.map Ij)++(32::(44::(32::([75,69,89]++(32::(40::(32::(s.key++(32::(41::(Eh s.uniq++(Ei s.refs++(Bz BB s.chk++(32::[41])))))))))))))))))))))):=by simp
  rw[e1];exact Tk.word (by decide) (Tk.blank (Tk.word (by decide) (Tk.blank (Tk.word (Ce h1) (Tk.blank (Tk.sign (by decide) (Tk.blank (hc.app (Tk.blank (Tk.sign (by decide) (Tk.blank (Tk.word (by decide) (Tk.blank (Tk.sign (by decide) (Tk.blank (Tk.word (Ce h3) (Tk.blank (Tk.sign (by decide) u1)) (.inr (BG.mk _ _)))))) (.inr (BG.mk _ _)))))) (.inr (BG.mk _ _)))))) (.inr (BG.mk _ _)))) (.inr (BG.mk _ _)))) (.inr (BG.mk _ _))
 rename_i n1
 rw[if_neg n1,if_neg n1];split at h
 ·rename_i hop
  rw[if_pos hop,if_pos hop];simp only[Bool.and_eq_true]at h;have e1:[68,82,79,80,32,84,65,66,76,69,32]++s.tb=[68,82,79,80]++(32::([84,65,66,76,69]++(32::(s.tb++[])))):=by simp
  rw[e1];exact Tk.word (by decide) (Tk.blank (Tk.word (by decide) (Tk.blank (Tk.word (Ce h.1) Tk.nil (.inl rfl))) (.inr (BG.mk _ _)))) (.inr (BG.mk _ _))
 rename_i n2
 rw[if_neg n2,if_neg n2];split at h
 ·rename_i hop
  rw[if_pos hop,if_pos hop];simp only[Bool.and_eq_true]at h;obtain⟨⟨h1,h2⟩,_⟩:=h;have hc:=J7 (λv:V=>DT v.k v.i v.s) Ob s.row (λv hv=>XH v ((BO h2).2.2 v hv) (f3 v hv));have e1:[73,78,83,69,82,84,32,73,78,84,79,32]++s.tb++[32,86,65,76,85,69,83,32,40,32]++BM BB (s.row.map λv=>DT v.k v.i v.s)++[32,41] =
    [73,78,83,69,82,84]++(32::([73,78,84,79]++(32::(s.tb++(32::([86,65,76,85,69,83]++(32::(40::(32::(BM BB (s.row.map λv=>DT v.k v.i v.s)++(32::[41]))))))))))):=by simp
  rw[e1];exact Tk.word (by decide) (Tk.blank (Tk.word (by decide) (Tk.blank (Tk.word (Ce h1) (Tk.blank (Tk.word (by decide) (Tk.blank (Tk.sign (by decide) (Tk.blank (hc.app (Tk.blank (Tk.sign (by decide) Tk.nil)) (.inr (BG.mk _ _)))))) (.inr (BG.mk _ _)))) (.inr (BG.mk _ _)))) (.inr (BG.mk _ _)))) (.inr (BG.mk _ _))
 rename_i n3
 rw[if_neg n3,if_neg n3];split at h
 ·rename_i hop
  rw[if_pos hop,if_pos hop];simp only[Bool.and_eq_true]at h;obtain⟨⟨⟨h1,h2⟩,h3⟩,_⟩:=h;obtain⟨w1,w2⟩:=QN h3 f2;have hc:=J7 Ih aH s.sets (λv hv=>Zv ((BO h2).2.2 v hv) (f4 v hv));have e1:[85,80,68,65,84,69,32]++s.tb++[32,83,69,84,32]++BM BB (s.sets.map Ih)++DY s.whr=[85,80,68,65,84,69]++(32::(s.tb++(32::([83,69,84]++(32::(BM BB (s.sets.map Ih)++DY s.whr)))))):=by simp
  rw[e1];exact Tk.word (by decide) (Tk.blank (Tk.word (Ce h1) (Tk.blank (Tk.word (by decide) (Tk.blank (hc.app w1 w2)) (.inr (BG.mk _ _)))) (.inr (BG.mk _ _)))) (.inr (BG.mk _ _))
 rename_i n4
 rw[if_neg n4,if_neg n4];split at h
 ·rename_i hop
  simp only[Bool.and_eq_true]at h;obtain⟨⟨h1,h3⟩,_⟩:=h;obtain⟨w1,w2⟩:=QN h3 f2;by_cases hd:s.op=Eo
  ·rw[if_pos hd,if_pos hd];have e1:[68,69,76,69,84,69,32,70,82,79,77,32]++s.tb++DY s.whr=[68,69,76,69,84,69]++(32::([70,82,79,77]++(32::(s.tb++DY s.whr)))):=by simp
   rw[e1];exact Tk.word (by decide) (Tk.blank (Tk.word (by decide) (Tk.blank (Tk.word (Ce h1) w1 w2)) (.inr (BG.mk _ _)))) (.inr (BG.mk _ _))
  ·have hs:s.op=FH:=by rcases hop with h|h;exact absurd h hd;exact h
   rw[if_neg hd,if_neg hd,if_pos hs,if_pos hs];have e1:[83,69,76,69,67,84,32,42,32,70,82,79,77,32]++s.tb++DY s.whr=[83,69,76,69,67,84]++(32::(42::(32::([70,82,79,77]++(32::(s.tb++DY s.whr)))))):=by simp
   rw[e1];exact Tk.word (by decide) (Tk.blank (Tk.sign (by decide) (Tk.blank (Tk.word (by decide) (Tk.blank (Tk.word (Ce h1) w1 w2)) (.inr (BG.mk _ _)))))) (.inr (BG.mk _ _))
 rename_i n5
 rw[if_neg (λh=>n5 (.inl h)),if_neg (λh=>n5 (.inl h)),if_neg (λh=>n5 (.inr h)),if_neg (λh=>n5 (.inr h))];split at h
 ·rename_i hop
  simp only[Bool.and_eq_true]at h;obtain⟨⟨h1,h2⟩,_⟩:=h;by_cases hd:s.op=Hw\/s.op=FV
  ·rw[if_pos hd,if_pos hd];have hu:D9 (upperB s.op)=true:=by rcases hd with h|h<;>rw[h]<;>decide
   have e1:[71,82,65,78,84,32]++upperB s.op++[32,79,78,32]++s.tb++[32,84,79,32]++s.role=[71,82,65,78,84]++(32::(upperB s.op++(32::([79,78]++(32::(s.tb++(32::([84,79]++(32::(s.role++[])))))))))):=by simp
   rw[e1];exact Tk.word (by decide) (Tk.blank (Tk.word hu (Tk.blank (Tk.word (by decide) (Tk.blank (Tk.word (Ce h1) (Tk.blank (Tk.word (by decide) (Tk.blank (Tk.word (Ce h2) Tk.nil (.inl rfl))) (.inr (BG.mk _ _)))) (.inr (BG.mk _ _)))) (.inr (BG.mk _ _)))) (.inr (BG.mk _ _)))) (.inr (BG.mk _ _))
  ·have hd2:s.op=EZ\/s.op=Dy:=by
    rcases hop with h|h|h
    ·exact absurd (.inl h) hd
    ·exact absurd (.inr h) hd
    ·exact h
   rw[if_neg hd,if_neg hd,if_pos hd2,if_pos hd2];have hu:D9 (upperB (s.op.drop 2))=true:=by rcases hd2 with h|h<;>rw[h]<;>decide
   have e1:[82,69,86,79,75,69,32]++upperB (s.op.drop 2)++[32,79,78,32]++s.tb++[32,70,82,79,77,32]++s.role=[82,69,86,79,75,69]++(32::(upperB (s.op.drop 2)++(32::([79,78]++(32::(s.tb++(32::([70,82,79,77]++(32::(s.role++[])))))))))):=by simp
   rw[e1];exact Tk.word (by decide) (Tk.blank (Tk.word hu (Tk.blank (Tk.word (by decide) (Tk.blank (Tk.word (Ce h1) (Tk.blank (Tk.word (by decide) (Tk.blank (Tk.word (Ce h2) Tk.nil (.inl rfl))) (.inr (BG.mk _ _)))) (.inr (BG.mk _ _)))) (.inr (BG.mk _ _)))) (.inr (BG.mk _ _)))) (.inr (BG.mk _ _))
 rename_i n6
 have m1:¬(s.op=Hw\/s.op=FV):=λh=>n6 (h.elim .inl λh=>.inr (.inl h))
 have m2:¬(s.op=EZ\/s.op=Dy):=λh=>n6 (.inr (.inr h))
 rw[if_neg m1,if_neg m1,if_neg m2,if_neg m2];split at h
 ·rename_i hop
  rw[if_pos hop,if_pos hop];simp only[Bool.and_eq_true]at h;obtain⟨⟨⟨⟨h1,h2⟩,h3⟩,h4⟩,_⟩:=h;obtain⟨w1,w2⟩:=NE h4 f1;have hc:=J7 (λc:List UInt8=>c) (λc=>[wd c]) s.names (λv hv=>Tk.wr (t:=wd v) (Ce ((BO h3).2.2 v hv)));rw[List.map_id']at hc;have e1:JB s++[32,40,32]++BM BB s.names++[32,41]++Bz [32] s.chk=JB s++(32::(40::(32::(BM BB s.names++(32::(41::Bz [32] s.chk)))))):=by simp
  rw[e1];exact TJ (.inl hop) h1 h2 (Tk.blank (Tk.sign (by decide) (Tk.blank (hc.app (Tk.blank (Tk.sign (by decide) w1)) (.inr (BG.mk _ _)))))) (BG.mk _ _)
 rename_i n7
 rw[if_neg n7,if_neg n7];split at h
 ·rename_i hop
  rw[if_pos hop,if_pos hop];simp only[Bool.and_eq_true]at h;obtain⟨⟨⟨⟨⟨h1,h2⟩,h3⟩,h4⟩,h5⟩,_⟩:=h;obtain⟨w1,w2⟩:=NE h5 f1;have e1:JB s++[32,44,32]++s.role++[32,79,78,32]++s.key++Bz [32] s.chk=JB s++(32::(44::(32::(s.role++(32::([79,78]++(32::(s.key++Bz [32] s.chk)))))))):=by simp
  rw[e1];exact TJ (.inr (.inl hop)) h1 h2 (Tk.blank (Tk.sign (by decide) (Tk.blank (Tk.word (Ce h4) (Tk.blank (Tk.word (by decide) (Tk.blank (Tk.word (Ce h3) w1 w2)) (.inr (BG.mk _ _)))) (.inr (BG.mk _ _)))))) (BG.mk _ _)
 rename_i n8
 rw[if_neg n8,if_neg n8];split at h
 ·rename_i hop
  simp only[Bool.and_eq_true]at h;obtain⟨⟨⟨⟨h1,h2⟩,h3⟩,h4⟩,_⟩:=h;obtain⟨w1,w2⟩:=NE h4 f1;obtain⟨g1,g2,g3⟩:=BO h3;have k0:Ai (s.names.getD 0 [])=true:=KN g3 (by omega);have k1:Ai (s.names.getD 1 [])=true:=KN g3 (by omega);have e1:JB s++[32,66,89,32]++s.names.getD 0 []++[32,83,85,77,32]++s.names.getD 1 []++Bz [32] s.chk=JB s++(32::([66,89]++(32::(s.names.getD 0 []++(32::([83,85,77]++(32::(s.names.getD 1 []++Bz [32] s.chk)))))))):=by simp
  rw[e1];exact TJ (.inr (.inr hop)) h1 h2 (Tk.blank (Tk.word (by decide) (Tk.blank (Tk.word (Ce k0) (Tk.blank (Tk.word (by decide) (Tk.blank (Tk.word (Ce k1) w1 w2)) (.inr (BG.mk _ _)))) (.inr (BG.mk _ _)))) (.inr (BG.mk _ _)))) (BG.mk _ _)
 ·cases h
end Go.Proofs.YtchilcchogcibaaGreatDoor
