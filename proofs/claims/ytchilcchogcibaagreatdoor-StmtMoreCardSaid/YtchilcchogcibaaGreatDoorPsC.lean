/- Plain laws of the statement parser at a statement's own tokens: names, words, expressions, values, lists. -/
import Derived.Test.YtchilcchogcibaaGreatDoorFAwake5
import Derived.Test.YtchilcchogcibaaGreatDoorFStTok
import Derived.Test.YtchilcchogcibaaGreatDoorFR5Law
import Derived.Test.YtchilcchogcibaaGreatDoorFCutLaw
import Derived.Test.YtchilcchogcibaaGreatDoorFR5Same
import Derived.Test.YtchilcchogcibaaGreatDoorFFew5
import Derived.Test.YtchilcchogcibaaGreatDoorFPs5
namespace Go.Proofs.YtchilcchogcibaaGreatDoor
section
open Go.RowKit
theorem AU{l:List Tok}{a:Nat}{t:Tok}{r:List Tok}(h:l.drop a=t::r)(x:List UInt8):hit l a x=isB t.k t.s x:=by
 unfold hit;rw[(Dj h).1]
theorem TW{l:List Tok}{a:Nat}(h:l.drop a=[])(x:List UInt8):hit l a x=false:=by
 unfold hit;rw[List.getElem?_eq_none (List.drop_eq_nil_iff.1 h)]
theorem AX{l:List Tok}{a:Nat}{s:List UInt8}{r:List Tok}(h:l.drop a=wd s::r)(hs:Ai s=true):AO l a=some s:=by
 unfold AO;rw[(Dj h).1];simp[wd,hs]
theorem SL{l:List Tok}{a:Nat}{s:List UInt8}{r:List Tok}(h:l.drop a=wd s::r)(hs:Ai s=true):Az l a=some (s,a+1):=by
 unfold Az;rw[AX h hs];rfl
theorem LW{l:List Tok}{a:Nat}{e:Ex}{r:List Tok}(h:l.drop a=exK e++r)(hm:E5 e=true)(hf:D8 13 e)(hr:StopL r):Dc l a=some (e,a+(exK e).length):=by
 unfold Dc;rw[h];unfold exK;rw[parse_X e hm hf r hr];rfl
theorem NY(a b:V):veq a b=true↔a=b:=by
 unfold veq;simp only[Bool.and_eq_true,decide_eq_true_eq,beq_iff_eq]
 constructor
 ·rintro⟨h1,h2,h3⟩;obtain⟨k,i,s⟩:=a;obtain⟨k',i',s'⟩:=b;simp only at h1 h2 h3;subst h1 h2 h3;rfl
 ·rintro rfl;simp
theorem IB{e:Ex}(h:DU e=true):e=ex0:=by
 obtain⟨op,v,s,l⟩:=e;unfold DU at h;simp only[Bool.and_eq_true,List.isEmpty_iff]at h;obtain⟨⟨⟨h1,h2⟩,h3⟩,h4⟩:=h;have h5:v=V.zero:=(NY _ _).1 h2;have h1':op=[]:=h1;have h3':s=[]:=h3;have h4':l=[]:=h4;subst h1' h3' h4' h5;rfl
theorem NM{l:List Tok}{a:Nat}{e:Ex}{r:List Tok}(h:l.drop a=Me e++r)(hp:Aq e=true)(hf:D8 13 e)(hr:StopL r)(hw:∀b,l.drop b=r->hit l b [87,72,69,82,69]=false):Dn l a=some (e,a+(Me e).length):=by
 unfold Dn;unfold Me at h ⊢;unfold Aq at hp;cases hn:DU e with
 |true=>
  rw[hn]at h;rw[if_pos rfl]at h ⊢;rw[hw a h,IB hn];rfl
 |false=>
  rw[hn]at h hp;have h':l.drop a=wd [87,72,69,82,69]::(exK e++r):=by simpa using h
  have h2:=LW (Dj h').2 (by simpa using hp) hf hr;rw[AU h',if_pos (show isB _ _ _=true from by rfl),h2];simp only[Bool.false_eq_true,if_false,List.length_cons];congr 2;omega
theorem F5{l:List Tok}{a:Nat}{e:Ex}{r:List Tok}(h:l.drop a=JL [] e++r)(hp:Aq e=true)(hf:D8 13 e)(hw:∀b,l.drop b=r->hit l b [67,72,69,67,75]=false):Aw l a=some (e,a+(JL [] e).length):=by
 unfold Aw;unfold JL at h ⊢;unfold Aq at hp;cases hn:DU e with
 |true=>
  rw[hn]at h;rw[if_pos rfl]at h ⊢;rw[hw a h,IB hn];rfl
 |false=>
  rw[hn]at h hp;have h':l.drop a=wd [67,72,69,67,75]::sg 40::(exK e++(sg 41::r)):=by simpa using h
  have h1:=(Dj h').2;have h2:=(Dj h1).2;have h3:=LW h2 (by simpa using hp) hf (.inr ⟨sg 41,r,rfl,by decide⟩);have h4:=KR h2;rw[AU h',if_pos (show isB _ _ _=true from by rfl)];unfold Ae;rw[AU h1,if_pos (show isB _ _ _=true from by rfl)];rw[show a+2=a+1+1 from rfl,h3];simp only[Option.bind_some];rw[AU h4,if_pos (show isB _ _ _=true from by rfl)];simp only[Bool.false_eq_true,if_false,List.nil_append,List.length_cons,List.length_append,List.length_nil];congr 2;omega
theorem dQ(v:V)(hm:D5 v.k v.i v.s=true):E5 (Ee v)=true:=by
 unfold E5 may;rw[show(12:Nat)=11+1 from rfl];unfold D7;simp[Ee,Ex.op,Ex.s,Ex.l,Ex.v,hm,Dx,CU]
theorem bT{l:List Tok}{a:Nat}{v:V}{r:List Tok}(h:l.drop a=Ob v++r)(hm:D5 v.k v.i v.s=true)(hf:Fq v.i):Dh l a=some (v,a+(Ob v).length):=by
 have ht:DX 13 (Ee v)=Ob v:=by
  unfold DX;rw[if_pos (show(Ee v).op=CU from rfl)];rfl
 have hp:=parse_X (Ee v) (dQ v hm) ⟨hf,λx hx=>by cases hx⟩ [] (.inl rfl);rw[ht,List.append_nil]at hp;have h0:0<(Ob v).length:=by
  unfold Ob;split
  ·split<;>simp
  ·split
   ·simp
   ·split
    ·split<;>simp
    ·simp
 have hk:QK l a (Ob v).length=some (v,a+(Ob v).length):=by
  have hlen:a+(Ob v).length<=l.length:=by
   have:=congrArg List.length h;rw[List.length_drop,List.length_append]at this;omega
  unfold QK;rw[if_pos hlen,show(l.drop a).take (Ob v).length=Ob v by rw[h,List.take_left],hp,if_pos ⟨rfl,rfl,rfl⟩];rfl
 unfold Dh;by_cases hn:v.k=1/\v.i<0
 ·have hv:Ob v=[sg 45,⟨2,Lib.decDigits v.i.natAbs⟩]:=by unfold Ob;rw[if_pos hn.1,if_pos hn.2]
  rw[hv]at hk h ⊢;rw[AU h,if_pos (show isB _ _ _=true from by rfl)];exact hk
 ·have hv:∃t,Ob v=[t]/\isB t.k t.s [45]=false:=by
   unfold Ob;by_cases h1:v.k=1
   ·rw[if_pos h1,if_neg (λh2=>hn ⟨h1,h2⟩)];exact⟨_,rfl,by simp[isB]⟩
   ·rw[if_neg h1];by_cases h2:v.k=2
    ·rw[if_pos h2];exact⟨_,rfl,by simp[isB]⟩
    ·rw[if_neg h2];by_cases h3:v.k=3
     ·rw[if_pos h3];split
      ·exact⟨_,rfl,by rfl⟩
      ·exact⟨_,rfl,by rfl⟩
     ·rw[if_neg h3];exact⟨_,rfl,by rfl⟩
  obtain⟨t,hv,hb⟩:=hv;rw[hv]at hk h ⊢;rw[AU h,hb,if_neg (by decide)];exact hk
theorem IX{α:Type}{l:List Tok}{step:Nat->Option (α×Nat)}{K:α->List Tok}{r:List Tok}(hc:∀b,l.drop b=r->hit l b [44]=false):∀(xs:List α) (f a:Nat),xs≠[]->xs.length<=f->l.drop a=PQ (xs.map K)++r->(∀x∈xs,∀b q,l.drop b=K x++q->(q=r\/∃p,q=sg 44::p)->step b=some (x,b+(K x).length))->Bd l step f a=some (xs,a+(PQ (xs.map K)).length)
 |[],_,_,h,_,_,_=>absurd rfl h
 |[x],0,_,_,hf,_,_=>by simp at hf
 |[x],f+1,a,_,_,h,hs=>by
  have h1:l.drop a=K x++r:=h;unfold Bd;rw[hs x (by simp) a r h1 (.inl rfl)];simp only[Option.bind_some];rw[hc _ (KR h1)];rfl
 |x::y::t,0,_,_,hf,_,_=>by simp at hf
 |x::y::t,f+1,a,_,hf,h,hs=>by
  have h1:l.drop a=K x++(sg 44::(PQ ((y::t).map K)++r)):=by
   rw[h];simp[PQ]
  have h2:=KR h1;have ih:=IX hc (y::t) f (a+(K x).length+1) (by simp) (by simp at hf ⊢;omega) (Dj h2).2 (λz hz=>hs z (by simp at hz ⊢;exact .inr hz));unfold Bd;rw[hs x (by simp) a _ h1 (.inr ⟨_,rfl⟩)];simp only[Option.bind_some];rw[AU h2,if_pos (show isB _ _ _=true from by rfl),ih];simp only[Option.map_some,List.map_cons,PQ,List.length_append,List.length_cons];congr 2;omega
end
section
open Go.RowKit
def QQ(r:List Tok):Prop:=StopL r/\∀(l:List Tok) (b:Nat),l.drop b=r->hit l b [87,72,69,82,69]=false/\hit l b [67,72,69,67,75]=false
theorem Lt:QQ []:=⟨.inl rfl,λ_ _ h=>⟨TW h _,TW h _⟩⟩
def NG(r:List Tok):Prop:=∀(l:List Tok) (b:Nat),l.drop b=r->hit l b [44]=false
theorem G5:NG []:=λ_ _ h=>TW h _
theorem NS(r:List Tok):StopL (sg 44::r):=.inr ⟨sg 44,r,rfl,by decide⟩
theorem VQ{e:Ex}{r:List Tok}(hr:StopL r):StopL (Me e++r):=by
 unfold Me;split
 ·exact hr
 ·exact .inr ⟨wd [87,72,69,82,69],_,rfl,by decide⟩
theorem dn{s:St}(hs:Ai s.tb=true){r:List Tok}:N7 ([wd [68,82,79,80],wd [84,65,66,76,69],wd s.tb]++r)=some (stW [100,114,111,112] s.tb ex0,3):=by
 unfold N7;rw[AU (t:=wd [84,65,66,76,69]) (r:=wd s.tb::r) rfl,if_pos (show isB _ _ _=true from by rfl),AX (r:=r) (s:=s.tb) rfl hs];rfl
theorem dJ(op:List UInt8)(first:List UInt8)(ws:List (List UInt8))(wk:List Tok){tb:List UInt8}{e:Ex}{r:List Tok}(hlen:wk.length=ws.length)(hw:∀q,CV (wd first::(wk++q)) 1 ws=ws.length)(hs:Ai tb=true)(hp:Aq e=true)(hf:D8 13 e)(hr:QQ r):
  JG (wd first::(wk++wd tb::(Me e++r))) op ws=some (stW op tb e,2+ws.length+(Me e).length):=by
 unfold JG;have h0:(wd first::(wk++wd tb::(Me e++r))).drop 1=wk++wd tb::(Me e++r):=rfl;have h1:=KR h0;rw[hlen]at h1;have h2:=(Dj h1).2;rw[hw,if_pos rfl,AX h1 hs];simp only[Option.bind_some];have h3:(wd first::(wk++wd tb::(Me e++r))).drop (2+ws.length)=Me e++r:=by rw[show 2+ws.length=1+ws.length+1 by omega];exact h2
 rw[NM h3 hp hf hr.1 (λb hb=>(hr.2 _ b hb).1)];rfl
theorem EQ{α:Type}{K:α->List Tok}:∀xs:List α,(∀x∈xs,0<(K x).length)->xs.length<=(PQ (xs.map K)).length
 |[],_=>Nat.zero_le _
 |[x],h=>h x (by simp)
 |x::y::r,h=>by
  have ih:=EQ (y::r) (λz hz=>h z (by simp at hz ⊢;exact .inr hz));have h1:=h x (by simp);simp only[List.map_cons,PQ,List.length_append,List.length_cons]at ih ⊢;omega
theorem bU(v:V):0<(Ob v).length:=by
 unfold Ob;split
 ·split<;>simp
 ·split
  ·simp
  ·split
   ·split<;>simp
   ·simp
theorem dA{tb:List UInt8}{vs:List V}{r:List Tok}(hs:Ai tb=true)(hne:vs≠[])(hv:∀v∈vs,D5 v.k v.i v.s=true/\Fq v.i):
  Gy (wd [73,78,83,69,82,84]::wd [73,78,84,79]::wd tb::wd [86,65,76,85,69,83]::sg 40::(PQ (vs.map Ob)++sg 41::r))=some (stI tb vs,6+(PQ (vs.map Ob)).length):=by
 obtain⟨l,hl⟩:∃l,wd [73,78,83,69,82,84]::wd [73,78,84,79]::wd tb::wd [86,65,76,85,69,83]::sg 40::(PQ (vs.map Ob)++sg 41::r)=l:=⟨_,rfl⟩;have d1:l.drop 1=wd [73,78,84,79]::wd tb::wd [86,65,76,85,69,83]::sg 40::(PQ (vs.map Ob)++sg 41::r):=by rw[<-hl];rfl
 have d2:=(Dj d1).2;have d3:=(Dj d2).2;have d4:=(Dj d3).2;have d5:=(Dj d4).2;have d6:=KR d5;have hlen:vs.length<=l.length+1:=by
  have h1:=EQ (K:=Ob) vs λv _=>bU v
  have h2:=congrArg List.length hl;simp only[List.length_cons,List.length_append]at h2;omega
 have h3:=IX (step:=Dh l) (K:=Ob) (r:=sg 41::r) (λb hb=>by rw[AU hb];rfl) vs (l.length+1) 5 hne hlen d5 λv h b q hb _=>bT hb (hv v h).1 (hv v h).2
 rw[hl];unfold Gy;rw[AU d1,if_pos (show isB _ _ _=true from by rfl),AX d2 hs];simp only[Option.bind_some];rw[AU d3,if_pos (show isB _ _ _=true from by rfl),AU d4,if_pos (show isB _ _ _=true from by rfl),h3];simp only[Option.bind_some];rw[AU d6,if_pos (show isB _ _ _=true from by rfl)];congr 2;omega
theorem bY{tb:List UInt8}{xs:List Se}{e:Ex}{r:List Tok}(hs:Ai tb=true)(hne:xs≠[])(hx:∀x∈xs,Ai x.n=true/\E5 x.e=true/\D8 13 x.e)(hp:Aq e=true)(hf:D8 13 e)(hr:QQ r)(hcr:DU e=true->NG r):
  J4 (wd [85,80,68,65,84,69]::wd tb::wd [83,69,84]::(PQ (xs.map aH)++(Me e++r)))=some (stU tb xs e,3+(PQ (xs.map aH)).length+(Me e).length):=by
 obtain⟨l,hl⟩:∃l,wd [85,80,68,65,84,69]::wd tb::wd [83,69,84]::(PQ (xs.map aH)++(Me e++r))=l:=⟨_,rfl⟩;have d1:l.drop 1=wd tb::wd [83,69,84]::(PQ (xs.map aH)++(Me e++r)):=by rw[<-hl];rfl
 have d2:=(Dj d1).2;have d3:=(Dj d2).2;have d4:=KR d3;have hlen:xs.length<=l.length+1:=by
  have h1:=EQ (K:=aH) xs λv _=>by simp[aH]
  have h2:=congrArg List.length hl;simp only[List.length_cons,List.length_append]at h2;omega
 have hcm:∀b,l.drop b=Me e++r->hit l b [44]=false:=λb hb=>by
  unfold Me at hb;split at hb
  ·rename_i hn;exact hcr hn l b hb
  ·rw[AU hb];rfl
 have h3:=IX (step:=QX l) (K:=aH) (r:=Me e++r) hcm xs (l.length+1) 3 hne hlen d3 λx h b q hb hq=>by
  obtain⟨g1,g2,g3⟩:=hx x h;have hb':l.drop b=wd x.n::sg 61::(exK x.e++q):=by simpa[aH]using hb
  have e1:=(Dj hb').2;have e2:=(Dj e1).2;unfold QX;rw[AX hb' g1];simp only[Option.bind_some];rw[AU e1,if_pos (show isB _ _ _=true from by rfl),show b+2=b+1+1 from rfl,LW e2 g2 g3 (by
   rcases hq with rfl|⟨p,rfl⟩
   ·exact VQ hr.1
   ·exact NS p)]
  simp only[Option.map_some,aH,List.length_cons];congr 2;omega
 rw[hl];unfold J4;rw[AX d1 hs];simp only[Option.bind_some];rw[AU d2,if_pos (show isB _ _ _=true from by rfl),h3];simp only[Option.bind_some];rw[NM d4 hp hf hr.1 (λb hb=>(hr.2 _ b hb).1)];rfl
theorem PL{l:List Tok}{k tb ot:List UInt8}{q:List Tok}(d1:l.drop 1=wd k::wd tb::wd [70,82,79,77]::wd ot::q)(h1:Ai tb=true)(h2:Ai ot=true):P7 l=some (tb,ot)/\l.drop 5=q:=by
 have d2:=(Dj d1).2;have d3:=(Dj d2).2;have d4:=(Dj d3).2;unfold P7;rw[AX d2 h1];simp only[Option.bind_some];rw[AU d3,if_pos (show isB _ _ _=true from by rfl),AX d4 h2];exact⟨rfl,(Dj d4).2⟩
theorem dw{tb ot:List UInt8}{ns:List (List UInt8)}{e:Ex}{r:List Tok}(h1:Ai tb=true)(h2:Ai ot=true)(hne:ns≠[])(hn:∀x∈ns,Ai x=true)(hp:Aq e=true)(hf:D8 13 e)(hr:QQ r):
  JA (wd [77,73,71,82,65,84,69]::wd [67,79,80,89]::wd tb::wd [70,82,79,77]::wd ot::sg 40::(PQ (ns.map λc=>[wd c])++sg 41::(JL [] e++r)))=some (stM [99,111,112,121] tb ot ns [] [] e,7+(PQ (ns.map λc=>[wd c])).length+(JL [] e).length):=by
 obtain⟨l,hl⟩:∃l,wd [77,73,71,82,65,84,69]::wd [67,79,80,89]::wd tb::wd [70,82,79,77]::wd ot::sg 40::(PQ (ns.map λc=>[wd c])++sg 41::(JL [] e++r))=l:=⟨_,rfl⟩;have d1:l.drop 1=wd [67,79,80,89]::wd tb::wd [70,82,79,77]::wd ot::sg 40::(PQ (ns.map λc=>[wd c])++sg 41::(JL [] e++r)):=by rw[<-hl];rfl
 obtain⟨hm,d5⟩:=PL d1 h1 h2;have d6:=(Dj d5).2;have d7:=KR d6;have d8:=(Dj d7).2;have hlen:ns.length<=l.length+1:=by
  have h1:=EQ (K:=λc=>[wd c]) ns λv _=>by simp
  have h2:=congrArg List.length hl;simp only[List.length_cons,List.length_append]at h2;omega
 have h3:=IX (step:=Az l) (K:=λc=>[wd c]) (r:=sg 41::(JL [] e++r)) (λb hb=>by rw[AU hb];rfl) ns (l.length+1) 6 hne hlen d6 λv h b q hb _=>SL hb (hn v h)
 rw[hl];unfold JA;rw[AU d1,if_pos (show isB _ _ _=true from by rfl)];unfold Zm;rw[hm];simp only[Option.bind_some];unfold Ae;rw[AU d5,if_pos (show isB _ _ _=true from by rfl),h3];simp only[Option.bind_some];rw[AU d7,if_pos (show isB _ _ _=true from by rfl)];simp only[Option.bind_some];rw[F5 d8 hp hf (λb hb=>(hr.2 _ b hb).2)];simp only[Option.map_some];congr 2;omega
theorem di{tb ot key role:List UInt8}{e:Ex}{r:List Tok}(h1:Ai tb=true)(h2:Ai ot=true)(h3:Ai key=true)(h4:Ai role=true)(hp:Aq e=true)(hf:D8 13 e)(hr:QQ r):
  JA (wd [77,73,71,82,65,84,69]::wd [74,79,73,78]::wd tb::wd [70,82,79,77]::wd ot::sg 44::wd role::wd [79,78]::wd key::(JL [] e++r))=some (stM [106,111,105,110] tb ot [] key role e,9+(JL [] e).length):=by
 obtain⟨l,hl⟩:∃l,wd [77,73,71,82,65,84,69]::wd [74,79,73,78]::wd tb::wd [70,82,79,77]::wd ot::sg 44::wd role::wd [79,78]::wd key::(JL [] e++r)=l:=⟨_,rfl⟩;have d1:l.drop 1=wd [74,79,73,78]::wd tb::wd [70,82,79,77]::wd ot::sg 44::wd role::wd [79,78]::wd key::(JL [] e++r):=by rw[<-hl];rfl
 obtain⟨hm,d5⟩:=PL d1 h1 h2;have d6:=(Dj d5).2;have d7:=(Dj d6).2;have d8:=(Dj d7).2;have d9:=(Dj d8).2;rw[hl];unfold JA;rw[AU d1,if_neg (show¬isB _ _ _=true from by decide),AU d1,if_pos (show isB _ _ _=true from by rfl)];unfold Xv;rw[hm];simp only[Option.bind_some];rw[AU d5,if_pos (show isB _ _ _=true from by rfl),AX d6 h4];simp only[Option.bind_some];rw[AU d7,if_pos (show isB _ _ _=true from by rfl),AX d8 h3];simp only[Option.bind_some];rw[F5 d9 hp hf (λb hb=>(hr.2 _ b hb).2)];rfl
theorem dS{tb ot x y:List UInt8}{e:Ex}{r:List Tok}(h1:Ai tb=true)(h2:Ai ot=true)(h3:Ai x=true)(h4:Ai y=true)(hp:Aq e=true)(hf:D8 13 e)(hr:QQ r):
  JA (wd [77,73,71,82,65,84,69]::wd [71,82,79,85,80]::wd tb::wd [70,82,79,77]::wd ot::wd [66,89]::wd x::wd [83,85,77]::wd y::(JL [] e++r))=some (stM [103,114,111,117,112] tb ot [x,y] [] [] e,9+(JL [] e).length):=by
 obtain⟨l,hl⟩:∃l,wd [77,73,71,82,65,84,69]::wd [71,82,79,85,80]::wd tb::wd [70,82,79,77]::wd ot::wd [66,89]::wd x::wd [83,85,77]::wd y::(JL [] e++r)=l:=⟨_,rfl⟩;have d1:l.drop 1=wd [71,82,79,85,80]::wd tb::wd [70,82,79,77]::wd ot::wd [66,89]::wd x::wd [83,85,77]::wd y::(JL [] e++r):=by rw[<-hl];rfl
 obtain⟨hm,d5⟩:=PL d1 h1 h2;have d6:=(Dj d5).2;have d7:=(Dj d6).2;have d8:=(Dj d7).2;have d9:=(Dj d8).2;rw[hl];unfold JA;rw[AU d1,if_neg (show¬isB _ _ _=true from by decide),AU d1,if_neg (show¬isB _ _ _=true from by decide),AU d1,if_pos (show isB _ _ _=true from by rfl)];unfold QB;rw[hm];simp only[Option.bind_some];rw[AU d5,if_pos (show isB _ _ _=true from by rfl),AX d6 h3];simp only[Option.bind_some];rw[AU d7,if_pos (show isB _ _ _=true from by rfl),AX d8 h4];simp only[Option.bind_some];rw[F5 d9 hp hf (λb hb=>(hr.2 _ b hb).2)];rfl
end
section
open Go.RowKit
theorem Y4{n:List UInt8}(h:Ai n=true):isB 1 n [75,69,89]=false:=by
 unfold isB;cases hn:n==[75,69,89]with
 |false=>simp
 |true=>
  have:n=[75,69,89]:=by simpa using hn
  subst this;exact absurd h (by decide)
theorem SB{l:List Tok}{a:Nat}{t:Int}{q:List Tok}(h:l.drop a=wd (Ic t)::q)(h1:1<=t)(h2:t<=3):Ip l a=some (t,a+1):=by
 have:t=1\/t=2\/t=3:=by omega
 unfold Ip;rcases this with rfl|rfl|rfl
 ·rw[AU h,if_pos (by decide)]
 ·rw[AU h,if_neg (by decide),AU h,if_pos (by decide)]
 ·rw[AU h,if_neg (by decide),AU h,if_neg (by decide),AU h,if_pos (by decide)]
theorem U8{l:List Tok}{a:Nat}{c:Col}{q:List Tok}(h:l.drop a=ZV c++sg 44::q)(hc:GI c=true):OE l a=some (c,a+(ZV c).length+1):=by
 obtain⟨n,t,b⟩:=c;unfold GI at hc;simp only[Bool.and_eq_true,decide_eq_true_eq]at hc;obtain⟨⟨h0,h1⟩,h2⟩:=hc;unfold OE;cases b with
 |false=>
  have h':l.drop a=wd n::wd (Ic t)::sg 44::q:=by simpa[ZV]using h
  have e1:=(Dj h').2;have e2:=(Dj e1).2;rw[AX h' h0];simp only[Option.bind_some];rw[SB e1 h1 h2];simp only[Option.bind_some];unfold LG;rw[AU e2,if_neg (show¬isB _ _ _=true from by decide),AU e2,if_pos (show isB _ _ _=true from by rfl)];rfl
 |true=>
  have h':l.drop a=wd n::wd (Ic t)::wd [78,79,84]::wd [78,85,76,76]::sg 44::q:=by simpa[ZV]using h
  have e1:=(Dj h').2;have e2:=(Dj e1).2;have e3:=(Dj e2).2;have e4:=(Dj e3).2;rw[AX h' h0];simp only[Option.bind_some];rw[SB e1 h1 h2];simp only[Option.bind_some];unfold LG;rw[AU e2,if_pos (show isB _ _ _=true from by rfl),AU e3,if_pos (show isB _ _ _=true from by rfl),AU e4,if_pos (show isB _ _ _=true from by rfl)];rfl
theorem TR{l:List Tok}{q:List Tok}:∀(xs:List Col) (f a:Nat),xs≠[]->xs.length<f->l.drop a=PQ (xs.map ZV)++sg 44::wd [75,69,89]::q->(∀x∈xs,GI x=true)->Gq l f a=some (xs,a+(PQ (xs.map ZV)).length+2)
 |[],_,_,h,_,_,_=>absurd rfl h
 |x::t,0,_,_,hf,_,_=>by simp at hf
 |[x],1,_,_,hf,_,_=>by simp at hf
 |[x],f+2,a,_,_,h,hs=>by
  have h1:l.drop a=ZV x++sg 44::wd [75,69,89]::q:=h;have hx:=hs x (by simp);have hk:l.drop a=wd x.n::(wd (Ic x.t)::((if x.b then[wd [78,79,84],wd [78,85,76,76]]else[])++sg 44::wd [75,69,89]::q)):=by rw[h1];rfl
  have hnm:Ai x.n=true:=by unfold GI at hx;simp only[Bool.and_eq_true]at hx;exact hx.1.1
  have h2:l.drop (a+(ZV x).length+1)=wd [75,69,89]::q:=(Dj (KR h1)).2;unfold Gq;rw[AU hk,show isB (wd x.n).k (wd x.n).s [75,69,89]=false from Y4 hnm,if_neg (by decide),U8 h1 hx];simp only[Option.bind_some];unfold Gq;rw[AU h2,if_pos (show isB _ _ _=true from by rfl)];rfl
 |x::y::t,f+1,a,_,hf,h,hs=>by
  have h1:l.drop a=ZV x++sg 44::(PQ ((y::t).map ZV)++sg 44::wd [75,69,89]::q):=by
   rw[h];simp[PQ]
  have hx:=hs x (by simp);have hk:l.drop a=wd x.n::(wd (Ic x.t)::((if x.b then[wd [78,79,84],wd [78,85,76,76]]else[])++sg 44::(PQ ((y::t).map ZV)++sg 44::wd [75,69,89]::q))):=by rw[h1];rfl
  have hnm:Ai x.n=true:=by unfold GI at hx;simp only[Bool.and_eq_true]at hx;exact hx.1.1
  have h2:=(Dj (KR h1)).2;have ih:=TR (y::t) f (a+(ZV x).length+1) (by simp) (by simp at hf ⊢;omega) h2 (λz hz=>hs z (by simp at hz ⊢;exact .inr hz));unfold Gq;rw[AU hk,show isB (wd x.n).k (wd x.n).s [75,69,89]=false from Y4 hnm,if_neg (by decide),U8 h1 hx];simp only[Option.bind_some];rw[ih];simp only[Option.map_some,List.map_cons,PQ,List.length_append,List.length_cons];congr 2;omega
theorem H7{l:List Tok}{a:Nat}{s:List UInt8}{q:List Tok}(h:l.drop a=sg 40::wd s::sg 41::q)(hs:Ai s=true):Ae l a (Az l (a+1))=some (s,a+3)/\l.drop (a+3)=q:=by
 have d1:=(Dj h).2;have d2:=(Dj d1).2;have d3:=(Dj d2).2;refine⟨?_,d3⟩;unfold Ae;rw[AU h,if_pos (show isB _ _ _=true from by rfl),SL d1 hs];simp only[Option.bind_some];rw[AU d2,if_pos (show isB _ _ _=true from by rfl)]
theorem TB{l:List Tok}{e:Ex}{q:List Tok}(hp:Aq e=true)(hf:D8 13 e):∀(R:List Rf) (f a:Nat) (us:List (List UInt8)) (rs:List Rf),R.length<f->(∀x∈R,G9 x=true)->l.drop a=Zk R++(JL [sg 44] e++sg 41::q)->ER l f a us rs=some ((us,rs++R,e),a+(Zk R).length+(JL [sg 44] e).length+1)
 |_,0,_,_,_,hl,_,_=>by omega
 |[],f+1,a,us,rs,_,_,h=>by
  have h0:l.drop a=JL [sg 44] e++sg 41::q:=h;unfold ER;cases hn:DU e with
  |true=>
   have h1:l.drop a=sg 41::q:=by rw[h0];unfold JL;rw[if_pos hn];rfl
   rw[AU h1,if_neg (show¬isB _ _ _=true from by decide),AU h1,if_pos (show isB _ _ _=true from by rfl)];have hz:=IB hn;subst hz;rw[List.append_nil];rfl
  |false=>
   have h1:l.drop a=sg 44::(JL [] e++sg 41::q):=by rw[h0];unfold JL;simp[hn]
   have h2:=(Dj h1).2;have h3:l.drop (a+1)=wd [67,72,69,67,75]::(sg 40::(exK e++[sg 41])++sg 41::q):=by rw[h2];unfold JL;simp[hn]
   have hc:=F5 h2 hp hf (λb hb=>by rw[AU hb];rfl);have h4:=KR h2;rw[AU h1,if_pos (show isB _ _ _=true from by rfl),if_neg (λh=>by rw[AU h3]at h;exact absurd h.2 (by decide)),AU h3,if_neg (show¬isB _ _ _=true from by decide),AU h3,if_pos (show isB _ _ _=true from by rfl),hc];simp only[Option.bind_some];rw[AU h4,if_pos (show isB _ _ _=true from by rfl),List.append_nil];have e1:(JL [sg 44] e).length=(JL [] e).length+1:=by unfold JL;simp[hn]
   rw[e1];congr 2;simp[Zk];omega
 |x::R,f+1,a,us,rs,hl,hR,h=>by
  obtain⟨c,t⟩:=x;have hx:=hR ⟨c,t⟩ (by simp);unfold G9 at hx;simp only[Bool.and_eq_true]at hx;have h0:l.drop a=sg 44::wd [82,69,70,69,82,69,78,67,69,83]::sg 40::wd c::sg 41::wd t::(Zk R++(JL [sg 44] e++sg 41::q)):=by rw[h];simp[Zk]
  have h1:=(Dj h0).2;have h2:=(Dj h1).2;obtain⟨h3,h4⟩:=H7 h2 hx.1;have h5:=(Dj h4).2;have ih:=TB hp hf R f (a+1+1+3+1) us (rs++[⟨c,t⟩]) (by simp at hl;omega) (λz hz=>hR z (by simp[hz])) h5;unfold ER;rw[AU h0,if_pos (show isB _ _ _=true from by rfl),if_neg (λh=>by rw[AU h1]at h;exact absurd h.2 (by decide)),AU h1,if_pos (show isB _ _ _=true from by rfl)];unfold Je;rw[show a+2=a+1+1 from rfl,h3];simp only[Option.bind_some];rw[AX h4 hx.2];simp only[Option.map_some,Option.bind_some];rw[ih,List.append_assoc];simp only[Zk,List.flatMap_cons,List.length_append,List.length_cons,List.length_nil];congr 2;omega
theorem TA{l:List Tok}{e:Ex}{q:List Tok}{R:List Rf}(hp:Aq e=true)(hf:D8 13 e)(hR:∀x∈R,G9 x=true):∀(U:List (List UInt8)) (f a:Nat) (us:List (List UInt8)),U.length+R.length<f->(∀x∈U,Ai x=true)->l.drop a=Zi U++(Zk R++(JL [sg 44] e++sg 41::q))->ER l f a us []=some ((us++U,R,e),a+(Zi U).length+(Zk R).length+(JL [sg 44] e).length+1)
 |_,0,_,_,hl,_,_=>by omega
 |[],f+1,a,us,hl,_,h=>by
  have:=TB hp hf R (f+1) a us [] (by simpa using hl) hR h;rw[this,List.append_nil,List.nil_append];rfl
 |x::U,f+1,a,us,hl,hU,h=>by
  have h0:l.drop a=sg 44::wd [85,78,73,81,85,69]::sg 40::wd x::sg 41::(Zi U++(Zk R++(JL [sg 44] e++sg 41::q))):=by rw[h];simp[Zi]
  have h1:=(Dj h0).2;have h2:=(Dj h1).2;obtain⟨h3,h4⟩:=H7 h2 (hU x (by simp));have ih:=TA hp hf hR U f (a+1+1+3) (us++[x]) (by simp at hl;omega) (λz hz=>hU z (by simp[hz])) h4;unfold ER;rw[AU h0,if_pos (show isB _ _ _=true from by rfl),if_pos ⟨rfl,by rw[AU h1];rfl⟩,show a+2=a+1+1 from rfl,show a+3=a+1+1+1 from rfl,h3];simp only[Option.bind_some];rw[ih,List.append_assoc];simp only[Zi,List.flatMap_cons,List.length_append,List.length_cons,List.length_nil];congr 2;omega
theorem dE{tb key:List UInt8}{cols:List Col}{us:List (List UInt8)}{rs:List Rf}{e:Ex}{r:List Tok}(h1:Ai tb=true)(h2:Ai key=true)(hne:cols≠[])(hc:∀x∈cols,GI x=true)(hu:∀x∈us,Ai x=true)(hr:∀x∈rs,G9 x=true)(hp:Aq e=true)(hf:D8 13 e):
  KW (wd [67,82,69,65,84,69]::wd [84,65,66,76,69]::wd tb::sg 40::(PQ (cols.map ZV)++sg 44::wd [75,69,89]::sg 40::wd key::sg 41::(Zi us++(Zk rs++(JL [sg 44] e++sg 41::r)))))=some (stT tb cols key us rs e,10+(PQ (cols.map ZV)).length+(Zi us).length+(Zk rs).length+(JL [sg 44] e).length):=by
 obtain⟨l,hl⟩:∃l,wd [67,82,69,65,84,69]::wd [84,65,66,76,69]::wd tb::sg 40::(PQ (cols.map ZV)++sg 44::wd [75,69,89]::sg 40::wd key::sg 41::(Zi us++(Zk rs++(JL [sg 44] e++sg 41::r))))=l:=⟨_,rfl⟩;have d1:l.drop 1=wd [84,65,66,76,69]::wd tb::sg 40::(PQ (cols.map ZV)++sg 44::wd [75,69,89]::sg 40::wd key::sg 41::(Zi us++(Zk rs++(JL [sg 44] e++sg 41::r)))):=by rw[<-hl];rfl
 have d2:=(Dj d1).2;have d3:=(Dj d2).2;have d4:=(Dj d3).2;have d5:=(Dj (Dj (KR d4)).2).2;have hlens:=congrArg List.length hl;simp only[List.length_cons,List.length_append]at hlens;have hc1:=EQ (K:=ZV) cols λv _=>by simp[ZV]
 have hu1:us.length<=(Zi us).length:=by
  clear hlens hc1 d1 d2 d3 d4 d5 hl hu
  induction us with
  |nil=>exact Nat.zero_le _
  |cons x t ih=>simp[Zi]at ih ⊢;omega
 have hr1:rs.length<=(Zk rs).length:=by
  clear hlens hc1 d1 d2 d3 d4 d5 hl hr
  induction rs with
  |nil=>exact Nat.zero_le _
  |cons x t ih=>simp[Zk]at ih ⊢;omega
 have h3:=TR cols (l.length+1) 4 hne (by omega) d4 hc;obtain⟨h4,h5⟩:=H7 (a:=4+(PQ (cols.map ZV)).length+2) d5 h2;have h6:=TA hp hf hr us (l.length+1) _ [] (by omega) hu h5;rw[hl];unfold KW;rw[AU d1,if_pos (show isB _ _ _=true from by rfl),AX d2 h1];simp only[Option.bind_some];rw[AU d3,if_pos (show isB _ _ _=true from by rfl),h3];simp only[Option.bind_some];rw[h4];simp only[Option.bind_some];rw[h6];simp only[Option.map_some,List.nil_append];congr 2;omega
end
section
open Go.RowKit
theorem OU(first ahead word up op:List UInt8)(hop:(up=[82,69,65,68]/\op=ahead++[114,101,97,100])\/(up=[87,82,73,84,69]/\op=ahead++[119,114,105,116,101])){tb role:List UInt8}{r:List Tok}(hw:isB 1 word word=true)(h1:Ai tb=true)(h2:Ai role=true):
  Iu (wd first::wd up::wd [79,78]::wd tb::wd word::wd role::r) ahead word=some (grS (op,tb,role),6):=by
 obtain⟨l,hl⟩:∃l,wd first::wd up::wd [79,78]::wd tb::wd word::wd role::r=l:=⟨_,rfl⟩
 have d1:l.drop 1=wd up::wd [79,78]::wd tb::wd word::wd role::r:=by rw[<-hl];rfl
 have d2:=(Dj d1).2;have d3:=(Dj d2).2;have d4:=(Dj d3).2;have d5:=(Dj d4).2;have hg:Ej l 1 ahead=some (op,tb):=by
  unfold Ej;rcases hop with⟨rfl,rfl⟩|⟨rfl,rfl⟩
  ·rw[AU d1,if_pos (show isB _ _ _=true from by rfl),AU d2,if_pos (show isB _ _ _=true from by rfl),AX d3 h1];rfl
  ·rw[AU d1,if_neg (show¬isB _ _ _=true from by decide),AU d1,if_pos (show isB _ _ _=true from by rfl),AU d2,if_pos (show isB _ _ _=true from by rfl),AX d3 h1];rfl
 rw[hl];unfold Iu Ia;rw[hg];simp only[Option.bind_some];rw[AU d4,if_pos (show isB (wd word).k (wd word).s word=true from hw),AX d5 h2];rfl
end
section
open Go.RowKit
theorem I4{α:Type}{b:Bool}{t:List α}(h:(cond b [] t).isEmpty=true):cond b t []=t:=by
 cases b
 ·exact(List.isEmpty_iff.1 h).symm
 ·rfl
theorem dH{b:Bool}{e:Ex}(h:DU (cond b AL e)=true):cond b e ex0=e:=by
 cases b
 ·exact(IB h).symm
 ·rfl
theorem dR(f:VH)(s:St)(h:Cf (YB f s)=true):Xu f s=s:=by
 rw[UU]at h;unfold YB at h;simp only[Bool.and_eq_true]at h;obtain⟨⟨⟨⟨⟨⟨⟨⟨⟨⟨⟨-,h2⟩,h3⟩,h4⟩,h5⟩,h6⟩,h7⟩,h8⟩,h9⟩,h10⟩,h11⟩,h12⟩:=h;unfold Xu;rw[I4 h2,I4 h3,I4 h4,I4 h5,I4 h6,I4 h7,I4 h8,I4 h9,I4 h10,dH h11,dH h12]
theorem bi(s:St):∃f,ownS s=Xu f s:=by
 unfold ownS;by_cases o1:s.op=GR
 ·rw[if_pos o1];exact⟨⟨false,false,true,true,true,true,true,false,false,false,false⟩,rfl⟩
 rw[if_neg o1];by_cases o2:s.op=Ff
 ·rw[if_pos o2];exact⟨⟨false,false,false,false,false,false,false,true,false,false,false⟩,rfl⟩
 rw[if_neg o2];by_cases o3:s.op=Fe
 ·rw[if_pos o3];exact⟨⟨false,false,false,false,false,false,false,false,true,true,false⟩,rfl⟩
 rw[if_neg o3];by_cases o4:s.op=Eo\/s.op=FH
 ·rw[if_pos o4];exact⟨⟨false,false,false,false,false,false,false,false,false,true,false⟩,rfl⟩
 rw[if_neg o4];by_cases o5:s.op=Hw\/s.op=FV\/s.op=EZ\/s.op=Dy
 ·rw[if_pos o5];exact⟨⟨false,false,false,false,false,false,false,false,false,false,true⟩,rfl⟩
 rw[if_neg o5];by_cases o6:s.op=Gx\/s.op=GH
 ·rw[if_pos o6];exact⟨⟨true,true,false,false,false,false,true,false,false,false,false⟩,rfl⟩
 rw[if_neg o6];by_cases o7:s.op=I8
 ·rw[if_pos o7];exact⟨⟨true,false,false,true,false,false,true,false,false,false,true⟩,rfl⟩
 rw[if_neg o7];exact⟨⟨false,false,false,false,false,false,false,false,false,false,false⟩,rfl⟩
theorem EF{s:St}(h:Am s=true):okD s=true/\Ai s.tb=true/\ownS s=s:=by
 rw[parts_D 0]at h;simp only[Bool.and_eq_true]at h;obtain⟨h1,h2,h3⟩:=h;obtain⟨f,hf⟩:=bi s;rw[hf,PO]at h3;exact⟨h1,h2,by rw[hf];exact dR f s h3⟩
theorem HY{α:Type}{l:List α}{hi:Nat}{p:α->Bool}(h:Bh l 1 hi p=true):l≠[]:=by
 have:=(BO h).1;rintro rfl;simp at this
theorem bZ{α:Type}{l:List α}{p:α->Bool}{d:α}(h:Bh l 2 2 p=true):l=[l.getD 0 d,l.getD 1 d]:=by
 have:=BO h
 match l,this with
 |[a,b],_=>rfl
 |[],h=>exact absurd h.1 (by simp)
 |[a],h=>exact absurd h.1 (by simp)
 |a::b::c::r,h=>exact absurd h.2.1 (by simp)
theorem bhC(l:List Tok):Zf l [67,82,69,65,84,69]=KW l:=by unfold Zf;rw[if_pos rfl]
theorem bhD(l:List Tok):Zf l [68,82,79,80]=N7 l:=by unfold Zf;rw[if_neg (by decide),if_pos rfl]
theorem bhI(l:List Tok):Zf l [73,78,83,69,82,84]=Gy l:=by unfold Zf;rw[if_neg (by decide),if_neg (by decide),if_pos rfl]
theorem bhU(l:List Tok):Zf l [85,80,68,65,84,69]=J4 l:=by unfold Zf;rw[if_neg (by decide),if_neg (by decide),if_neg (by decide),if_pos rfl]
theorem bhE(l:List Tok):Zf l [68,69,76,69,84,69]=JG l [100,101,108,101,116,101] [[70,82,79,77]]:=by unfold Zf;rw[if_neg (by decide),if_neg (by decide),if_neg (by decide),if_neg (by decide),if_pos rfl]
theorem bhS(l:List Tok):Zf l [83,69,76,69,67,84]=JG l [115,101,108,101,99,116] [[42],[70,82,79,77]]:=by unfold Zf;rw[if_neg (by decide),if_neg (by decide),if_neg (by decide),if_neg (by decide),if_neg (by decide),if_pos rfl]
theorem bhG(l:List Tok):Zf l [71,82,65,78,84]=Iu l [] [84,79]:=by unfold Zf;rw[if_neg (by decide),if_neg (by decide),if_neg (by decide),if_neg (by decide),if_neg (by decide),if_neg (by decide),if_pos rfl]
theorem bhR(l:List Tok):Zf l [82,69,86,79,75,69]=Iu l [117,110] [70,82,79,77]:=by unfold Zf;rw[if_neg (by decide),if_neg (by decide),if_neg (by decide),if_neg (by decide),if_neg (by decide),if_neg (by decide),if_neg (by decide),if_pos rfl]
theorem bhM(l:List Tok):Zf l [77,73,71,82,65,84,69]=JA l:=by unfold Zf;rw[if_neg (by decide),if_neg (by decide),if_neg (by decide),if_neg (by decide),if_neg (by decide),if_neg (by decide),if_neg (by decide),if_neg (by decide),if_pos rfl]
def Back(s:St)(r:List Tok):Prop:=∃f,(tokS s++r)[0]? = some ⟨1,f⟩/\f∈X3/\Zf (tokS s++r) f=some (s,(tokS s).length)
theorem CS{s:St}{r l:List Tok}{f:List UInt8}{x:St}{n:Nat}(hl:tokS s++r=l)(h0:l[0]? = some ⟨1,f⟩)(hf:f∈X3)(hb:Zf l f=some (x,n))(hx:x=s)(hn:n=(tokS s).length):Back s r:=by
 subst hl;exact⟨f,h0,hf,by rw[hb,hx,hn]⟩
theorem H9{s:St}{r:List Tok}(hp:Am s=true)(hf:fitS s)(hr:QQ r)(hcr:s.op=Fe->DU s.whr=true->NG r):Back s r:=by
 obtain⟨ho,hT,hw⟩:=EF hp;obtain⟨f1,f2,f3,f4⟩:=hf;unfold okD at ho;by_cases o1:s.op=GR
 ·rw[if_pos o1]at ho;unfold OA at ho;simp only[Bool.and_eq_true]at ho;obtain⟨⟨⟨⟨a1,a2⟩,a3⟩,a4⟩,a5⟩:=ho;have e:tokS s=wd [67,82,69,65,84,69]::wd [84,65,66,76,69]::wd s.tb::sg 40::(PQ (s.cols.map ZV)++sg 44::wd [75,69,89]::sg 40::wd s.key::sg 41::(Zi s.uniq++(Zk s.refs++(JL [sg 44] s.chk++[sg 41])))):=by unfold tokS;rw[if_pos o1]
  refine CS (f:=[67,82,69,65,84,69]) (by rw[e];simp only[List.cons_append,List.append_assoc,List.nil_append]) (by rfl) (by simp[X3]) ((bhC _).trans (dE hT a2 (HY a1) (BO a1).2.2 (BO a3).2.2 (BO a4).2.2 a5 f1 (r:=r))) ?_ ?_
  ·refine Eq.trans ?_ hw;unfold ownS;rw[if_pos o1,o1];rfl
  ·rw[e];simp only[List.length_cons,List.length_append,List.length_nil];omega
 rw[if_neg o1]at ho;by_cases o2:s.op=Lp
 ·rw[if_pos o2]at ho;have e:tokS s=[wd [68,82,79,80],wd [84,65,66,76,69],wd s.tb]:=by unfold tokS;rw[if_neg o1,if_pos o2]
  refine CS (f:=[68,82,79,80]) (by rw[e]) (by rfl) (by simp[X3]) ((bhD _).trans (dn hT (r:=r))) ?_ (by rw[e];rfl);refine Eq.trans ?_ hw;unfold ownS;rw[o2];rfl
 rw[if_neg o2]at ho;by_cases o3:s.op=Ff
 ·rw[if_pos o3]at ho;have e:tokS s=wd [73,78,83,69,82,84]::wd [73,78,84,79]::wd s.tb::wd [86,65,76,85,69,83]::sg 40::(PQ (s.row.map Ob)++[sg 41]):=by unfold tokS;rw[if_neg o1,if_neg o2,if_pos o3]
  refine CS (f:=[73,78,83,69,82,84]) (by rw[e];simp only[List.cons_append,List.append_assoc,List.nil_append]) (by rfl) (by simp[X3]) ((bhI _).trans (dA hT (HY ho) (λv hv=>⟨(BO ho).2.2 v hv,f3 v hv⟩) (r:=r))) ?_ ?_
  ·refine Eq.trans ?_ hw;unfold ownS;rw[o3];rfl
  ·rw[e];simp only[List.length_cons,List.length_append,List.length_nil];omega
 rw[if_neg o3]at ho;by_cases o4:s.op=Fe
 ·rw[if_pos o4]at ho;simp only[Bool.and_eq_true]at ho;have e:tokS s=wd [85,80,68,65,84,69]::wd s.tb::wd [83,69,84]::(PQ (s.sets.map aH)++Me s.whr):=by unfold tokS;rw[if_neg o1,if_neg o2,if_neg o3,if_pos o4]
  refine CS (f:=[85,80,68,65,84,69]) (by rw[e];simp only[List.cons_append,List.append_assoc]) (by rfl) (by simp[X3]) ((bhU _).trans (bY hT (HY ho.1) (λx hx=>by have h:=(BO ho.1).2.2 x hx;unfold GG at h;simp only[Bool.and_eq_true]at h;exact⟨h.1,h.2,f4 x hx⟩) ho.2 f2 hr (hcr o4))) ?_ ?_
  ·refine Eq.trans ?_ hw;unfold ownS;rw[o4];rfl
  ·rw[e];simp only[List.length_cons,List.length_append];omega
 rw[if_neg o4]at ho;by_cases o5:s.op=Eo\/s.op=FH
 ·rw[if_pos o5]at ho;rcases o5 with o5|o5
  ·have e:tokS s=wd [68,69,76,69,84,69]::wd [70,82,79,77]::wd s.tb::Me s.whr:=by unfold tokS;rw[if_neg o1,if_neg o2,if_neg o3,if_neg o4,if_pos o5]
   refine CS (f:=[68,69,76,69,84,69]) (by rw[e];simp only[List.cons_append,List.nil_append]) (by rfl) (by simp[X3]) ((bhE _).trans (dJ [100,101,108,101,116,101] [68,69,76,69,84,69] [[70,82,79,77]] [wd [70,82,79,77]] rfl (λq=>by rfl) hT ho f2 hr)) ?_ ?_
   ·refine Eq.trans ?_ hw;unfold ownS;rw[o5];rfl
   ·rw[e];simp only[List.length_cons,List.length_nil];omega
  ·have e:tokS s=wd [83,69,76,69,67,84]::sg 42::wd [70,82,79,77]::wd s.tb::Me s.whr:=by unfold tokS;rw[o5];rfl
   refine CS (f:=[83,69,76,69,67,84]) (by rw[e];simp only[List.cons_append,List.nil_append]) (by rfl) (by simp[X3]) ((bhS _).trans (dJ [115,101,108,101,99,116] [83,69,76,69,67,84] [[42],[70,82,79,77]] [sg 42,wd [70,82,79,77]] rfl (λq=>by rfl) hT ho f2 hr)) ?_ ?_
   ·refine Eq.trans ?_ hw;unfold ownS;rw[o5];rfl
   ·rw[e];simp only[List.length_cons,List.length_nil];omega
 rw[if_neg o5]at ho;by_cases o6:s.op=Hw\/s.op=FV\/s.op=EZ\/s.op=Dy
 ·rw[if_pos o6]at ho;have ow:ownS s=grS (s.op,s.tb,s.role):=by
   rcases o6 with o|o|o|o<;>(unfold ownS;rw[o];rfl)
  rcases o6 with o|o|o|o
  ·have e:tokS s=[wd [71,82,65,78,84],wd [82,69,65,68],wd [79,78],wd s.tb,wd [84,79],wd s.role]:=by unfold tokS;rw[o];rfl
   exact CS (f:=[71,82,65,78,84]) (by rw[e];rfl) (by rfl) (by simp[X3]) ((bhG _).trans (OU [71,82,65,78,84] [] [84,79] [82,69,65,68] [114,101,97,100] (.inl ⟨rfl,rfl⟩) (by decide) hT ho (r:=r))) (by rw[<-hw,ow,o];rfl) (by rw[e];rfl)
  ·have e:tokS s=[wd [71,82,65,78,84],wd [87,82,73,84,69],wd [79,78],wd s.tb,wd [84,79],wd s.role]:=by unfold tokS;rw[o];rfl
   exact CS (f:=[71,82,65,78,84]) (by rw[e];rfl) (by rfl) (by simp[X3]) ((bhG _).trans (OU [71,82,65,78,84] [] [84,79] [87,82,73,84,69] [119,114,105,116,101] (.inr ⟨rfl,rfl⟩) (by decide) hT ho (r:=r))) (by rw[<-hw,ow,o];rfl) (by rw[e];rfl)
  ·have e:tokS s=[wd [82,69,86,79,75,69],wd [82,69,65,68],wd [79,78],wd s.tb,wd [70,82,79,77],wd s.role]:=by unfold tokS;rw[o];rfl
   exact CS (f:=[82,69,86,79,75,69]) (by rw[e];rfl) (by rfl) (by simp[X3]) ((bhR _).trans (OU [82,69,86,79,75,69] [117,110] [70,82,79,77] [82,69,65,68] [117,110,114,101,97,100] (.inl ⟨rfl,rfl⟩) (by decide) hT ho (r:=r))) (by rw[<-hw,ow,o];rfl) (by rw[e];rfl)
  ·have e:tokS s=[wd [82,69,86,79,75,69],wd [87,82,73,84,69],wd [79,78],wd s.tb,wd [70,82,79,77],wd s.role]:=by unfold tokS;rw[o];rfl
   exact CS (f:=[82,69,86,79,75,69]) (by rw[e];rfl) (by rfl) (by simp[X3]) ((bhR _).trans (OU [82,69,86,79,75,69] [117,110] [70,82,79,77] [87,82,73,84,69] [117,110,119,114,105,116,101] (.inr ⟨rfl,rfl⟩) (by decide) hT ho (r:=r))) (by rw[<-hw,ow,o];rfl) (by rw[e];rfl)
 rw[if_neg o6]at ho;by_cases o7:s.op=Gx
 ·rw[if_pos o7]at ho;simp only[Bool.and_eq_true]at ho;obtain⟨⟨a1,a2⟩,a3⟩:=ho;have e:tokS s=wd [77,73,71,82,65,84,69]::wd [67,79,80,89]::wd s.tb::wd [70,82,79,77]::wd s.ot::sg 40::(PQ (s.names.map λc=>[wd c])++sg 41::JL [] s.chk):=by unfold tokS Yu;rw[o7];rfl
  refine CS (f:=[77,73,71,82,65,84,69]) (by rw[e];simp only[List.cons_append,List.append_assoc]) (by rfl) (by simp[X3]) ((bhM _).trans (dw hT a1 (HY a2) (BO a2).2.2 a3 f1 hr)) ?_ ?_
  ·refine Eq.trans ?_ hw;unfold ownS;rw[o7];rfl
  ·rw[e];simp only[List.length_cons,List.length_append];omega
 rw[if_neg o7]at ho;by_cases o8:s.op=I8
 ·rw[if_pos o8]at ho;simp only[Bool.and_eq_true]at ho;obtain⟨⟨⟨a1,a2⟩,a3⟩,a4⟩:=ho;have e:tokS s=wd [77,73,71,82,65,84,69]::wd [74,79,73,78]::wd s.tb::wd [70,82,79,77]::wd s.ot::sg 44::wd s.role::wd [79,78]::wd s.key::JL [] s.chk:=by unfold tokS Yu;rw[o8];rfl
  refine CS (f:=[77,73,71,82,65,84,69]) (by rw[e];simp only[List.cons_append]) (by rfl) (by simp[X3]) ((bhM _).trans (di hT a1 a2 a3 a4 f1 hr)) ?_ ?_
  ·refine Eq.trans ?_ hw;unfold ownS;rw[o8];rfl
  ·rw[e];simp only[List.length_cons];omega
 rw[if_neg o8]at ho;by_cases o9:s.op=GH
 ·rw[if_pos o9]at ho;simp only[Bool.and_eq_true]at ho;obtain⟨⟨a1,a2⟩,a3⟩:=ho;have hn:=bZ (d:=([]:List UInt8)) a2;have g0:=KN (d:=([]:List UInt8)) (BO a2).2.2 (k:=0) (by have:=(BO a2).1;omega);have g1:=KN (d:=([]:List UInt8)) (BO a2).2.2 (k:=1) (by have:=(BO a2).1;omega);have e:tokS s=wd [77,73,71,82,65,84,69]::wd [71,82,79,85,80]::wd s.tb::wd [70,82,79,77]::wd s.ot::wd [66,89]::wd (s.names.getD 0 [])::wd [83,85,77]::wd (s.names.getD 1 [])::JL [] s.chk:=by unfold tokS Yu;rw[o9];rfl
  refine CS (f:=[77,73,71,82,65,84,69]) (by rw[e];simp only[List.cons_append]) (by rfl) (by simp[X3]) ((bhM _).trans (dS hT a1 g0 g1 a3 f1 hr)) ?_ ?_
  ·refine Eq.trans ?_ hw;unfold ownS;rw[<-hn,o9];rfl
  ·rw[e];simp only[List.length_cons];omega
 rw[if_neg o9]at ho;cases ho
end
section
open Go.RowKit
theorem WF{α:Type}{q:α->α->Bool}:∀(a b:List α),a.length=b.length->((a.zip b).all λp=>q p.1 p.2)=true->(∀x∈a,∀y,q x y=true->x=y)->a=b
 |[],[],_,_,_=>rfl
 |[],_::_,h,_,_=>by simp at h
 |_::_,[],h,_,_=>by simp at h
 |x::a,y::b,h,h2,h3=>by
  simp only[List.zip_cons_cons,List.all_cons,Bool.and_eq_true]at h2;rw[h3 x (by simp) y h2.1,WF a b (by simpa using h) h2.2 (λz hz=>h3 z (by simp[hz]))]
theorem FF{α:Type}{q:α->α->Bool}{a b:List α}(h:Ig q a b=true)(hq:∀x∈a,∀y,q x y=true->x=y):a=b:=by
 unfold Ig at h;simp only[Bool.and_eq_true,decide_eq_true_eq]at h;exact WF a b h.1 h.2 hq
theorem MG{n:Nat}{a b:Ex}(h:Dw n a b=true):a.op=b.op/\a.v=b.v/\a.s=b.s/\a.l.length=b.l.length/\Iz n (a.l.zip b.l)=true:=by
 rw[Qc]at h;simp only[Bool.and_eq_true,beq_iff_eq]at h;obtain⟨h1,h2,h3,h4,h5⟩:=h;exact⟨h1,(NY _ _).1 h2,h3,of_decide_eq_true h4,h5⟩
theorem dK{a b:Ex}(h1:a.op=b.op)(h2:a.v=b.v)(h3:a.s=b.s)(h4:a.l=b.l):a=b:=by
 rw[Ex.eta a,Ex.eta b,h1,h2,h3,h4]
theorem IA:∀(n:Nat) (a b:Ex),Hgt n a.l->Dw n a b=true->a=b
 |0,a,b,hg,h=>by
  obtain⟨h1,h2,h3,h4,-⟩:=MG h;have hz:a.l=[]:=hg;rw[hz]at h4;exact dK h1 h2 h3 (by rw[hz];exact(List.eq_nil_of_length_eq_zero h4.symm).symm)
 |n+1,a,b,hg,h=>by
  obtain⟨h1,h2,h3,h4,h5⟩:=MG h;exact dK h1 h2 h3 (WF a.l b.l h4 h5 (λx hx y hy=>IA n x y (hg x hx) hy))
theorem ExQ.hgt{K:Nat}{w:World}{Q:Nat->Prop}:∀(n:Nat) {A:Option Addr} {l:List Ex},ExQ K n w Q A l->Hgt n l
 |0,_,_,h=>h
 |n+1,_,l,h=>λe he=>by
  obtain⟨i,hi,rfl⟩:=List.getElem_of_mem he;obtain⟨b,off,rfl,_,hr⟩:=h (by omega);obtain⟨A',c',_,_,_,_,h4⟩:=hr i l[i] (List.getElem?_eq_getElem hi);exact ExQ.hgt n h4
theorem ZQ.hgt{K n:Nat}{l:List Se}{A:Option Addr}{Q:Nat->Prop}{w:World}(h:ZQ K n l A Q w):∀x∈l,Hgt n x.e.l:=λx hx=>by
 obtain⟨i,hi,rfl⟩:=List.getElem_of_mem hx;obtain⟨b,off,rfl,_,hr⟩:=h (by omega);obtain⟨_,A',c',_,_,_,_,h4⟩:=hr i l[i] (List.getElem?_eq_getElem hi);exact ExQ.hgt n h4
theorem U3{m:Nat}{a b:St}(h1:Hgt m a.chk.l)(h2:Hgt m a.whr.l)(h3:∀x∈a.sets,Hgt m x.e.l)(h:Ji m a b=true):a=b:=by
 obtain⟨o,tb,ot,ns,cs,key,us,rs,ck,rw_,ss,wh,role⟩:=a;obtain⟨o',tb',ot',ns',cs',key',us',rs',ck',rw',ss',wh',role'⟩:=b;unfold Ji at h;simp only[Bool.and_eq_true,beq_iff_eq]at h h1 h2 h3;obtain⟨⟨⟨⟨⟨⟨⟨⟨⟨⟨⟨⟨g1,g2⟩,g3⟩,g4⟩,g5⟩,g6⟩,g7⟩,g8⟩,g9⟩,g10⟩,g11⟩,g12⟩,g13⟩:=h;have e6:=IA m ck ck' h1 g6;have e7:=IA m wh wh' h2 g7;have e8:=FF g8 (λx _ y hy=>by simpa using hy);have e10:=FF g10 (λx _ y hy=>by simpa using hy);have e9:=FF g9 (λx _ y hy=>by
  obtain⟨x1,x2,x3⟩:=x;obtain⟨y1,y2,y3⟩:=y;unfold Jm at hy;simp only[Bool.and_eq_true,beq_iff_eq,decide_eq_true_eq]at hy;obtain⟨rfl,rfl,rfl⟩:=hy;rfl)
 have e11:=FF g11 (λx _ y hy=>by
  obtain⟨x1,x2⟩:=x;obtain⟨y1,y2⟩:=y;unfold rfB at hy;simp only[Bool.and_eq_true,beq_iff_eq]at hy;obtain⟨rfl,rfl⟩:=hy;rfl)
 have e12:=FF g12 (λx _ y hy=>(NY x y).1 hy);have e13:=FF g13 (λx hx y hy=>by
  have hh:=h3 x hx;obtain⟨x1,x2⟩:=x;obtain⟨y1,y2⟩:=y;unfold seB at hy;simp only[Bool.and_eq_true,beq_iff_eq]at hy;obtain⟨rfl,hy⟩:=hy;rw[IA m x2 y2 hh hy])
 subst g1 g2 g3 g4 g5 e6 e7 e8 e9 e10 e11 e12 e13;rfl
theorem BF{s:St}(h:Jf s=true):Am s=true/\(Ii (Dk s)).isSome=true:=by unfold Jf at h;simpa using h
theorem U4{s:St}(h:Jf s=true)(hf:fitS s):∃f,(tokS s)[0]? = some ⟨1,f⟩/\f∈X3/\stmtP (tokS s) f=some s:=by
 obtain⟨f,h0,h1,h2⟩:=H9 (BF h).1 hf Lt (λ_ _=>G5);rw[List.append_nil]at h0 h2;refine⟨f,h0,h1, ?_⟩;unfold stmtP IK;rw[h2];simp only[Option.bind_some,if_true,h]
theorem WU{s:St}(h:Jf s=false):Uh s=[]:=by unfold Uh;rw[h];rfl
end
section
open Go.RowKit
theorem dU(e:Ex):(UQ e).l.length<=maxLen:=by
 unfold UQ;show(DF (Gt 13) (e.l.take 3) (80 - 1)).1.length<=maxLen
 have h1:=Ry (Gt 13) (e.l.take 3) (80 - 1);have h2:(e.l.take 3).length<=3:=List.length_take_le _ _;unfold maxLen;omega
theorem dC{s:St}(h:s.few.Ok):s.few.lens:=
 ⟨h.nN,h.nC,h.nU,h.nR,h.nW,h.nS,dU s.chk,dU s.whr,λx hx=>by
  have hx':x∈(s.sets.take 10).map JH:=hx;obtain⟨y,-,rfl⟩:=List.mem_map.1 hx';exact dU y.e⟩
theorem StM.hgt{m:Nat}{s:St}{p:StP}{Q:Nat->Prop}{w:World}(h:StM m s p Q w):Hgt m s.chk.l/\Hgt m s.whr.l/\∀x∈s.sets,Hgt m x.e.l:=
 ⟨ExQ.hgt m h.2.2.2.2.1,ExQ.hgt m h.2.2.2.2.2.2.2,ZQ.hgt h.2.2.2.2.2.2.1⟩
theorem StQ.m2{a b:St}{p q:StP}{Q Q':Nat->Prop}{w w':World}(h:StQ 1000 a p Q w)(k:StQ 1000 b q Q' w'):∃m,StM m a p Q w/\StM m b q Q' w':=by
 obtain⟨x,y,z,h⟩:=h.h;obtain⟨x',y',z',k⟩:=k.h;exact⟨x+y+z+x'+y'+z',h.ups (by omega) (by omega) (by omega),k.ups (by omega) (by omega) (by omega)⟩
end
end Go.Proofs.YtchilcchogcibaaGreatDoor
