/- A drawn region whose last operations write what its first ones read: the reads are taken first, for what writes waits for what waits for them. -/
import Derived.Deep.RegionHeld3
namespace Go.Proofs.YtchilcchogcibaaGreatDoor
open Go
section
variable {P : Program} {ops : Array Oper} {Q : Exit → Act → World → Prop} {md : Region.Mode} {S : Array Bool → World → Prop} {T : World → Prop}
def Es(P:Program)(md:Region.Mode)(ops:Array Oper)(Q:Exit->Act->World->Prop)(S:Array Bool->World->Prop):Nat->Array Bool->Act->World->Prop
 |0,listed,a,w=>Region.ready md ops listed=[]/\Q .normal a w
 |fuel+1,listed,a,w=>
  (Region.ready md ops listed=[]->Q .normal a w) ∧
  ∀i∈Region.ready md ops listed,wpOp P ops Q i (λa' w'=>S (listed.setIfInBounds i true) w'/\Es P md ops Q S fuel (listed.setIfInBounds i true) a' w') a w
theorem MZ:∀(fuel:Nat) (listed:Array Bool) (a:Act) (w:World),Es P md ops Q S fuel listed a w->wpAny P md ops Q fuel listed a w
 |0,_,_,_,h=>h
 |fuel+1,_,_,_,h=>⟨h.1,λi hi=>wpOp_mono (λa' w' h'=>MZ fuel _ a' w' h'.2) (h.2 i hi)⟩
theorem Pi{i:Nat}{oi:Oper}{v:Value}(hi:ops[i]? = some oi)(hsel:∀(j:Nat) (o:Oper) cs b,ops[j]? = some o->o.op≠.select cs b)
 (hQ:∀c a w,Q (.panic c) (a.put oi.dst v) w->Q (.panic c) a w)
 (G:Array Bool->Prop)(hG:∀L j,G L->L.getD i true=false->j∈Region.ready md ops L->j≠i->G (L.setIfInBounds j true))
 (hS:∀L w,G L->L.getD i true=false->S L w->T w)(hSi:∀L w,S (L.setIfInBounds i true) w->S L w):
  ∀(fuel:Nat) (listed:Array Bool) (a:Act) (w:World),G listed->
   (∀j oj,ops[j]? = some oj->j≠i->listed.getD j true=false->(∀e∈oj.after,Region.binds md e=true->e.on≠i)->oi.apart ops oj=true)->
   i∈Region.ready md ops listed->YieldsIf P ops T oi v a->S listed w->S (listed.setIfInBounds i true) w->
   Es P md ops Q S fuel (listed.setIfInBounds i true) (a.put oi.dst v) w->Es P md ops Q S (fuel+1) listed a w:=by
 intro fuel
 induction fuel with
 |zero=>
  intro listed a w hg _ hr hy hS0 hS1 H;refine⟨λh=>(by rw[h]at hr;cases hr),λj hj=>?_⟩;by_cases hji:j=i
  ·subst hji;exact hy.wpOp hi (hS _ _ hg (mem_ready.1 hr).1 hS0) ⟨hS1,H⟩
  ·have:=ready_mono hj hji;rw[H.1]at this;cases this
 |succ fuel ih=>
  intro listed a w hg hfree hr hy hS0 hS1 H;refine⟨λh=>(by rw[h]at hr;cases hr),λj hj=>?_⟩;by_cases hji:j=i
  ·subst hji;exact hy.wpOp hi (hS _ _ hg (mem_ready.1 hr).1 hS0) ⟨hS1,H⟩
  ·have h1:=H.2 j (ready_mono hj hji);obtain⟨hjun,oj,hoj,hall⟩:=mem_ready.1 hj;have hnot:∀e∈oj.after,Region.binds md e=true->e.on≠i:=λe he hb heq=>by
    have h1:=hall e he hb;have h0:=(mem_ready.1 hr).1;rw[heq]at h1;rcases Nat.lt_or_ge i listed.size with h'|h'
    ·simp[h']at h0 h1;rw[h0]at h1;cases h1
    ·simp[Array.getElem?_eq_none h']at h1
   have h2:=wpOp_putIf hoj (hfree j oj hoj hji hjun hnot) (λcs b=>hsel i oi cs b hi) (λcs b=>hsel j oj cs b hoj) hQ hy h1;have hfree':∀k ok,ops[k]? = some ok->k≠i->(listed.setIfInBounds j true).getD k true=false->
     (∀e∈ok.after,Region.binds md e=true->e.on≠i)->oi.apart ops ok=true:=λk ok hk hki hun hno=>by
    refine hfree k ok hk hki ?_ hno;by_cases hjk:j=k
    ·subst hjk;exact hjun
    ·rw[getD_set_ne true hjk]at hun;exact hun
   refine wpOp_mono (λa' w' h3=>?_) h2;obtain⟨h4,h5,h6⟩:=h3;rw[Array.setIfInBounds_comm _ _ (Ne.symm hji)]at h5 h6;exact⟨hSi _ _ h5,ih (listed.setIfInBounds j true) a' w' (hG _ _ hg (mem_ready.1 hr).1 hj hji) hfree' (ready_mono hr (Ne.symm hji)) h4 (hSi _ _ h5) h5 h6⟩
def Ik(cs:List Nat)(T:World->Prop)(L:Array Bool)(w:World):Prop:=(∃c∈cs,L.getD c true=false)->T w
theorem Ik.of_set{cs:List Nat}{i:Nat}(h:i∉cs){L:Array Bool}{w:World}(hs:Ik cs T (L.setIfInBounds i true) w):Ik cs T L w:=λ⟨c,hc,hL⟩=>by
 refine hs ⟨c,hc, ?_⟩;rw[getD_set_ne true (λe=>h (by rw[e];exact hc))];exact hL
theorem Ik.set{cs:List Nat}{i:Nat}{L:Array Bool}{w:World}(hs:Ik cs T L w):Ik cs T (L.setIfInBounds i true) w:=λ⟨c,hc,hL⟩=>by
 refine hs ⟨c,hc, ?_⟩;by_cases h:i=c
 ·subst h;rcases Nat.lt_or_ge i L.size with h1|h1
  ·simp[Array.getD,h1]at hL
  ·simp[Array.getD,Nat.not_lt.2 h1]at hL
 ·rw[getD_set_ne true h]at hL;exact hL
def NZ(md:Region.Mode)(ops:Array Oper):Nat->List Nat->Bool
 |_,[]=>true
 |i,p::r=>(match ops[p]? with|some o=>o.after.any λe=>Region.binds md e&&e.on==i|none=>false)&&NZ md ops p r
theorem Qw{L:Array Bool}{j:Nat}(hj:j∈Region.ready md ops L):∀(ps:List Nat) (i:Nat),NZ md ops i ps=true->L.getD i true=false->(∀p∈ps,L.getD p true=false)->j∉ps
 |[],_,_,_,_=>by simp
 |p::r,i,hp,hi,hu=>by
  unfold NZ at hp;simp only[Bool.and_eq_true]at hp;have hup:=hu p (by simp);have ih:=Qw hj r p hp.2 hup (λq hq=>hu q (by simp[hq]));intro hm;rcases List.mem_cons.1 hm with h|h
  ·subst h;obtain⟨_,oj,hoj,hall⟩:=mem_ready.1 hj;have h1:=hp.1;rw[hoj]at h1;simp only at h1;obtain⟨e,hem,heb⟩:=Array.any_eq_true'.1 h1;simp only[Bool.and_eq_true,beq_iff_eq]at heb;have h2:=hall e hem heb.1;rw[heb.2]at h2;rcases Nat.lt_or_ge i L.size with h'|h'
   ·simp[h']at hi h2;rw[hi]at h2;cases h2
   ·simp[Array.getElem?_eq_none h']at h2
  ·exact ih h
theorem QI{cs:List Nat}{i:Nat}(c:Nat)(ps:List Nat){oi:Oper}{v:Value}{fuel:Nat}{listed:Array Bool}{a:Act}{w:World}(hi:ops[i]? = some oi)(hc:c∈cs)(hcp:c∈ps)(hic:i∉cs)(hpath:NZ md ops i ps=true)(hcl:(ps.all λp=>!listed.getD p true)=true)
 (hs:Region.noSelect ops=true)(hf:Region.free md ops listed i=true)(hr:(Region.ready md ops listed).contains i=true)
 (hQ:∀c a w,Q (.panic c) (a.put oi.dst v) w->Q (.panic c) a w)(hy:YieldsIf P ops T oi v a)(hT:T w)
 (h:Es P md ops Q (Ik cs T) fuel (listed.setIfInBounds i true) (a.put oi.dst v) w):Es P md ops Q (Ik cs T) (fuel+1) listed a w:=by
 refine Pi hi (Region.noSelect_spec hs) hQ (λL=>∀p∈ps,L.getD p true=false) (λL j hg hu hj hji=>?_) (λL w hg _ hS=>hS ⟨c,hc,hg c hcp⟩) (λL w=>Ik.of_set hic) fuel listed a w
  (λp hp=>by have:=List.all_eq_true.1 hcl p hp;simpa using this) (Region.free_spec hi hf) (by simpa using hr) hy (λ_=>hT) (λ_=>hT) h
 have hn:=Qw hj ps i hpath hu hg;intro p hp;show(L.setIfInBounds j true).getD p true=false
 rw[getD_set_ne true (λe=>hn (by rw[e];exact hp))];exact hg p hp
theorem tI(i c:Nat)(ps:List Nat){cs:List Nat}{oi:Oper}{v:Value}{fuel:Nat}{listed:Array Bool}{a:Act}{w:World}
 (h:Es P md ops Q (Ik cs T) fuel (listed.setIfInBounds i true) (a.put oi.dst v) w)(hi:ops[i]? = some oi:=by rfl)(hc:c∈cs:=by decide)(hcp:c∈ps:=by decide)(hic:i∉cs:=by decide)(hpath:NZ md ops i ps=true:=by kernel_rfl)(hcl:(ps.all λp=>!listed.getD p true)=true:=by kernel_rfl)
 (hs:Region.noSelect ops=true:=by kernel_rfl)(hf:Region.free md ops listed i=true:=by kernel_rfl)(hr:(Region.ready md ops listed).contains i=true:=by kernel_rfl)
 (hQ:∀c a w,Q (.panic c) (a.put oi.dst v) w->Q (.panic c) a w:=by exactλ_ _ _ h=>h)
 (hy:YieldsIf P ops T oi v a:=by(refine Or.inl ⟨by rfl, ?_⟩;intro wq hSw;(try dsimp only at hSw);go_simp;first|done|with_reducible rfl))
 (hT:T w:=by assumption):Es P md ops Q (Ik cs T) (fuel+1) listed a w:=QI c ps hi hc hcp hic hpath hcl hs hf hr hQ hy hT h
def AC(P:Program)(md:Region.Mode)(ops:Array Oper)(Q:Exit->Act->World->Prop)(S:Array Bool->World->Prop)(fuel:Nat)(listed:Array Bool)(a:Act)(w:World)(rs:List Nat):Prop:=
 ∀i∈rs,wpOp P ops Q i (λa' w'=>S (listed.setIfInBounds i true) w'/\Es P md ops Q S fuel (listed.setIfInBounds i true) a' w') a w
theorem AC.nil{fuel:Nat}{listed:Array Bool}{a:Act}{w:World}:AC P md ops Q S fuel listed a w []:=λ_ h=>by cases h
theorem AC.cons{fuel:Nat}{listed:Array Bool}{a:Act}{w:World}{i:Nat}{o:Oper}{rs:List Nat}(ho:ops[i]? = some o)
 (h:∀K':Act->World->Prop,Shut (∀a w,S (listed.setIfInBounds i true) w->(S (listed.setIfInBounds i true) w->Es P md ops Q S fuel (listed.setIfInBounds i true) a w)->K' a w)->if Region.wanted o (yielded ops a.tmps)=true then Oper.wp P o a w K' Q else K' (a.put o.dst undef) w)
 (hs:AC P md ops Q S fuel listed a w rs):AC P md ops Q S fuel listed a w (i::rs):=λj hj=>by
 rcases List.mem_cons.1 hj with rfl|hj
 ·exact wpOp_step ho (λK' hK=>h K' (λa w hS hW=>hK a w ⟨hS,hW hS⟩))
 ·exact hs j hj
theorem AC.consT{cs:List Nat}{fuel:Nat}{listed:Array Bool}{a:Act}{w:World}{i:Nat}{o:Oper}{rs:List Nat}(ho:ops[i]? = some o)
 (h:∀K':Act->World->Prop,Shut (∀a w,T w->(T w->Es P md ops Q (Ik cs T) fuel (listed.setIfInBounds i true) a w)->K' a w)->if Region.wanted o (yielded ops a.tmps)=true then Oper.wp P o a w K' Q else K' (a.put o.dst undef) w)
 (hs:AC P md ops Q (Ik cs T) fuel listed a w rs):AC P md ops Q (Ik cs T) fuel listed a w (i::rs):=
 .cons ho (λK' hK=>h K' (λa w hT hW=>hK.out a w (λ_=>hT) (λ_=>hW hT))) hs
theorem AC.consD{cs:List Nat}{fuel:Nat}{listed:Array Bool}{a:Act}{w:World}{i:Nat}{o:Oper}{rs:List Nat}(ho:ops[i]? = some o)(hd:(cs.all λc=>(listed.setIfInBounds i true).getD c true)=true)
 (h:∀K':Act->World->Prop,Shut (∀a w,Es P md ops Q (Ik cs T) fuel (listed.setIfInBounds i true) a w->K' a w)->if Region.wanted o (yielded ops a.tmps)=true then Oper.wp P o a w K' Q else K' (a.put o.dst undef) w)
 (hs:AC P md ops Q (Ik cs T) fuel listed a w rs):AC P md ops Q (Ik cs T) fuel listed a w (i::rs):=
 .cons ho (λK' hK=>h K' (λa w hW=>hK.out a w (λ⟨c,hc,hL⟩=>by have:=List.all_eq_true.1 hd c hc;rw[hL]at this;cases this) (λ_=>hW))) hs
theorem AV{rs:List Nat}{fuel:Nat}{listed:Array Bool}{a:Act}{w:World}(hr:Region.ready md ops listed=rs)(hne:rs≠[])
 (h:AC P md ops Q S fuel listed a w rs):Es P md ops Q S (fuel+1) listed a w:=⟨λh0=>absurd (hr ▸ h0) hne,hr ▸ h⟩
theorem DI{listed:Array Bool}{a:Act}{w:World}(hr:Region.ready md ops listed=[])(h:Q .normal a w):∀fuel,Es P md ops Q S fuel listed a w
 |0=>⟨hr,h⟩
 |_+1=>⟨λ_=>h,by rw[hr];simp⟩
theorem Bl{id:Nat}{a:Act}{w:World}(cs:List Nat)(T:World->Prop)(hm:P.follows .mixedOrders=true)(hS:T w.drew)
 (h:T w.drew->Es P .any ops Q (Ik cs T) ops.size (Array.replicate ops.size false) a w.drew):(Code.region id ops true).wp P Q a w:=
 wp_region_any hm (MZ _ _ _ _ (h hS))
end
end Go.Proofs.YtchilcchogcibaaGreatDoor
