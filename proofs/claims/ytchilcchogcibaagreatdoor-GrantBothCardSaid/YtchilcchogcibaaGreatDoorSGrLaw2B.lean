/- Grants, in plain words: what is granted and revoked, and in whatever order; what a table has that stands for others. Nothing of the program stands here.. -/
import Derived.Test.YtchilcchogcibaaGreatDoorSAwake9
import Derived.Test.YtchilcchogcibaaGreatDoorSGr8
import Derived.Test.YtchilcchogcibaaGreatDoorSGr9
import Derived.Test.YtchilcchogcibaaGreatDoorSGrLawB
import Derived.Test.YtchilcchogcibaaGreatDoorSGrR1
import Derived.Test.YtchilcchogcibaaGreatDoorSGrR6
namespace Go.Proofs.YtchilcchogcibaaGreatDoor
open Go.RowKit
theorem chk_nil : chkG [] = 0 := rfl
theorem mem_addG {l : List Gr} {g x : Gr} : x ∈ addG l g ↔ x ∈ l ∨ x = g := by
 unfold addG
 by_cases h : g ∈ l
 ·rw [if_pos h]
  exact ⟨.inl, fun h' => h'.elim id fun e => e ▸ h⟩
 ·rw [if_neg h]
  have e := List.takeWhile_append_dropWhile (p := fun x => !decide (0 < gord x g)) (l := l)
  constructor
  ·intro hx
   rcases List.mem_append.1 hx with hx | hx
   ·exact .inl ((List.takeWhile_sublist _).mem hx)
   ·rcases List.mem_cons.1 hx with rfl | hx
    ·exact .inr rfl
    ·exact .inl ((List.dropWhile_sublist _).mem hx)
  ·rintro (hx | rfl)
   ·rw [← e] at hx
    rcases List.mem_append.1 hx with hx | hx
    ·exact List.mem_append.2 (.inl hx)
    ·exact List.mem_append.2 (.inr (List.mem_cons.2 (.inr hx)))
   ·exact List.mem_append.2 (.inr (by simp))
theorem addG_in {l : List Gr} {g : Gr} (h : g ∈ l) : addG l g = l := by unfold addG; rw [if_pos h]
theorem ris_addG {l : List Gr} (h : Ris l) (g : Gr) : Ris (addG l g) := by rw [add_eq h g]; exact ris_withG h g
theorem may_names {s : St} (h : mayS s = true) : nameG s.tb = true := by
 unfold mayS at h
 simp only [Bool.and_eq_true] at h
 have h := h.1
 unfold partsS at h
 repeat' split at h
 all_goals first | (cases h; done) | (simp only [Bool.and_eq_true] at h; simp_all)
theorem may_role {s : St} (h : mayS s = true) (ho : s.op = oRead ∨ s.op = oWrite ∨ s.op = oUnread ∨ s.op = oUnwrite) : nameG s.role = true := by
 unfold mayS at h
 simp only [Bool.and_eq_true] at h
 have h := h.1
 unfold partsS at h
 have hn : ¬ s.op = oCreate ∧ ¬ s.op = oDrop ∧ ¬ s.op = oInsert ∧ ¬ s.op = oUpdate ∧ ¬ (s.op = oDelete ∨ s.op = oSelect) := by rcases ho with e | e | e | e <;> rw [e] <;> decide
 obtain ⟨n1, n2, n3, n4, n5⟩ := hn
 rw [if_neg n1, if_neg n2, if_neg n3, if_neg n4, if_neg n5, if_pos ho] at h
 simp only [Bool.and_eq_true] at h
 exact h.1.2
/-- What grant.Do answers, by cases. -/
inductive DoG (l : List Gr) (s : St) : List Gr × Int → Prop
 | no (n : Int) (h : n = 1 ∨ n = 13) : DoG l s ([], n)
 | add (hc : chkG l = 0) (hm : mayS s = true) (hr : ¬ s.role = adminT) (ho : s.op = oRead ∨ s.op = oWrite) (hl : l.length < 60 ∨ stG s ∈ l) : DoG l s (addG l (stG s), 0)
 | del (hc : chkG l = 0) (hm : mayS s = true) (hr : ¬ s.role = adminT) (ho : s.op = oUnread ∨ s.op = oUnwrite) : DoG l s (delG l (stG s), 0)
theorem doG_cases (l : List Gr) (s : St) : DoG l s (doG l s) := by
 unfold doG
 by_cases h1 : chkG l = 0
 ·rw [if_pos h1]
  by_cases h2 : mayS s = true
  ·rw [if_pos h2]
   by_cases h3 : s.role = adminT
   ·rw [if_pos h3]; exact .no 1 (.inl rfl)
   rw [if_neg h3]
   by_cases h4 : s.op = oRead ∨ s.op = oWrite
   ·rw [if_pos h4]
    by_cases h5 : (decide (60 ≤ l.length) && !decide (stG s ∈ l)) = true
    ·rw [if_pos h5]; exact .no 13 (.inr rfl)
    ·rw [if_neg h5]
     refine .add h1 h2 h3 h4 ?_
     simp only [Bool.and_eq_true, Bool.not_eq_true', decide_eq_true_eq, decide_eq_false_iff_not, not_and, Decidable.not_not] at h5
     by_cases h6 : l.length < 60
     ·exact .inl h6
     ·exact .inr (h5 (by omega))
   ·rw [if_neg h4]
    by_cases h5 : s.op = oUnread ∨ s.op = oUnwrite
    ·rw [if_pos h5]; exact .del h1 h2 h3 h5
    ·rw [if_neg h5]; exact .no 1 (.inl rfl)
  ·rw [if_neg h2]; exact .no 1 (.inl rfl)
 ·rw [if_neg h1]; exact .no 1 (.inl rfl)
theorem bad_stG {s : St} (hm : mayS s = true) (hr : ¬ s.role = adminT) (ho : s.op = oRead ∨ s.op = oWrite ∨ s.op = oUnread ∨ s.op = oUnwrite) : badG (stG s) = false := by
 unfold badG stG
 rw [may_role hm ho, may_names hm]
 simpa using hr
theorem doG_chk (l : List Gr) (s : St) (h : (doG l s).2 = 0) : chkG (doG l s).1 = 0 := by
 rcases h0 : doG l s with ⟨r, n⟩
 have hc := doG_cases l s
 rw [h0] at hc h
 cases hc with
 | no n h' =>
  dsimp only at h
  rcases h' with e | e <;> rw [e] at h <;> cases h
 | add hc hm hr ho hl =>
  obtain ⟨c1, c2, c3⟩ := (chk_iff l).1 hc
  refine (chk_iff _).2 ⟨fun x hx => ?_, ?_, ris_addG c3 _⟩
  ·rcases mem_addG.1 hx with hx | rfl
   ·exact c1 x hx
   ·exact bad_stG hm hr (ho.elim .inl fun h => .inr (.inl h))
  ·rcases hl with hl | hl
   ·exact Nat.le_trans (addG_len l _) (by omega)
   ·show (addG l (stG s)).length ≤ 60
    rw [addG_in hl]; exact c2
 | del hc hm hr ho =>
  obtain ⟨c1, c2, c3⟩ := (chk_iff l).1 hc
  exact (chk_iff _).2 ⟨fun x hx => c1 x (mem_delG.1 hx).1, Nat.le_trans (List.length_filter_le _ _) c2, ris_delG c3 _⟩
def addOp (op : List UInt8) : Bool := decide (op = oRead) || decide (op = oWrite)
theorem doG_mem (l : List Gr) (s : St) (h : (doG l s).2 = 0) (x : Gr) : x ∈ (doG l s).1 ↔ if addOp s.op then x ∈ l ∨ x = stG s else x ∈ l ∧ x ≠ stG s := by
 rcases h0 : doG l s with ⟨r, n⟩
 have hc := doG_cases l s
 rw [h0] at hc h
 cases hc with
 | no n h' =>
  dsimp only at h
  rcases h' with e | e <;> rw [e] at h <;> cases h
 | add hc hm hr ho hl =>
  have : addOp s.op = true := by unfold addOp; rcases ho with e | e <;> rw [e] <;> decide
  rw [this, if_pos rfl]; exact mem_addG
 | del hc hm hr ho =>
  have : addOp s.op = false := by unfold addOp; rcases ho with e | e <;> rw [e] <;> decide
  rw [this, if_neg (by decide)]; exact mem_delG
/-- Of two that differ it is the same either way round. -/
theorem turns_law (l : List Gr) (a b : St) (he : (doG l a).2 = 0) (hf : (doG (doG l a).1 b).2 = 0) (hg : (doG l b).2 = 0) (hh : (doG (doG l b).1 a).2 = 0) (hd : stG a ≠ stG b) : (doG (doG l a).1 b).1 = (doG (doG l b).1 a).1 := by
 refine ris_uniq ((chk_iff _).1 (doG_chk _ _ hf)).2.2 ((chk_iff _).1 (doG_chk _ _ hh)).2.2 fun x => ?_
 rw [doG_mem _ _ hf, doG_mem _ _ hh]
 simp only [doG_mem _ _ he, doG_mem _ _ hg]
 cases addOp a.op <;> cases addOp b.op <;> simp only [if_true, Bool.false_eq_true, if_false]
 ·constructor
  ·rintro ⟨⟨h1, h2⟩, h3⟩; exact ⟨⟨h1, h3⟩, h2⟩
  ·rintro ⟨⟨h1, h2⟩, h3⟩; exact ⟨⟨h1, h3⟩, h2⟩
 ·constructor
  ·rintro (⟨h1, h2⟩ | h)
   ·exact ⟨.inl h1, h2⟩
   ·exact ⟨.inr h, fun e => hd (e.symm.trans h)⟩
  ·rintro ⟨h1 | h1, h2⟩
   ·exact .inl ⟨h1, h2⟩
   ·exact .inr h1
 ·constructor
  ·rintro ⟨h1 | h1, h2⟩
   ·exact .inl ⟨h1, h2⟩
   ·exact .inr h1
  ·rintro (⟨h1, h2⟩ | h)
   ·exact ⟨.inl h1, h2⟩
   ·exact ⟨.inr h, fun e => hd (h.symm.trans e)⟩
 ·constructor
  ·rintro ((h | h) | h)
   ·exact .inl (.inl h)
   ·exact .inr h
   ·exact .inl (.inr h)
  ·rintro ((h | h) | h)
   ·exact .inl (.inl h)
   ·exact .inr h
   ·exact .inl (.inr h)
/-- Where the grant of a role and a table stands, behind one statement. -/
theorem stays_law (l : List Gr) (s : St) (h : (doG l s).2 = 0) (role tb : List UInt8) (w : Bool) :
  decide (⟨role, tb, w⟩ ∈ (doG l s).1) = if s.role = role ∧ s.tb = tb ∧ wrOp s.op = w then addOp s.op else decide ((⟨role, tb, w⟩ : Gr) ∈ l) := by
 rw [Bool.eq_iff_iff, decide_eq_true_eq, doG_mem l s h]
 by_cases hs : s.role = role ∧ s.tb = tb ∧ wrOp s.op = w
 ·rw [if_pos hs]
  have e : (⟨role, tb, w⟩ : Gr) = stG s := by unfold stG; rw [hs.1, hs.2.1, hs.2.2]
  rw [e]
  cases addOp s.op <;> simp
 ·rw [if_neg hs]
  have e : (⟨role, tb, w⟩ : Gr) ≠ stG s := fun e => hs (by unfold stG at e; injection e with e1 e2 e3; exact ⟨e1.symm, e2.symm, e3.symm⟩)
  rw [decide_eq_true_eq]
  cases addOp s.op
  ·rw [if_neg (by decide)]; exact ⟨fun h => h.1, fun h => ⟨h, e⟩⟩
  ·rw [if_pos rfl]; exact ⟨fun h => h.elim id fun h => absurd h e, .inl⟩
theorem mem_foldl (l : List Gr) (u : List UInt8) (ts : List (List UInt8)) : ∀ (r acc : List Gr) (y : Gr), y ∈ r.foldl (bothStep l u ts) acc ↔ y ∈ acc ∨ ∃ g ∈ r, ts.any (lackG l g) = false ∧ y = ⟨g.r, u, g.w⟩
 | [], acc, y => by simp
 | x :: r, acc, y => by
  rw [List.foldl_cons, mem_foldl l u ts r]
  have e : y ∈ bothStep l u ts acc x ↔ y ∈ acc ∨ (ts.any (lackG l x) = false ∧ y = ⟨x.r, u, x.w⟩) := by
   unfold bothStep
   cases ts.any (lackG l x)
   ·rw [if_neg (by decide)]
    rw [mem_addG]
    simp
   ·rw [if_pos rfl]
    simp
  rw [e]
  constructor
  ·rintro ((h | h) | ⟨g, hg, h⟩)
   ·exact .inl h
   ·exact .inr ⟨x, by simp, h⟩
   ·exact .inr ⟨g, by simp [hg], h⟩
  ·rintro (h | ⟨g, hg, h⟩)
   ·exact .inl (.inl h)
   ·rcases List.mem_cons.1 hg with rfl | hg
    ·exact .inl (.inr h)
    ·exact .inr ⟨g, hg, h⟩
theorem mem_two (l : List Gr) (u a b role : List UInt8) (w : Bool) : (⟨role, u, w⟩ : Gr) ∈ bothG l u [a, b] ↔ (⟨role, a, w⟩ : Gr) ∈ l ∧ (⟨role, b, w⟩ : Gr) ∈ l := by
 unfold bothG
 rw [if_neg (by simp), mem_foldl]
 constructor
 ·rintro (h | ⟨g, hg, h1, h2⟩)
  ·unfold withoutG at h
   have := (List.mem_filter.1 h).2
   simp at this
  ·injection h2 with e1 _ e3
   subst e1 e3
   simp only [List.any_cons, List.any_nil, Bool.or_false, Bool.or_eq_false_iff, lackG, Bool.not_eq_false', decide_eq_true_eq] at h1
   exact h1
 ·rintro ⟨h1, h2⟩
  refine .inr ⟨⟨role, a, w⟩, h1, ?_, rfl⟩
  simp [lackG, h1, h2]
theorem mem_other (l : List Gr) (u a b role t : List UInt8) (w : Bool) (ht : ¬ t = u) : (⟨role, t, w⟩ : Gr) ∈ bothG l u [a, b] ↔ (⟨role, t, w⟩ : Gr) ∈ l := by
 unfold bothG
 rw [if_neg (by simp), mem_foldl]
 constructor
 ·rintro (h | ⟨g, _, _, h2⟩)
  ·exact (List.mem_filter.1 h).1
  ·injection h2 with _ e2 _
   exact absurd e2 ht
 ·intro h
  refine .inl (List.mem_filter.2 ⟨h, ?_⟩)
  simpa using ht
/-- What a role may with a table that stands for two. -/
theorem both_law (l : List Gr) (u a b role : List UInt8) (hl : chkG l = 0) (hx : chkG (bothG l u [a, b]) = 0) (hr : ¬ role = adminT) (ha : ¬ a = u) :
  (mayG (bothG l u [a, b]) role oSelect u = (mayG l role oSelect a && mayG l role oSelect b)) ∧ (mayG (bothG l u [a, b]) role oDelete u = (mayG l role oDelete a && mayG l role oDelete b)) ∧
  mayG (bothG l u [a, b]) role oSelect a = mayG l role oSelect a ∧ mayG (bothG l u [a, b]) role oDelete a = mayG l role oDelete a := by
 unfold mayG
 have hs : ¬ oDelete = oSelect := by decide
 rw [hl, hx]
 simp only [if_neg hr, if_neg hs, mem_two, mem_other _ _ _ _ _ _ _ ha]
 refine ⟨?_, ?_, trivial, trivial⟩
 ·simp
 ·by_cases h1 : (⟨role, a, false⟩ : Gr) ∈ l <;> by_cases h2 : (⟨role, b, false⟩ : Gr) ∈ l <;> by_cases h3 : (⟨role, a, true⟩ : Gr) ∈ l <;> by_cases h4 : (⟨role, b, true⟩ : Gr) ∈ l <;> simp [h1, h2, h3, h4]
end Go.Proofs.YtchilcchogcibaaGreatDoor
