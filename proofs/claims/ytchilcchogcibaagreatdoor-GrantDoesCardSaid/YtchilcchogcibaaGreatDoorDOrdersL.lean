/- A drawn region whose last operations write what its first ones read: the reads are taken first, for what writes waits for what waits for them. No program in sight.. -/
import Derived.Deep.RegionHeld3
namespace Go.Proofs.YtchilcchogcibaaGreatDoor
open Go
section
variable {P : Program} {ops : Array Oper} {Q : Exit → Act → World → Prop} {md : Region.Mode} {S : Array Bool → World → Prop} {T : World → Prop}
def wpAnyI (P : Program) (md : Region.Mode) (ops : Array Oper) (Q : Exit → Act → World → Prop) (S : Array Bool → World → Prop) : Nat → Array Bool → Act → World → Prop
 | 0, listed, a, w => Region.ready md ops listed = [] ∧ Q .normal a w
 | fuel + 1, listed, a, w =>
  (Region.ready md ops listed = [] → Q .normal a w) ∧
  ∀ i ∈ Region.ready md ops listed, wpOp P ops Q i (fun a' w' => S (listed.setIfInBounds i true) w' ∧ wpAnyI P md ops Q S fuel (listed.setIfInBounds i true) a' w') a w
theorem wpAny_of_I : ∀ (fuel : Nat) (listed : Array Bool) (a : Act) (w : World), wpAnyI P md ops Q S fuel listed a w → wpAny P md ops Q fuel listed a w
 | 0, _, _, _, h => h
 | fuel + 1, _, _, _, h => ⟨h.1, fun i hi => wpOp_mono (fun a' w' h' => wpAny_of_I fuel _ a' w' h'.2) (h.2 i hi)⟩
theorem wpAnyI_first {i : Nat} {oi : Oper} {v : Value} (hi : ops[i]? = some oi) (hsel : ∀ (j : Nat) (o : Oper) cs b, ops[j]? = some o → o.op ≠ .select cs b)
  (hQ : ∀ c a w, Q (.panic c) (a.put oi.dst v) w → Q (.panic c) a w)
  (G : Array Bool → Prop) (hG : ∀ L j, G L → L.getD i true = false → j ∈ Region.ready md ops L → j ≠ i → G (L.setIfInBounds j true))
  (hS : ∀ L w, G L → L.getD i true = false → S L w → T w) (hSi : ∀ L w, S (L.setIfInBounds i true) w → S L w) :
  ∀ (fuel : Nat) (listed : Array Bool) (a : Act) (w : World), G listed →
   (∀ j oj, ops[j]? = some oj → j ≠ i → listed.getD j true = false → (∀ e ∈ oj.after, Region.binds md e = true → e.on ≠ i) → oi.apart ops oj = true) →
   i ∈ Region.ready md ops listed → YieldsIf P ops T oi v a → S listed w → S (listed.setIfInBounds i true) w →
   wpAnyI P md ops Q S fuel (listed.setIfInBounds i true) (a.put oi.dst v) w → wpAnyI P md ops Q S (fuel + 1) listed a w := by
 intro fuel
 induction fuel with
 | zero =>
  intro listed a w hg _ hr hy hS0 hS1 H
  refine ⟨fun h => (by rw [h] at hr; cases hr), fun j hj => ?_⟩
  by_cases hji : j = i
  ·subst hji; exact hy.wpOp hi (hS _ _ hg (mem_ready.1 hr).1 hS0) ⟨hS1, H⟩
  ·have := ready_mono hj hji
   rw [H.1] at this
   cases this
 | succ fuel ih =>
  intro listed a w hg hfree hr hy hS0 hS1 H
  refine ⟨fun h => (by rw [h] at hr; cases hr), fun j hj => ?_⟩
  by_cases hji : j = i
  ·subst hji; exact hy.wpOp hi (hS _ _ hg (mem_ready.1 hr).1 hS0) ⟨hS1, H⟩
  ·have h1 := H.2 j (ready_mono hj hji)
   obtain ⟨hjun, oj, hoj, hall⟩ := mem_ready.1 hj
   have hnot : ∀ e ∈ oj.after, Region.binds md e = true → e.on ≠ i := fun e he hb heq => by
    have h1 := hall e he hb
    have h0 := (mem_ready.1 hr).1
    rw [heq] at h1
    rcases Nat.lt_or_ge i listed.size with h' | h'
    ·simp [h'] at h0 h1; rw [h0] at h1; cases h1
    ·simp [Array.getElem?_eq_none h'] at h1
   have h2 := wpOp_putIf hoj (hfree j oj hoj hji hjun hnot) (fun cs b => hsel i oi cs b hi) (fun cs b => hsel j oj cs b hoj) hQ hy h1
   have hfree' : ∀ k ok, ops[k]? = some ok → k ≠ i → (listed.setIfInBounds j true).getD k true = false →
     (∀ e ∈ ok.after, Region.binds md e = true → e.on ≠ i) → oi.apart ops ok = true := fun k ok hk hki hun hno => by
    refine hfree k ok hk hki ?_ hno
    by_cases hjk : j = k
    ·subst hjk; exact hjun
    ·rw [getD_set_ne true hjk] at hun; exact hun
   refine wpOp_mono (fun a' w' h3 => ?_) h2
   obtain ⟨h4, h5, h6⟩ := h3
   rw [Array.setIfInBounds_comm _ _ (Ne.symm hji)] at h5 h6
   exact ⟨hSi _ _ h5, ih (listed.setIfInBounds j true) a' w' (hG _ _ hg (mem_ready.1 hr).1 hj hji) hfree' (ready_mono hr (Ne.symm hji)) h4 (hSi _ _ h5) h5 h6⟩
def Till (cs : List Nat) (T : World → Prop) (L : Array Bool) (w : World) : Prop := (∃ c ∈ cs, L.getD c true = false) → T w
theorem Till.of_set {cs : List Nat} {i : Nat} (h : i ∉ cs) {L : Array Bool} {w : World} (hs : Till cs T (L.setIfInBounds i true) w) : Till cs T L w := fun ⟨c, hc, hL⟩ => by
 refine hs ⟨c, hc, ?_⟩
 rw [getD_set_ne true (fun e => h (by rw [e]; exact hc))]
 exact hL
theorem Till.set {cs : List Nat} {i : Nat} {L : Array Bool} {w : World} (hs : Till cs T L w) : Till cs T (L.setIfInBounds i true) w := fun ⟨c, hc, hL⟩ => by
 refine hs ⟨c, hc, ?_⟩
 by_cases h : i = c
 ·subst h
  rcases Nat.lt_or_ge i L.size with h1 | h1
  ·simp [Array.getD, h1] at hL
  ·simp [Array.getD, Nat.not_lt.2 h1] at hL
 ·rw [getD_set_ne true h] at hL
  exact hL
def pathOk (md : Region.Mode) (ops : Array Oper) : Nat → List Nat → Bool
 | _, [] => true
 | i, p :: r => (match ops[p]? with | some o => o.after.any fun e => Region.binds md e && e.on == i | none => false) && pathOk md ops p r
theorem path_not {L : Array Bool} {j : Nat} (hj : j ∈ Region.ready md ops L) : ∀ (ps : List Nat) (i : Nat), pathOk md ops i ps = true → L.getD i true = false → (∀ p ∈ ps, L.getD p true = false) → j ∉ ps
 | [], _, _, _, _ => by simp
 | p :: r, i, hp, hi, hu => by
  unfold pathOk at hp
  simp only [Bool.and_eq_true] at hp
  have hup := hu p (by simp)
  have ih := path_not hj r p hp.2 hup (fun q hq => hu q (by simp [hq]))
  intro hm
  rcases List.mem_cons.1 hm with h | h
  ·subst h
   obtain ⟨_, oj, hoj, hall⟩ := mem_ready.1 hj
   have h1 := hp.1
   rw [hoj] at h1
   simp only at h1
   obtain ⟨e, hem, heb⟩ := Array.any_eq_true'.1 h1
   simp only [Bool.and_eq_true, beq_iff_eq] at heb
   have h2 := hall e hem heb.1
   rw [heb.2] at h2
   rcases Nat.lt_or_ge i L.size with h' | h'
   ·simp [h'] at hi h2; rw [hi] at h2; cases h2
   ·simp [Array.getElem?_eq_none h'] at h2
  ·exact ih h
theorem wpAnyI_take {cs : List Nat} {i : Nat} (c : Nat) (ps : List Nat) {oi : Oper} {v : Value} {fuel : Nat} {listed : Array Bool} {a : Act} {w : World} (hi : ops[i]? = some oi) (hc : c ∈ cs) (hcp : c ∈ ps) (hic : i ∉ cs) (hpath : pathOk md ops i ps = true) (hcl : (ps.all fun p => !listed.getD p true) = true)
  (hs : Region.noSelect ops = true) (hf : Region.free md ops listed i = true) (hr : (Region.ready md ops listed).contains i = true)
  (hQ : ∀ c a w, Q (.panic c) (a.put oi.dst v) w → Q (.panic c) a w) (hy : YieldsIf P ops T oi v a) (hT : T w)
  (h : wpAnyI P md ops Q (Till cs T) fuel (listed.setIfInBounds i true) (a.put oi.dst v) w) : wpAnyI P md ops Q (Till cs T) (fuel + 1) listed a w := by
 refine wpAnyI_first hi (Region.noSelect_spec hs) hQ (fun L => ∀ p ∈ ps, L.getD p true = false) (fun L j hg hu hj hji => ?_) (fun L w hg _ hS => hS ⟨c, hc, hg c hcp⟩) (fun L w => Till.of_set hic) fuel listed a w
  (fun p hp => by have := List.all_eq_true.1 hcl p hp; simpa using this) (Region.free_spec hi hf) (by simpa using hr) hy (fun _ => hT) (fun _ => hT) h
 have hn := path_not hj ps i hpath hu hg
 intro p hp
 show (L.setIfInBounds j true).getD p true = false
 rw [getD_set_ne true (fun e => hn (by rw [e]; exact hp))]
 exact hg p hp
theorem tI (i c : Nat) (ps : List Nat) {cs : List Nat} {oi : Oper} {v : Value} {fuel : Nat} {listed : Array Bool} {a : Act} {w : World}
  (h : wpAnyI P md ops Q (Till cs T) fuel (listed.setIfInBounds i true) (a.put oi.dst v) w) (hi : ops[i]? = some oi := by rfl) (hc : c ∈ cs := by decide) (hcp : c ∈ ps := by decide) (hic : i ∉ cs := by decide) (hpath : pathOk md ops i ps = true := by kernel_rfl) (hcl : (ps.all fun p => !listed.getD p true) = true := by kernel_rfl)
  (hs : Region.noSelect ops = true := by kernel_rfl) (hf : Region.free md ops listed i = true := by kernel_rfl) (hr : (Region.ready md ops listed).contains i = true := by kernel_rfl)
  (hQ : ∀ c a w, Q (.panic c) (a.put oi.dst v) w → Q (.panic c) a w := by exact fun _ _ _ h => h)
  (hy : YieldsIf P ops T oi v a := by (refine Or.inl ⟨by rfl, ?_⟩; intro wq hSw; (try dsimp only at hSw); go_simp; first | done | with_reducible rfl))
  (hT : T w := by assumption) : wpAnyI P md ops Q (Till cs T) (fuel + 1) listed a w := wpAnyI_take c ps hi hc hcp hic hpath hcl hs hf hr hQ hy hT h
def AllReadyI (P : Program) (md : Region.Mode) (ops : Array Oper) (Q : Exit → Act → World → Prop) (S : Array Bool → World → Prop) (fuel : Nat) (listed : Array Bool) (a : Act) (w : World) (rs : List Nat) : Prop :=
 ∀ i ∈ rs, wpOp P ops Q i (fun a' w' => S (listed.setIfInBounds i true) w' ∧ wpAnyI P md ops Q S fuel (listed.setIfInBounds i true) a' w') a w
theorem AllReadyI.nil {fuel : Nat} {listed : Array Bool} {a : Act} {w : World} : AllReadyI P md ops Q S fuel listed a w [] := fun _ h => by cases h
theorem AllReadyI.cons {fuel : Nat} {listed : Array Bool} {a : Act} {w : World} {i : Nat} {o : Oper} {rs : List Nat} (ho : ops[i]? = some o)
  (h : ∀ K' : Act → World → Prop, Shut (∀ a w, S (listed.setIfInBounds i true) w → (S (listed.setIfInBounds i true) w → wpAnyI P md ops Q S fuel (listed.setIfInBounds i true) a w) → K' a w) → if Region.wanted o (yielded ops a.tmps) = true then Oper.wp P o a w K' Q else K' (a.put o.dst undef) w)
  (hs : AllReadyI P md ops Q S fuel listed a w rs) : AllReadyI P md ops Q S fuel listed a w (i :: rs) := fun j hj => by
 rcases List.mem_cons.1 hj with rfl | hj
 ·exact wpOp_step ho (fun K' hK => h K' (fun a w hS hW => hK a w ⟨hS, hW hS⟩))
 ·exact hs j hj
theorem AllReadyI.consT {cs : List Nat} {fuel : Nat} {listed : Array Bool} {a : Act} {w : World} {i : Nat} {o : Oper} {rs : List Nat} (ho : ops[i]? = some o)
  (h : ∀ K' : Act → World → Prop, Shut (∀ a w, T w → (T w → wpAnyI P md ops Q (Till cs T) fuel (listed.setIfInBounds i true) a w) → K' a w) → if Region.wanted o (yielded ops a.tmps) = true then Oper.wp P o a w K' Q else K' (a.put o.dst undef) w)
  (hs : AllReadyI P md ops Q (Till cs T) fuel listed a w rs) : AllReadyI P md ops Q (Till cs T) fuel listed a w (i :: rs) :=
 .cons ho (fun K' hK => h K' (fun a w hT hW => hK.out a w (fun _ => hT) (fun _ => hW hT))) hs
theorem AllReadyI.consD {cs : List Nat} {fuel : Nat} {listed : Array Bool} {a : Act} {w : World} {i : Nat} {o : Oper} {rs : List Nat} (ho : ops[i]? = some o) (hd : (cs.all fun c => (listed.setIfInBounds i true).getD c true) = true)
  (h : ∀ K' : Act → World → Prop, Shut (∀ a w, wpAnyI P md ops Q (Till cs T) fuel (listed.setIfInBounds i true) a w → K' a w) → if Region.wanted o (yielded ops a.tmps) = true then Oper.wp P o a w K' Q else K' (a.put o.dst undef) w)
  (hs : AllReadyI P md ops Q (Till cs T) fuel listed a w rs) : AllReadyI P md ops Q (Till cs T) fuel listed a w (i :: rs) :=
 .cons ho (fun K' hK => h K' (fun a w hW => hK.out a w (fun ⟨c, hc, hL⟩ => by have := List.all_eq_true.1 hd c hc; rw [hL] at this; cases this) (fun _ => hW))) hs
theorem wpAnyI_ready {rs : List Nat} {fuel : Nat} {listed : Array Bool} {a : Act} {w : World} (hr : Region.ready md ops listed = rs) (hne : rs ≠ [])
  (h : AllReadyI P md ops Q S fuel listed a w rs) : wpAnyI P md ops Q S (fuel + 1) listed a w := ⟨fun h0 => absurd (hr ▸ h0) hne, hr ▸ h⟩
theorem wpAnyI_done {listed : Array Bool} {a : Act} {w : World} (hr : Region.ready md ops listed = []) (h : Q .normal a w) : ∀ fuel, wpAnyI P md ops Q S fuel listed a w
 | 0 => ⟨hr, h⟩
 | _ + 1 => ⟨fun _ => h, by rw [hr]; simp⟩
theorem wp_region_till {id : Nat} {a : Act} {w : World} (cs : List Nat) (T : World → Prop) (hm : P.follows .mixedOrders = true) (hS : T w.drew)
  (h : T w.drew → wpAnyI P .any ops Q (Till cs T) ops.size (Array.replicate ops.size false) a w.drew) : (Code.region id ops true).wp P Q a w :=
 wp_region_any hm (wpAny_of_I _ _ _ _ (h hS))
end
end Go.Proofs.YtchilcchogcibaaGreatDoor
