/- A region that draws its order, where what is read holds until some operations are done: how it is walked (what OrdersL says of it, but for its definitions). No program in sight. The statement parser's value, and what stands behind INSERT, as plain functions. Condition: no more than 990 tokens that memory reaches, below the parser, of texts no longer than a thousand; strconv's errors lie as they were laid. The statement parser's statement, and stmt.Parse, as plain functions: of what stands behind the first word. Condition: what the library's variables hold; no more than 990 tokens, of texts no longer than a thousand. caddislaw05.awake answers true: the chapter's examples. Condition: what the library's variables hold; strconv's errors lie as they were laid. -/
import Derived.Test.YtchilcchogcibaaGreatDoorEAppend
import Derived.Test.YtchilcchogcibaaGreatDoorEFew5
import Derived.Test.YtchilcchogcibaaGreatDoorPsM
import Derived.Deep.AppendLies
namespace Go.Proofs.YtchilcchogcibaaGreatDoor
open Go

section
variable {P : Program} {ops : Array Oper} {Q : Exit → Act → World → Prop} {md : Region.Mode} {S : Array Bool → World → Prop} {T : World → Prop}

theorem wpAny_of_I : ∀ (fuel : Nat) (listed : Array Bool) (a : Act) (w : World), wpAnyI P md ops Q S fuel listed a w → wpAny P md ops Q fuel listed a w
  | 0, _, _, _, h => h
  | fuel + 1, _, _, _, h => ⟨h.1, fun i hi => wpOp_mono (fun a' w' h' => wpAny_of_I fuel _ a' w' h'.2) (h.2 i hi)⟩

/-- Operation i is taken first: it yields v wherever T holds, and T holds as long as i is not listed. -/
theorem wpAnyI_first {i : Nat} {oi : Oper} {v : Value} (hi : ops[i]? = some oi) (hsel : ∀ (j : Nat) (o : Oper) cs b, ops[j]? = some o → o.op ≠ .select cs b)
    (hQ : ∀ c a w, Q (.panic c) (a.put oi.dst v) w → Q (.panic c) a w)
    (G : Array Bool → Prop) (hG : ∀ L j, G L → L.getD i true = false → j ∈ Region.ready md ops L → j ≠ i → G (L.setIfInBounds j true))
    (hS : ∀ L w, G L → L.getD i true = false → S L w → T w) (hSi : ∀ L w, S (L.setIfInBounds i true) w → S L w) :
    ∀ (fuel : Nat) (listed : Array Bool) (a : Act) (w : World), G listed →
      (∀ j oj, ops[j]? = some oj → j ≠ i → listed.getD j true = false → (∀ e ∈ oj.after, Region.binds md e = true → e.on ≠ i) → oi.apart ops oj = true) →
      i ∈ Region.ready md ops listed → YieldsIf P ops T oi v a → S listed w → S (listed.setIfInBounds i true) w →
      wpAnyI P md ops Q S fuel (listed.setIfInBounds i true) (a.put oi.dst v) w → wpAnyI P md ops Q S (fuel + 1) listed a w := by
  intro fuel
  induction fuel with
  | zero =>
    intro listed a w hg _ hr hy hS0 hS1 H
    refine ⟨fun h => (by rw [h] at hr; cases hr), fun j hj => ?_⟩
    by_cases hji : j = i
    · subst hji; exact hy.wpOp hi (hS _ _ hg (mem_ready.1 hr).1 hS0) ⟨hS1, H⟩
    · have := ready_mono hj hji
      rw [H.1] at this
      cases this
  | succ fuel ih =>
    intro listed a w hg hfree hr hy hS0 hS1 H
    refine ⟨fun h => (by rw [h] at hr; cases hr), fun j hj => ?_⟩
    by_cases hji : j = i
    · subst hji; exact hy.wpOp hi (hS _ _ hg (mem_ready.1 hr).1 hS0) ⟨hS1, H⟩
    · have h1 := H.2 j (ready_mono hj hji)
      obtain ⟨hjun, oj, hoj, hall⟩ := mem_ready.1 hj
      have hnot : ∀ e ∈ oj.after, Region.binds md e = true → e.on ≠ i := fun e he hb heq => by
        have h1 := hall e he hb
        have h0 := (mem_ready.1 hr).1
        rw [heq] at h1
        rcases Nat.lt_or_ge i listed.size with h' | h'
        · simp [h'] at h0 h1; rw [h0] at h1; cases h1
        · simp [Array.getElem?_eq_none h'] at h1
      have h2 := wpOp_putIf hoj (hfree j oj hoj hji hjun hnot) (fun cs b => hsel i oi cs b hi) (fun cs b => hsel j oj cs b hoj) hQ hy h1
      have hfree' : ∀ k ok, ops[k]? = some ok → k ≠ i → (listed.setIfInBounds j true).getD k true = false →
          (∀ e ∈ ok.after, Region.binds md e = true → e.on ≠ i) → oi.apart ops ok = true := fun k ok hk hki hun hno => by
        refine hfree k ok hk hki ?_ hno
        by_cases hjk : j = k
        · subst hjk; exact hjun
        · rw [getD_set_ne true hjk] at hun; exact hun
      refine wpOp_mono (fun a' w' h3 => ?_) h2
      obtain ⟨h4, h5, h6⟩ := h3
      rw [Array.setIfInBounds_comm _ _ (Ne.symm hji)] at h5 h6
      exact ⟨hSi _ _ h5, ih (listed.setIfInBounds j true) a' w' (hG _ _ hg (mem_ready.1 hr).1 hj hji) hfree' (ready_mono hr (Ne.symm hji)) h4 (hSi _ _ h5) h5 h6⟩

theorem Till.of_set {cs : List Nat} {i : Nat} (h : i ∉ cs) {L : Array Bool} {w : World} (hs : Till cs T (L.setIfInBounds i true) w) : Till cs T L w := fun ⟨c, hc, hL⟩ => by
  refine hs ⟨c, hc, ?_⟩
  rw [getD_set_ne true (fun e => h (by rw [e]; exact hc))]
  exact hL
/-- Each of these waits for the one ahead of it, the first one for i. -/
def pathOk (md : Region.Mode) (ops : Array Oper) : Nat → List Nat → Bool
  | _, [] => true
  | i, p :: r => (match ops[p]? with | some o => o.after.any fun e => Region.binds md e && e.on == i | none => false) && pathOk md ops p r
theorem path_not {L : Array Bool} {j : Nat} (hj : j ∈ Region.ready md ops L) : ∀ (ps : List Nat) (i : Nat), pathOk md ops i ps = true → L.getD i true = false → (∀ p ∈ ps, L.getD p true = false) → j ∉ ps
  | [], _, _, _, _ => by simp
  | p :: r, i, hp, hi, hu => by
    unfold pathOk at hp
    simp only [Bool.and_eq_true] at hp
    have hup := hu p (by simp)
    have ih := path_not hj r p hp.2 hup (fun q hq => hu q (by simp [hq]))
    intro hm
    rcases List.mem_cons.1 hm with h | h
    · subst h
      obtain ⟨_, oj, hoj, hall⟩ := mem_ready.1 hj
      have h1 := hp.1
      rw [hoj] at h1
      simp only at h1
      obtain ⟨e, hem, heb⟩ := Array.any_eq_true'.1 h1
      simp only [Bool.and_eq_true, beq_iff_eq] at heb
      have h2 := hall e hem heb.1
      rw [heb.2] at h2
      rcases Nat.lt_or_ge i L.size with h' | h'
      · simp [h'] at hi h2; rw [hi] at h2; cases h2
      · simp [Array.getElem?_eq_none h'] at h2
    · exact ih h
/-- A read that an operation of cs waits for, through those of ps. -/
theorem wpAnyI_take {cs : List Nat} {i : Nat} (c : Nat) (ps : List Nat) {oi : Oper} {v : Value} {fuel : Nat} {listed : Array Bool} {a : Act} {w : World} (hi : ops[i]? = some oi) (hc : c ∈ cs) (hcp : c ∈ ps) (hic : i ∉ cs) (hpath : pathOk md ops i ps = true) (hcl : (ps.all fun p => !listed.getD p true) = true)
    (hs : Region.noSelect ops = true) (hf : Region.free md ops listed i = true) (hr : (Region.ready md ops listed).contains i = true)
    (hQ : ∀ c a w, Q (.panic c) (a.put oi.dst v) w → Q (.panic c) a w) (hy : YieldsIf P ops T oi v a) (hT : T w)
    (h : wpAnyI P md ops Q (Till cs T) fuel (listed.setIfInBounds i true) (a.put oi.dst v) w) : wpAnyI P md ops Q (Till cs T) (fuel + 1) listed a w := by
  refine wpAnyI_first hi (Region.noSelect_spec hs) hQ (fun L => ∀ p ∈ ps, L.getD p true = false) (fun L j hg hu hj hji => ?_) (fun L w hg _ hS => hS ⟨c, hc, hg c hcp⟩) (fun L w => Till.of_set hic) fuel listed a w
    (fun p hp => by have := List.all_eq_true.1 hcl p hp; simpa using this) (Region.free_spec hi hf) (by simpa using hr) hy (fun _ => hT) (fun _ => hT) h
  have hn := path_not hj ps i hpath hu hg
  intro p hp
  show (L.setIfInBounds j true).getD p true = false
  rw [getD_set_ne true (fun e => hn (by rw [e]; exact hp))]
  exact hg p hp
/-- What yields in whatever world. -/
theorem wpAnyI_take0 {cs : List Nat} {i : Nat} {oi : Oper} {v : Value} {fuel : Nat} {listed : Array Bool} {a : Act} {w : World} (hi : ops[i]? = some oi) (hic : i ∉ cs)
    (hs : Region.noSelect ops = true) (hf : Region.free md ops listed i = true) (hr : (Region.ready md ops listed).contains i = true)
    (hQ : ∀ c a w, Q (.panic c) (a.put oi.dst v) w → Q (.panic c) a w) (hy : YieldsIf P ops (fun _ => True) oi v a) (hS : Till cs T listed w)
    (h : wpAnyI P md ops Q (Till cs T) fuel (listed.setIfInBounds i true) (a.put oi.dst v) w) : wpAnyI P md ops Q (Till cs T) (fuel + 1) listed a w :=
  wpAnyI_first hi (Region.noSelect_spec hs) hQ (fun _ => True) (fun _ _ _ _ _ _ => trivial) (fun _ _ _ _ _ => trivial) (fun L w => Till.of_set hic) fuel listed a w trivial (Region.free_spec hi hf) (by simpa using hr) hy hS hS.set h
/-- The same, as short words. -/
theorem tI (i c : Nat) (ps : List Nat) {cs : List Nat} {oi : Oper} {v : Value} {fuel : Nat} {listed : Array Bool} {a : Act} {w : World}
    (h : wpAnyI P md ops Q (Till cs T) fuel (listed.setIfInBounds i true) (a.put oi.dst v) w) (hi : ops[i]? = some oi := by rfl) (hc : c ∈ cs := by decide) (hcp : c ∈ ps := by decide) (hic : i ∉ cs := by decide) (hpath : pathOk md ops i ps = true := by kernel_rfl) (hcl : (ps.all fun p => !listed.getD p true) = true := by kernel_rfl)
    (hs : Region.noSelect ops = true := by kernel_rfl) (hf : Region.free md ops listed i = true := by kernel_rfl) (hr : (Region.ready md ops listed).contains i = true := by kernel_rfl)
    (hQ : ∀ c a w, Q (.panic c) (a.put oi.dst v) w → Q (.panic c) a w := by exact fun _ _ _ h => h)
    (hy : YieldsIf P ops T oi v a := by (refine Or.inl ⟨by rfl, ?_⟩; intro wq hSw; (try dsimp only at hSw); go_simp; first | done | with_reducible rfl))
    (hT : T w := by assumption) : wpAnyI P md ops Q (Till cs T) (fuel + 1) listed a w := wpAnyI_take c ps hi hc hcp hic hpath hcl hs hf hr hQ hy hT h
theorem tI0 (i : Nat) {cs : List Nat} {oi : Oper} {v : Value} {fuel : Nat} {listed : Array Bool} {a : Act} {w : World}
    (h : wpAnyI P md ops Q (Till cs T) fuel (listed.setIfInBounds i true) (a.put oi.dst v) w) (hi : ops[i]? = some oi := by rfl) (hic : i ∉ cs := by decide)
    (hs : Region.noSelect ops = true := by kernel_rfl) (hf : Region.free md ops listed i = true := by kernel_rfl) (hr : (Region.ready md ops listed).contains i = true := by kernel_rfl)
    (hQ : ∀ c a w, Q (.panic c) (a.put oi.dst v) w → Q (.panic c) a w := by exact fun _ _ _ h => h)
    (hy : YieldsIf P ops (fun _ => True) oi v a := by (refine Or.inl ⟨by rfl, ?_⟩; intro wq hSw; go_simp; first | done | with_reducible rfl))
    (hS : Till cs T listed w := by first | assumption | exact fun _ => by assumption) : wpAnyI P md ops Q (Till cs T) (fuel + 1) listed a w := wpAnyI_take0 hi hic hs hf hr hQ hy hS h
theorem AllReadyI.consT {cs : List Nat} {fuel : Nat} {listed : Array Bool} {a : Act} {w : World} {i : Nat} {o : Oper} {rs : List Nat} (ho : ops[i]? = some o)
    (h : ∀ K' : Act → World → Prop, Shut (∀ a w, T w → (T w → wpAnyI P md ops Q (Till cs T) fuel (listed.setIfInBounds i true) a w) → K' a w) → if Region.wanted o (yielded ops a.tmps) = true then Oper.wp P o a w K' Q else K' (a.put o.dst undef) w)
    (hs : AllReadyI P md ops Q (Till cs T) fuel listed a w rs) : AllReadyI P md ops Q (Till cs T) fuel listed a w (i :: rs) :=
  .cons ho (fun K' hK => h K' (fun a w hT hW => hK.out a w (fun _ => hT) (fun _ => hW hT))) hs
theorem AllReadyI.consD {cs : List Nat} {fuel : Nat} {listed : Array Bool} {a : Act} {w : World} {i : Nat} {o : Oper} {rs : List Nat} (ho : ops[i]? = some o) (hd : (cs.all fun c => (listed.setIfInBounds i true).getD c true) = true)
    (h : ∀ K' : Act → World → Prop, Shut (∀ a w, wpAnyI P md ops Q (Till cs T) fuel (listed.setIfInBounds i true) a w → K' a w) → if Region.wanted o (yielded ops a.tmps) = true then Oper.wp P o a w K' Q else K' (a.put o.dst undef) w)
    (hs : AllReadyI P md ops Q (Till cs T) fuel listed a w rs) : AllReadyI P md ops Q (Till cs T) fuel listed a w (i :: rs) :=
  .cons ho (fun K' hK => h K' (fun a w hW => hK.out a w (fun ⟨c, hc, hL⟩ => by have := List.all_eq_true.1 hd c hc; rw [hL] at this; cases this) (fun _ => hW))) hs
theorem wpAnyI_ready {rs : List Nat} {fuel : Nat} {listed : Array Bool} {a : Act} {w : World} (hr : Region.ready md ops listed = rs) (hne : rs ≠ [])
    (h : AllReadyI P md ops Q S fuel listed a w rs) : wpAnyI P md ops Q S (fuel + 1) listed a w := ⟨fun h0 => absurd (hr ▸ h0) hne, hr ▸ h⟩
theorem wpAnyI_done {listed : Array Bool} {a : Act} {w : World} (hr : Region.ready md ops listed = []) (h : Q .normal a w) : ∀ fuel, wpAnyI P md ops Q S fuel listed a w
  | 0 => ⟨hr, h⟩
  | _ + 1 => ⟨fun _ => h, by rw [hr]; simp⟩
theorem wp_region_till {id : Nat} {a : Act} {w : World} (cs : List Nat) (T : World → Prop) (hm : P.follows .mixedOrders = true) (hS : T w.drew)
    (h : T w.drew → wpAnyI P .any ops Q (Till cs T) ops.size (Array.replicate ops.size false) a w.drew) : (Code.region id ops true).wp P Q a w :=
  wp_region_any hm (wpAny_of_I _ _ _ _ (h hS))
end

end Go.Proofs.YtchilcchogcibaaGreatDoor

namespace Go.Proofs.YtchilcchogcibaaGreatDoor
open Go.RowKit

attribute [local go_sem] ByteArray.extract_mk ba_get ba_append
attribute [local go_sem ↓] Go.wp_at_zero Go.wp_at_succ run_eql_V run_neq_V

/-- The value at a place, of so many tokens, and what stands behind it. -/
def valN (l : List Tok) (a n : Nat) : Option (V × Nat) := if a + n ≤ l.length then (if (parseX ((l.drop a).take n)).2.2 = 0 ∧ (parseX ((l.drop a).take n)).2.1 = n ∧ (parseX ((l.drop a).take n)).1.op = [108, 105, 116] then some ((parseX ((l.drop a).take n)).1.v, a + n) else none) else none
def valueAt (l : List Tok) (a : Nat) : Option (V × Nat) := if hit l a [45] then valN l a 2 else valN l a 1
theorem valN_le {l : List Tok} {a n : Nat} {r : V × Nat} (h : valN l a n = some r) : r.2 = a + n ∧ a + n ≤ l.length := by
  unfold valN at h
  split at h
  · rename_i h1
    split at h
    · injection h with h
      subst h
      exact ⟨rfl, h1⟩
    · cases h
  · cases h
theorem valueAt_le {l : List Tok} {a : Nat} {r : V × Nat} (h : valueAt l a = some r) : a < r.2 ∧ r.2 ≤ l.length := by
  unfold valueAt at h
  split at h <;> (have := valN_le h; omega)
theorem tk_take {w : World} {B : Nat} {A : Option Addr} {l : List Tok} (h : TkS w B A l) (n : Nat) : TkS w B A (l.take n) := by
  intro hl
  rw [List.length_take] at hl
  obtain ⟨b, o, rfl, hb, hr⟩ := h (by omega)
  refine ⟨b, o, rfl, hb, fun i v hv => hr i v ?_⟩
  rw [List.getElem?_take] at hv
  split at hv
  · exact hv
  · cases hv
/-- What value leaves. -/
def RetVr (r : Option (V × Nat)) (g b o : Nat) (w : World) (en : Ending) (w' : World) : Prop :=
  match r with
  | none => en = .returned (.bool false) ∧ Below w.heap.size w w'
  | some r => ∃ w1, en = .returned (.bool true) ∧ Below w.heap.size w w1 ∧ fitI r.1.i ∧ r.1.s.length ≤ 1000 ∧ w' = (w1.setCells b o r.1.cells).setCell ⟨g, 1, none⟩ (.int .i64 (r.2 : Nat))
/-- An INSERT. -/
def stI (tb : List UInt8) (vs : List V) : St := ⟨[105, 110, 115, 101, 114, 116], tb, [], [], [], [], [], [], ex0, vs, [], ex0, []⟩
def pI (A : Option Addr) (c : Nat) : StP := ⟨slZ, slZ, slZ, slZ, slZ, ⟨A, c⟩, slZ, slZ⟩
/-- What stands behind INSERT. -/
def insertP (l : List Tok) : Option (St × Nat) :=
  if hit l 1 [73, 78, 84, 79] then (nameAt l 2).bind fun t => if hit l 3 [86, 65, 76, 85, 69, 83] then (if hit l 4 [40] then (listP l (valueAt l) (l.length + 1) 5).bind fun r => if hit l r.2 [41] then some (stI t r.1, r.2 + 1) else none else none) else none else none
theorem grownS (w : World) (p : Addr) (u : Value) : w.grownBy (w.setCell p u) (some p.block) := ⟨rfl, rfl, rfl, by simp, fun k _ hne => Below.heap_setCell w p u k (fun e => hne (by rw [e]))⟩
theorem own_at {w : World} {base : Nat} {e : TypeId} {size : Nat} {v : Value} {n : Nat} {xs : List Value} (h : w.ownsRow base e size v n xs) {p : Addr} (hp : ∀ k, base ≤ k → k < w.heap.size → k ≠ p.block) (u : Value) : (w.setCell p u).ownsRow base e size v n xs :=
  h.kept (grownS w p u) (.inr fun e => hp _ (h.lt _ e).1 (h.lt _ e).2 rfl)
theorem ownBut {g : Nat} {w w' : World} {base : Nat} {e : TypeId} {size : Nat} {v : Value} {n : Nat} {xs : List Value} (h : w.ownsRow base e size v n xs) (hb : But g w w') (hg : g < base) : w'.ownsRow base e size v n xs :=
  ⟨h.1, h.2.imp id fun ⟨k, cap, cur, hv, hk, hh, r⟩ => ⟨k, cap, cur, hv, hk, (hb.block k (Array.getElem?_eq_some_iff.1 hh).1 (by omega)).trans hh, r⟩⟩
theorem PsS.grown {g : Nat} {A : Option Addr} {c : Nat} {l : List Tok} {a : Nat} {cs : Array Value} {w w' : World} {row : Option Nat} (h : PsS g A c l a cs w) (hg : w.grownBy w' row) (hr : ∀ k, row = some k → g < k) : PsS g A c l a cs w' :=
  ⟨h.blk.grown hg (fun e => absurd (hr g e.symm) (Nat.lt_irrefl _)), h.c0, h.c1, h.tk.below (Below.grown (Below.refl g w) hg (Nat.le_of_lt h.blk.lt) (fun k hk => Nat.le_of_lt (hr k hk)))⟩
theorem butGrown {p : Nat} {a w w' : World} {row : Option Nat} (h : But p a w) (hg : w.grownBy w' row) (hr : ∀ k, row = some k → a.heap.size ≤ k) : But p a w' :=
  ⟨hg.os.trans h.os, hg.tape.trans h.tape, hg.output.trans h.output, Nat.le_trans h.size hg.size, fun k hk hp => (hg.block k (Nat.lt_of_lt_of_le hk h.size) (fun e => by have := hr k e.symm; omega)).trans (h.block k hk hp)⟩
theorem vOne (v : V) : v.cells.toArray.all (·.oneCell') = true := by simp [V.cells, Value.oneCell']

set_option maxRecDepth 100000 in
set_option maxHeartbeats 4000000 in
theorem pvalue_raw (g : Nat) (A : Option Addr) (c : Nat) (l : List Tok) (a : Nat) (cs : Array Value) (b o : Nat) (w0 : World) (hp : PsE g c l w0) (ha : a ≤ l.length) (h : PsS g A c l a cs w0) (hb : b ≠ g) (ht : w0.there b o 3) (hbl : b < w0.heap.size) :
    Calls Tryz.prog 171 #[.pointer (some ⟨g, 0, none⟩), .pointer (some ⟨b, o, none⟩)] w0 (RetVr (valueAt l a) g b o w0) := by
  obtain ⟨hl, hs, hc, hE⟩ := hp
  have lp := h.blk.lt
  have HI := Lib.hid (pis_any g A c l a cs [45] w0 h)
  obtain ⟨A1, hA1⟩ : ∃ x, (if c = a then A else A.map (·.add (a * 2))) = x := ⟨_, rfl⟩
  have hT1 := tk_from (a := a) h.tk hc
  rw [hA1] at hT1
  obtain ⟨R, hR⟩ : ∃ R, valueAt l a = R := ⟨_, rfl⟩
  rw [hR]
  unfold valueAt at hR
  obtain ⟨B, hB⟩ : ∃ B, hit l a [45] = B := ⟨_, rfl⟩
  rw [hB] at HI hR
  have HR0 := Lib.hid hR
  have HX0 : Hid (∀ n : Nat, a + n ≤ l.length → ∀ Z : World, Below w0.heap.size w0 Z → Calls Tryz.prog 213 #[.slice A1 n (c - a)] Z (RetParse (parseX ((l.drop a).take n)) Z)) := fun n hn Z hz => by
    have hlen : ((l.drop a).take n).length = n := by rw [List.length_take, List.length_drop]; omega
    have := parseX_any A1 (c - a) ((l.drop a).take n) Z (by omega) (fun t ht => Nat.le_trans (hs t (List.mem_of_mem_drop (List.mem_of_mem_take ht))) (by decide)) (tk_take ((hT1.below (hz.mono (Nat.le_of_lt lp))).more (Nat.le_trans (Nat.le_of_lt lp) hz.size)) n) (hE.below hz (Nat.le_of_lt lp)).out
    rw [hlen] at this
    exact this
  have HS0 : Hid (∀ w' : World, Below w0.heap.size w0 w' → (w'.cell? ⟨g, 0, none⟩ = some (.slice A l.length c) ∧ w'.cell? ⟨g, 1, none⟩ = some (.int .i64 (a : Nat)))) :=
    fun w' hb => ⟨((h.blk.below hb lp).cell 0).trans h.c0, ((h.blk.below hb lp).cell 1).trans h.c1⟩
  have HT0 : Hid (∀ w' : World, Below w0.heap.size w0 w' → w'.there b o 3) := fun w' hb j hj => ⟨by rw [hb.cell (p := ⟨b, o + j, none⟩) hbl]; exact (ht j hj).1, by rw [(bcell hb).2 b (o + j) hbl]; exact (ht j hj).2⟩
  have HF0 := Lib.hid (h.blk.frozen 1)
  have HA1 := Lib.hid hA1
  have HB := Lib.hid hb
  have HLP := Lib.hid lp
  obtain ⟨L, hL⟩ : ∃ L, l.length = L := ⟨_, rfl⟩
  rw [hL] at HX0 HS0 hl ha hc
  have HL := Lib.hid hL
  clear hR hB hT1 hA1 h hE hs ht hb hbl hL lp
  go_enter Tryz.func171, Tryz.ntmps171
  go_wp2_with fail
  refine HI.out.mono ?_
  rintro en w1 ⟨rfl, hb01⟩
  have HB01 := Lib.hid hb01
  have HS1 : Hid (∀ w' : World, Below w1.heap.size w1 w' → (w'.cell? ⟨g, 0, none⟩ = some (.slice A L c) ∧ w'.cell? ⟨g, 1, none⟩ = some (.int .i64 (a : Nat)))) := fun w' hb => HS0.out w' (hb01.trans (hb.mono hb01.size))
  clear hb01 HS0 HI
  cases B with
  | false =>
    go_upto_region 4 with fail
    have hR : valN l a 1 = R := HR0.out
    unfold valN at hR
    have HX := Lib.hid (HX0.out 1)
    by_cases hn : a + 1 ≤ L
    · rw [HL.out, if_pos hn] at hR
      have HX := Lib.hid (HX.out hn)
      obtain ⟨R1, hR1⟩ : ∃ x, parseX ((l.drop a).take 1) = x := ⟨_, rfl⟩
      rw [hR1] at HX hR
      obtain ⟨e, tk, err⟩ := R1
      have HR : Hid ((if err = 0 ∧ tk = 1 ∧ e.op = [108, 105, 116] then some (e.v, a + 1) else none) = R) := hR
      have i1 : (0 : Int) ≤ (a : Int) := by omega
      have i3 : (a : Int) ≤ (a : Int) + 1 := by omega
      have i4 : (a : Int) + 1 ≤ (c : Int) := by omega
      have b0 : ¬ ((L : Int) < (a : Int) + 1) := by omega
      have b1 : (a : Int) + 1 ≤ (L : Int) := by omega
      have wr : IntKind.i64.wrap ((a : Int) + 1) = (a : Int) + 1 := IntWalk.i64_in _ (by omega)
      clear hR hR1 HR0 HX0
      refine rgn HS1 fun hHeld => ?_
      refine tS [0, 1, 2, 3, 4, 5, 6, 7, 8, 9, 10, 11] ?_
      iterate 12 (refine tC ?_; refine ap ?_)
      refine tN ?_
      refine wpAnyH_done (by kernel_rfl) ?_ _
      obtain ⟨w, hw⟩ : ∃ x, World.drew w1 = x := ⟨_, rfl⟩
      rw [hw]
      have hbw1 : Below w1.heap.size w1 w := by rw [← hw]; exact Below.drew (Below.refl _ _)
      have hbw := HB01.out.trans (hbw1.mono HB01.out.size)
      have HSH : Hid (∀ w' : World, Below w.heap.size w w' → (w'.cell? ⟨g, 0, none⟩ = some (.slice A L c) ∧ w'.cell? ⟨g, 1, none⟩ = some (.int .i64 (a : Nat)))) := fun w' hb => HS1.out w' (hbw1.trans (hb.mono hbw1.size))
      have HTH : Hid (∀ w' : World, Below w.heap.size w w' → w'.there b o 3) := fun w' hb => HT0.out w' (hbw.trans (hb.mono hbw.size))
      have HF1 : Hid (w.frozen? ⟨g, 1, none⟩ = false) := by show _ = _; rw [(bcell hbw).2 g 1 HLP.out]; exact HF0.out
      have lp : g < w.heap.size := Nat.lt_of_lt_of_le HLP.out hbw.size
      have HX : Hid (∀ Z : World, Below w.heap.size w Z → Calls Tryz.prog 213 #[.slice A1 1 (c - a)] Z (RetParse (e, tk, err) Z)) := fun Z hz => HX.out Z (hbw.trans (hz.mono hbw.size))
      have HBW := Lib.hid hbw
      clear hw hbw hbw1 HS1 HT0 HF0
      go_upto_region 6 with fail
      refine rgn HSH fun hHeld => ?_
      refine tS [0, 1, 2, 3, 4, 5, 6, 7, 8, 9, 10, 11, 12, 13] ?_
      iterate 14 (refine tC ?_; refine ap ?_)
      refine tN ?_
      refine tS [14] (tC (v := .slice A1 1 (c - a)) (hy := by refine Or.inl ⟨by rfl, ?_⟩; intro wq hSw; (try dsimp only at hSw); go_simp; first | done | (rw [← HA1.out]; done) | (rw [← HA1.out]; refine ⟨rfl, ?_⟩; omega)) ?_) <;> refine ap (tN ?_)
      refine wpAnyH_ready (rs := [15, 20]) (by kernel_rfl) (by simp) ?_
      refine (AllReadyH.cons rfl (fun K hK => ?_) (AllReadyH.cons rfl (fun K hK => ?_) AllReadyH.nil))
      · skip
        go_simp
        refine (HX.out _ (by exact bl)).mono ?_ <;> rintro en w5 ⟨A5, c5, rfl, hE5, hb5⟩ <;> have hz5 := hb5.size <;> have hb15 : Below w.heap.size w w5 := (by first | exact (Below.drew (Below.refl _ w)).trans hb5 | exact ((Below.drew (Below.refl _ w)).alloc (Nat.le_refl _) _).trans (hb5.mono (by simp))) <;> have hz15 := hb15.size <;> (try have HKZ : Hid (Blk w5 w.heap.size 30 #[.string ⟨#[]⟩, .int .i64 0, .int .i64 0, .string ⟨#[]⟩, .string ⟨#[]⟩, .slice none 0 0]) := Blk.below (Blk.new' w.drew w.heap.size _ _ rfl) hb5 (by simp))
        go_wp2_with fail
        refine hK.out _ _ (HSH.out _ (by exact bl)) fun hHeld => ?_
        clear hK K
        refine ap ?_
        refine tS [16, 17, 18, 19] ?_
        iterate 4 (refine tC ?_; refine ap ?_)
        refine tN ?_
        refine rdy 20 fun K hK => ?_
        go_simp
        skip
        go_wp2_with fail
        refine hK.out _ _ (HSH.out _ (by exact bl)) fun hHeld => ?_
        clear hK K
        refine ap ?_
        refine rdy 21 fun K hK => ?_
        first
        |
          refine step_store_row (by rfl) 30 _ _ rfl w5.heap.size (e.cells A5 c5).toArray rfl rfl 30 ⟨#[.string ⟨#[]⟩, .int .i64 0, .int .i64 0, .string ⟨#[]⟩, .string ⟨#[]⟩, .slice none 0 0], rfl, heap_alloc_last _ _⟩ infoE6 (exOne _ _ _) ?_
          refine hK.out _ _ (HSH.out _ (bwRow (by exact bl) hb15.size _)) (fun hHeld => ?_)
          clear hK K
          refine ap ?_
          obtain ⟨w6, hw6⟩ : ∃ x, World.setRow (w5.alloc (.cells #[.string ⟨#[]⟩, .int .i64 0, .int .i64 0, .string ⟨#[]⟩, .string ⟨#[]⟩, .slice none 0 0] 30)) w5.heap.size (e.cells A5 c5).toArray = x := ⟨_, rfl⟩
          have hb6 : Below w.heap.size w w6 := by rw [← hw6]; exact bwRow (by exact bl) hb15.size _
          have k6 : Blk w6 w5.heap.size 30 (e.cells A5 c5).toArray := by rw [← hw6]; exact Blk.row (heap_alloc_last _ _) _
          have hE6 := hE5.keep (Q' := fun x => w.heap.size ≤ x ∧ x < w6.heap.size) (w' := w6) fun x hx => ⟨⟨by first | exact hx.1 | (have := hx.1; simp at this; omega), by rw [← hw6, setRow_size]; have := hx.2; simp; omega⟩, fun o => by rw [← hw6]; exact cell_of_block ((setRow_block _ _ _ _ (by have := hx.2; omega)).trans (Below.heap_alloc _ _ _ hx.2)) o⟩
          have hkw : w.heap.size ≤ w5.heap.size := hb15.size
          have hkl : w5.heap.size < w6.heap.size := k6.lt
          rw [hw6] at hHeld ⊢
          obtain ⟨k, hk⟩ : ∃ k, w5.heap.size = k := ⟨_, rfl⟩
          rw [hk] at k6 hkw hkl ⊢
          clear hw6 hk
        |
          refine step_store_row (by rfl) 30 _ _ rfl w.heap.size (e.cells A5 c5).toArray rfl rfl 30 ⟨#[.string ⟨#[]⟩, .int .i64 0, .int .i64 0, .string ⟨#[]⟩, .string ⟨#[]⟩, .slice none 0 0], rfl, HKZ.out⟩ infoE6 (exOne _ _ _) ?_
          refine hK.out _ _ (HSH.out _ (bwRow hb15 (Nat.le_refl _) _)) (fun hHeld => ?_)
          clear hK K
          refine ap ?_
          obtain ⟨w6, hw6⟩ : ∃ x, World.setRow w5 w.heap.size (e.cells A5 c5).toArray = x := ⟨_, rfl⟩
          have hb6 : Below w.heap.size w w6 := by rw [← hw6]; exact bwRow hb15 (Nat.le_refl _) _
          have k6 : Blk w6 w.heap.size 30 (e.cells A5 c5).toArray := by rw [← hw6]; exact Blk.row HKZ.out _
          have hE6 := hE5.keep (Q' := fun x => w.heap.size ≤ x ∧ x < w6.heap.size) (w' := w6) fun x hx => ⟨⟨by have := hx.1; simp at this; omega, by rw [← hw6, setRow_size]; exact hx.2⟩, fun o => by rw [← hw6]; exact cell_of_block (setRow_block _ _ _ _ (by have := hx.1; simp at this; omega)) o⟩
          have hkw : w.heap.size ≤ w.heap.size := Nat.le_refl _
          have hkl : w.heap.size < w6.heap.size := k6.lt
          rw [hw6] at hHeld ⊢
          obtain ⟨k, hk⟩ : ∃ k, w.heap.size = k := ⟨_, rfl⟩
          rw [show Value.pointer (some ⟨w.heap.size, 0, none⟩) = .pointer (some ⟨k, 0, none⟩) by rw [hk]]
          rw [hk] at k6
          have hkw : w.heap.size ≤ k := Nat.le_of_eq hk
          have hkl : k < w6.heap.size := k6.lt
          clear hw6 hk
        refine tS [22, 23] ?_
        iterate 2 (refine tC ?_; refine ap ?_)
        refine tN ?_
        refine wpAnyH_done (by kernel_rfl) ?_ _
        have HRG : Hid (World.rangeAt w6 k 1 e.v.cells) := fun j v hv => by
          rw [k6.cell]
          rcases j with _ | _ | _ | j
          · exact hv
          · exact hv
          · exact hv
          · simp [V.cells] at hv
        have HT6 := Lib.hid (HTH.out w6 hb6)
        have x1 : w6.cell? ⟨g, 1, none⟩ = some (.int .i64 (a : Nat)) := (HSH.out w6 hb6).2
        have f1 : w6.frozen? ⟨g, 1, none⟩ = false := by rw [(bcell hb6).2 g 1 lp]; exact HF1.out
        have q0 : w6.cell? ⟨k, 0, none⟩ = some (.string ⟨e.op.toArray⟩) := k6.cell 0
        have HE6 := Lib.hid hE6
        have HB6 := Lib.hid (HBW.out.trans (hb6.mono HBW.out.size))
        clear k6 hE5 hE6 hb5 hb15 hz5 hb6
        by_cases he : err = 0
        · subst he
          by_cases ht : tk = 1
          · subst ht
            by_cases ho : e.op = [108, 105, 116]
            · have hR : R = some (e.v, a + 1) := by rw [← HR.out, if_pos ⟨rfl, rfl, ho⟩]
              have eL : (e.op == [108, 105, 116]) = true := by rw [ho]; rfl
              have eN : (e.op != [108, 105, 116]) = false := by rw [bne, eL]; rfl
              subst hR
              obtain ⟨w7, hw7⟩ : ∃ x, w6.setCells b o e.v.cells = x := ⟨_, rfl⟩
              have x7 : w7.cell? ⟨g, 1, none⟩ = some (.int .i64 (a : Nat)) := by
                rw [← hw7, World.cell?_setCells_out _ _ _ _ _ (fun h1 _ => absurd h1.symm HB.out)]
                exact x1
              have f7 : w7.frozen? ⟨g, 1, none⟩ = false := by rw [← hw7, World.frozen?_setCells]; exact f1
              have HW7 := Lib.hid hw7
              clear hw7 x1 f1 ho HR
              go_wp2_with (first | refine wpList_load_midG (by rfl) 27 _ rfl k 1 rfl e.v.cells _ HRG.out Tryz.underlying27 rfl infoV3 ?_ | (refine wpList_store_mid rfl 27 _ _ rfl b o e.v.cells.toArray rfl rfl HT6.out infoV3 (vOne _) ?_; rw [show World.setCells w6 b o _ = w7 from HW7.out]))
              go_ret
              exact ⟨w6, rfl, HB6.out, HE6.out.1.1, HE6.out.1.2.2.2, by rw [show World.setCells w6 b o _ = w7 from HW7.out]; go_num⟩
            · have hR : R = none := by rw [← HR.out, if_neg (fun h => ho h.2.2)]
              have eL : (e.op == [108, 105, 116]) = false := by rw [beq_eq_false_iff_ne]; exact ho
              have eN : (e.op != [108, 105, 116]) = true := by rw [bne, eL]; rfl
              subst hR
              clear x1 f1 ho HR
              go_wp2_with fail
              go_ret
              exact ⟨rfl, HB6.out⟩
          · have hR : R = none := by rw [← HR.out, if_neg (fun h => ht h.2.1)]
            have e1 : ((tk : Int) != 1) = true := by rw [bne_iff_ne]; omega
            have e2 : ((tk : Int) == 1) = false := by rw [beq_eq_false_iff_ne]; omega
            subst hR
            clear x1 f1 ht HR q0
            go_wp2_with fail
            go_ret
            exact ⟨rfl, HB6.out⟩
        · have hR : R = none := by rw [← HR.out, if_neg (fun h => he h.1)]
          have e1 : (err != 0) = true := by simpa using he
          subst hR
          clear x1 f1 he HR q0
          go_wp2_with fail
          go_ret
          exact ⟨rfl, HB6.out⟩
      · skip
        go_simp
        skip
        go_wp2_with fail
        refine hK.out _ _ (HSH.out _ (by exact bl)) fun hHeld => ?_
        clear hK K
        refine ap ?_
        refine rdy 15 fun K hK => ?_
        go_simp
        refine (HX.out _ (by exact bl)).mono ?_ <;> rintro en w5 ⟨A5, c5, rfl, hE5, hb5⟩ <;> have hz5 := hb5.size <;> have hb15 : Below w.heap.size w w5 := (by first | exact (Below.drew (Below.refl _ w)).trans hb5 | exact ((Below.drew (Below.refl _ w)).alloc (Nat.le_refl _) _).trans (hb5.mono (by simp))) <;> have hz15 := hb15.size <;> (try have HKZ : Hid (Blk w5 w.heap.size 30 #[.string ⟨#[]⟩, .int .i64 0, .int .i64 0, .string ⟨#[]⟩, .string ⟨#[]⟩, .slice none 0 0]) := Blk.below (Blk.new' w.drew w.heap.size _ _ rfl) hb5 (by simp))
        go_wp2_with fail
        refine hK.out _ _ (HSH.out _ (by exact bl)) fun hHeld => ?_
        clear hK K
        refine ap ?_
        refine tS [16, 17, 18, 19] ?_
        iterate 4 (refine tC ?_; refine ap ?_)
        refine tN ?_
        refine rdy 21 fun K hK => ?_
        first
        |
          refine step_store_row (by rfl) 30 _ _ rfl w5.heap.size (e.cells A5 c5).toArray rfl rfl 30 ⟨#[.string ⟨#[]⟩, .int .i64 0, .int .i64 0, .string ⟨#[]⟩, .string ⟨#[]⟩, .slice none 0 0], rfl, heap_alloc_last _ _⟩ infoE6 (exOne _ _ _) ?_
          refine hK.out _ _ (HSH.out _ (bwRow (by exact bl) hb15.size _)) (fun hHeld => ?_)
          clear hK K
          refine ap ?_
          obtain ⟨w6, hw6⟩ : ∃ x, World.setRow (w5.alloc (.cells #[.string ⟨#[]⟩, .int .i64 0, .int .i64 0, .string ⟨#[]⟩, .string ⟨#[]⟩, .slice none 0 0] 30)) w5.heap.size (e.cells A5 c5).toArray = x := ⟨_, rfl⟩
          have hb6 : Below w.heap.size w w6 := by rw [← hw6]; exact bwRow (by exact bl) hb15.size _
          have k6 : Blk w6 w5.heap.size 30 (e.cells A5 c5).toArray := by rw [← hw6]; exact Blk.row (heap_alloc_last _ _) _
          have hE6 := hE5.keep (Q' := fun x => w.heap.size ≤ x ∧ x < w6.heap.size) (w' := w6) fun x hx => ⟨⟨by first | exact hx.1 | (have := hx.1; simp at this; omega), by rw [← hw6, setRow_size]; have := hx.2; simp; omega⟩, fun o => by rw [← hw6]; exact cell_of_block ((setRow_block _ _ _ _ (by have := hx.2; omega)).trans (Below.heap_alloc _ _ _ hx.2)) o⟩
          have hkw : w.heap.size ≤ w5.heap.size := hb15.size
          have hkl : w5.heap.size < w6.heap.size := k6.lt
          rw [hw6] at hHeld ⊢
          obtain ⟨k, hk⟩ : ∃ k, w5.heap.size = k := ⟨_, rfl⟩
          rw [hk] at k6 hkw hkl ⊢
          clear hw6 hk
        |
          refine step_store_row (by rfl) 30 _ _ rfl w.heap.size (e.cells A5 c5).toArray rfl rfl 30 ⟨#[.string ⟨#[]⟩, .int .i64 0, .int .i64 0, .string ⟨#[]⟩, .string ⟨#[]⟩, .slice none 0 0], rfl, HKZ.out⟩ infoE6 (exOne _ _ _) ?_
          refine hK.out _ _ (HSH.out _ (bwRow hb15 (Nat.le_refl _) _)) (fun hHeld => ?_)
          clear hK K
          refine ap ?_
          obtain ⟨w6, hw6⟩ : ∃ x, World.setRow w5 w.heap.size (e.cells A5 c5).toArray = x := ⟨_, rfl⟩
          have hb6 : Below w.heap.size w w6 := by rw [← hw6]; exact bwRow hb15 (Nat.le_refl _) _
          have k6 : Blk w6 w.heap.size 30 (e.cells A5 c5).toArray := by rw [← hw6]; exact Blk.row HKZ.out _
          have hE6 := hE5.keep (Q' := fun x => w.heap.size ≤ x ∧ x < w6.heap.size) (w' := w6) fun x hx => ⟨⟨by have := hx.1; simp at this; omega, by rw [← hw6, setRow_size]; exact hx.2⟩, fun o => by rw [← hw6]; exact cell_of_block (setRow_block _ _ _ _ (by have := hx.1; simp at this; omega)) o⟩
          have hkw : w.heap.size ≤ w.heap.size := Nat.le_refl _
          have hkl : w.heap.size < w6.heap.size := k6.lt
          rw [hw6] at hHeld ⊢
          obtain ⟨k, hk⟩ : ∃ k, w.heap.size = k := ⟨_, rfl⟩
          rw [show Value.pointer (some ⟨w.heap.size, 0, none⟩) = .pointer (some ⟨k, 0, none⟩) by rw [hk]]
          rw [hk] at k6
          have hkw : w.heap.size ≤ k := Nat.le_of_eq hk
          have hkl : k < w6.heap.size := k6.lt
          clear hw6 hk
        refine tS [22, 23] ?_
        iterate 2 (refine tC ?_; refine ap ?_)
        refine tN ?_
        refine wpAnyH_done (by kernel_rfl) ?_ _
        have HRG : Hid (World.rangeAt w6 k 1 e.v.cells) := fun j v hv => by
          rw [k6.cell]
          rcases j with _ | _ | _ | j
          · exact hv
          · exact hv
          · exact hv
          · simp [V.cells] at hv
        have HT6 := Lib.hid (HTH.out w6 hb6)
        have x1 : w6.cell? ⟨g, 1, none⟩ = some (.int .i64 (a : Nat)) := (HSH.out w6 hb6).2
        have f1 : w6.frozen? ⟨g, 1, none⟩ = false := by rw [(bcell hb6).2 g 1 lp]; exact HF1.out
        have q0 : w6.cell? ⟨k, 0, none⟩ = some (.string ⟨e.op.toArray⟩) := k6.cell 0
        have HE6 := Lib.hid hE6
        have HB6 := Lib.hid (HBW.out.trans (hb6.mono HBW.out.size))
        clear k6 hE5 hE6 hb5 hb15 hz5 hb6
        by_cases he : err = 0
        · subst he
          by_cases ht : tk = 1
          · subst ht
            by_cases ho : e.op = [108, 105, 116]
            · have hR : R = some (e.v, a + 1) := by rw [← HR.out, if_pos ⟨rfl, rfl, ho⟩]
              have eL : (e.op == [108, 105, 116]) = true := by rw [ho]; rfl
              have eN : (e.op != [108, 105, 116]) = false := by rw [bne, eL]; rfl
              subst hR
              obtain ⟨w7, hw7⟩ : ∃ x, w6.setCells b o e.v.cells = x := ⟨_, rfl⟩
              have x7 : w7.cell? ⟨g, 1, none⟩ = some (.int .i64 (a : Nat)) := by
                rw [← hw7, World.cell?_setCells_out _ _ _ _ _ (fun h1 _ => absurd h1.symm HB.out)]
                exact x1
              have f7 : w7.frozen? ⟨g, 1, none⟩ = false := by rw [← hw7, World.frozen?_setCells]; exact f1
              have HW7 := Lib.hid hw7
              clear hw7 x1 f1 ho HR
              go_wp2_with (first | refine wpList_load_midG (by rfl) 27 _ rfl k 1 rfl e.v.cells _ HRG.out Tryz.underlying27 rfl infoV3 ?_ | (refine wpList_store_mid rfl 27 _ _ rfl b o e.v.cells.toArray rfl rfl HT6.out infoV3 (vOne _) ?_; rw [show World.setCells w6 b o _ = w7 from HW7.out]))
              go_ret
              exact ⟨w6, rfl, HB6.out, HE6.out.1.1, HE6.out.1.2.2.2, by rw [show World.setCells w6 b o _ = w7 from HW7.out]; go_num⟩
            · have hR : R = none := by rw [← HR.out, if_neg (fun h => ho h.2.2)]
              have eL : (e.op == [108, 105, 116]) = false := by rw [beq_eq_false_iff_ne]; exact ho
              have eN : (e.op != [108, 105, 116]) = true := by rw [bne, eL]; rfl
              subst hR
              clear x1 f1 ho HR
              go_wp2_with fail
              go_ret
              exact ⟨rfl, HB6.out⟩
          · have hR : R = none := by rw [← HR.out, if_neg (fun h => ht h.2.1)]
            have e1 : ((tk : Int) != 1) = true := by rw [bne_iff_ne]; omega
            have e2 : ((tk : Int) == 1) = false := by rw [beq_eq_false_iff_ne]; omega
            subst hR
            clear x1 f1 ht HR q0
            go_wp2_with fail
            go_ret
            exact ⟨rfl, HB6.out⟩
        · have hR : R = none := by rw [← HR.out, if_neg (fun h => he h.1)]
          have e1 : (err != 0) = true := by simpa using he
          subst hR
          clear x1 f1 he HR q0
          go_wp2_with fail
          go_ret
          exact ⟨rfl, HB6.out⟩
    · rw [HL.out, if_neg hn] at hR
      subst hR
      have b0 : (L : Int) < (a : Int) + 1 := by omega
      have wr : IntKind.i64.wrap ((a : Int) + 1) = (a : Int) + 1 := IntWalk.i64_in _ (by omega)
      clear HR0 HX0 HX
      refine rgn HS1 fun hHeld => ?_
      refine tS [0, 1, 2, 3, 4, 5, 6, 7, 8, 9, 10, 11] ?_
      iterate 12 (refine tC ?_; refine ap ?_)
      refine tN ?_
      refine wpAnyH_done (by kernel_rfl) ?_ _
      go_wp2_with fail
      go_ret
      exact ⟨rfl, HB01.out.drew⟩
  | true =>
    go_upto_region 4 with fail
    have hR : valN l a 2 = R := HR0.out
    unfold valN at hR
    have HX := Lib.hid (HX0.out 2)
    by_cases hn : a + 2 ≤ L
    · rw [HL.out, if_pos hn] at hR
      have HX := Lib.hid (HX.out hn)
      obtain ⟨R1, hR1⟩ : ∃ x, parseX ((l.drop a).take 2) = x := ⟨_, rfl⟩
      rw [hR1] at HX hR
      obtain ⟨e, tk, err⟩ := R1
      have HR : Hid ((if err = 0 ∧ tk = 2 ∧ e.op = [108, 105, 116] then some (e.v, a + 2) else none) = R) := hR
      have i1 : (0 : Int) ≤ (a : Int) := by omega
      have i3 : (a : Int) ≤ (a : Int) + 2 := by omega
      have i4 : (a : Int) + 2 ≤ (c : Int) := by omega
      have b0 : ¬ ((L : Int) < (a : Int) + 2) := by omega
      have b1 : (a : Int) + 2 ≤ (L : Int) := by omega
      have wr : IntKind.i64.wrap ((a : Int) + 2) = (a : Int) + 2 := IntWalk.i64_in _ (by omega)
      clear hR hR1 HR0 HX0
      refine rgn HS1 fun hHeld => ?_
      refine tS [0, 1, 2, 3, 4, 5, 6, 7, 8, 9, 10, 11] ?_
      iterate 12 (refine tC ?_; refine ap ?_)
      refine tN ?_
      refine wpAnyH_done (by kernel_rfl) ?_ _
      obtain ⟨w, hw⟩ : ∃ x, World.drew w1 = x := ⟨_, rfl⟩
      rw [hw]
      have hbw1 : Below w1.heap.size w1 w := by rw [← hw]; exact Below.drew (Below.refl _ _)
      have hbw := HB01.out.trans (hbw1.mono HB01.out.size)
      have HSH : Hid (∀ w' : World, Below w.heap.size w w' → (w'.cell? ⟨g, 0, none⟩ = some (.slice A L c) ∧ w'.cell? ⟨g, 1, none⟩ = some (.int .i64 (a : Nat)))) := fun w' hb => HS1.out w' (hbw1.trans (hb.mono hbw1.size))
      have HTH : Hid (∀ w' : World, Below w.heap.size w w' → w'.there b o 3) := fun w' hb => HT0.out w' (hbw.trans (hb.mono hbw.size))
      have HF1 : Hid (w.frozen? ⟨g, 1, none⟩ = false) := by show _ = _; rw [(bcell hbw).2 g 1 HLP.out]; exact HF0.out
      have lp : g < w.heap.size := Nat.lt_of_lt_of_le HLP.out hbw.size
      have HX : Hid (∀ Z : World, Below w.heap.size w Z → Calls Tryz.prog 213 #[.slice A1 2 (c - a)] Z (RetParse (e, tk, err) Z)) := fun Z hz => HX.out Z (hbw.trans (hz.mono hbw.size))
      have HBW := Lib.hid hbw
      clear hw hbw hbw1 HS1 HT0 HF0
      go_upto_region 6 with fail
      refine rgn HSH fun hHeld => ?_
      refine tS [0, 1, 2, 3, 4, 5, 6, 7, 8, 9, 10, 11, 12, 13] ?_
      iterate 14 (refine tC ?_; refine ap ?_)
      refine tN ?_
      refine tS [14] (tC (v := .slice A1 2 (c - a)) (hy := by refine Or.inl ⟨by rfl, ?_⟩; intro wq hSw; (try dsimp only at hSw); go_simp; first | done | (rw [← HA1.out]; done) | (rw [← HA1.out]; refine ⟨rfl, ?_⟩; omega)) ?_) <;> refine ap (tN ?_)
      refine wpAnyH_ready (rs := [15, 20]) (by kernel_rfl) (by simp) ?_
      refine (AllReadyH.cons rfl (fun K hK => ?_) (AllReadyH.cons rfl (fun K hK => ?_) AllReadyH.nil))
      · skip
        go_simp
        refine (HX.out _ (by exact bl)).mono ?_ <;> rintro en w5 ⟨A5, c5, rfl, hE5, hb5⟩ <;> have hz5 := hb5.size <;> have hb15 : Below w.heap.size w w5 := (by first | exact (Below.drew (Below.refl _ w)).trans hb5 | exact ((Below.drew (Below.refl _ w)).alloc (Nat.le_refl _) _).trans (hb5.mono (by simp))) <;> have hz15 := hb15.size <;> (try have HKZ : Hid (Blk w5 w.heap.size 30 #[.string ⟨#[]⟩, .int .i64 0, .int .i64 0, .string ⟨#[]⟩, .string ⟨#[]⟩, .slice none 0 0]) := Blk.below (Blk.new' w.drew w.heap.size _ _ rfl) hb5 (by simp))
        go_wp2_with fail
        refine hK.out _ _ (HSH.out _ (by exact bl)) fun hHeld => ?_
        clear hK K
        refine ap ?_
        refine tS [16, 17, 18, 19] ?_
        iterate 4 (refine tC ?_; refine ap ?_)
        refine tN ?_
        refine rdy 20 fun K hK => ?_
        go_simp
        skip
        go_wp2_with fail
        refine hK.out _ _ (HSH.out _ (by exact bl)) fun hHeld => ?_
        clear hK K
        refine ap ?_
        refine rdy 21 fun K hK => ?_
        first
        |
          refine step_store_row (by rfl) 30 _ _ rfl w5.heap.size (e.cells A5 c5).toArray rfl rfl 30 ⟨#[.string ⟨#[]⟩, .int .i64 0, .int .i64 0, .string ⟨#[]⟩, .string ⟨#[]⟩, .slice none 0 0], rfl, heap_alloc_last _ _⟩ infoE6 (exOne _ _ _) ?_
          refine hK.out _ _ (HSH.out _ (bwRow (by exact bl) hb15.size _)) (fun hHeld => ?_)
          clear hK K
          refine ap ?_
          obtain ⟨w6, hw6⟩ : ∃ x, World.setRow (w5.alloc (.cells #[.string ⟨#[]⟩, .int .i64 0, .int .i64 0, .string ⟨#[]⟩, .string ⟨#[]⟩, .slice none 0 0] 30)) w5.heap.size (e.cells A5 c5).toArray = x := ⟨_, rfl⟩
          have hb6 : Below w.heap.size w w6 := by rw [← hw6]; exact bwRow (by exact bl) hb15.size _
          have k6 : Blk w6 w5.heap.size 30 (e.cells A5 c5).toArray := by rw [← hw6]; exact Blk.row (heap_alloc_last _ _) _
          have hE6 := hE5.keep (Q' := fun x => w.heap.size ≤ x ∧ x < w6.heap.size) (w' := w6) fun x hx => ⟨⟨by first | exact hx.1 | (have := hx.1; simp at this; omega), by rw [← hw6, setRow_size]; have := hx.2; simp; omega⟩, fun o => by rw [← hw6]; exact cell_of_block ((setRow_block _ _ _ _ (by have := hx.2; omega)).trans (Below.heap_alloc _ _ _ hx.2)) o⟩
          have hkw : w.heap.size ≤ w5.heap.size := hb15.size
          have hkl : w5.heap.size < w6.heap.size := k6.lt
          rw [hw6] at hHeld ⊢
          obtain ⟨k, hk⟩ : ∃ k, w5.heap.size = k := ⟨_, rfl⟩
          rw [hk] at k6 hkw hkl ⊢
          clear hw6 hk
        |
          refine step_store_row (by rfl) 30 _ _ rfl w.heap.size (e.cells A5 c5).toArray rfl rfl 30 ⟨#[.string ⟨#[]⟩, .int .i64 0, .int .i64 0, .string ⟨#[]⟩, .string ⟨#[]⟩, .slice none 0 0], rfl, HKZ.out⟩ infoE6 (exOne _ _ _) ?_
          refine hK.out _ _ (HSH.out _ (bwRow hb15 (Nat.le_refl _) _)) (fun hHeld => ?_)
          clear hK K
          refine ap ?_
          obtain ⟨w6, hw6⟩ : ∃ x, World.setRow w5 w.heap.size (e.cells A5 c5).toArray = x := ⟨_, rfl⟩
          have hb6 : Below w.heap.size w w6 := by rw [← hw6]; exact bwRow hb15 (Nat.le_refl _) _
          have k6 : Blk w6 w.heap.size 30 (e.cells A5 c5).toArray := by rw [← hw6]; exact Blk.row HKZ.out _
          have hE6 := hE5.keep (Q' := fun x => w.heap.size ≤ x ∧ x < w6.heap.size) (w' := w6) fun x hx => ⟨⟨by have := hx.1; simp at this; omega, by rw [← hw6, setRow_size]; exact hx.2⟩, fun o => by rw [← hw6]; exact cell_of_block (setRow_block _ _ _ _ (by have := hx.1; simp at this; omega)) o⟩
          have hkw : w.heap.size ≤ w.heap.size := Nat.le_refl _
          have hkl : w.heap.size < w6.heap.size := k6.lt
          rw [hw6] at hHeld ⊢
          obtain ⟨k, hk⟩ : ∃ k, w.heap.size = k := ⟨_, rfl⟩
          rw [show Value.pointer (some ⟨w.heap.size, 0, none⟩) = .pointer (some ⟨k, 0, none⟩) by rw [hk]]
          rw [hk] at k6
          have hkw : w.heap.size ≤ k := Nat.le_of_eq hk
          have hkl : k < w6.heap.size := k6.lt
          clear hw6 hk
        refine tS [22, 23] ?_
        iterate 2 (refine tC ?_; refine ap ?_)
        refine tN ?_
        refine wpAnyH_done (by kernel_rfl) ?_ _
        have HRG : Hid (World.rangeAt w6 k 1 e.v.cells) := fun j v hv => by
          rw [k6.cell]
          rcases j with _ | _ | _ | j
          · exact hv
          · exact hv
          · exact hv
          · simp [V.cells] at hv
        have HT6 := Lib.hid (HTH.out w6 hb6)
        have x1 : w6.cell? ⟨g, 1, none⟩ = some (.int .i64 (a : Nat)) := (HSH.out w6 hb6).2
        have f1 : w6.frozen? ⟨g, 1, none⟩ = false := by rw [(bcell hb6).2 g 1 lp]; exact HF1.out
        have q0 : w6.cell? ⟨k, 0, none⟩ = some (.string ⟨e.op.toArray⟩) := k6.cell 0
        have HE6 := Lib.hid hE6
        have HB6 := Lib.hid (HBW.out.trans (hb6.mono HBW.out.size))
        clear k6 hE5 hE6 hb5 hb15 hz5 hb6
        by_cases he : err = 0
        · subst he
          by_cases ht : tk = 2
          · subst ht
            by_cases ho : e.op = [108, 105, 116]
            · have hR : R = some (e.v, a + 2) := by rw [← HR.out, if_pos ⟨rfl, rfl, ho⟩]
              have eL : (e.op == [108, 105, 116]) = true := by rw [ho]; rfl
              have eN : (e.op != [108, 105, 116]) = false := by rw [bne, eL]; rfl
              subst hR
              obtain ⟨w7, hw7⟩ : ∃ x, w6.setCells b o e.v.cells = x := ⟨_, rfl⟩
              have x7 : w7.cell? ⟨g, 1, none⟩ = some (.int .i64 (a : Nat)) := by
                rw [← hw7, World.cell?_setCells_out _ _ _ _ _ (fun h1 _ => absurd h1.symm HB.out)]
                exact x1
              have f7 : w7.frozen? ⟨g, 1, none⟩ = false := by rw [← hw7, World.frozen?_setCells]; exact f1
              have HW7 := Lib.hid hw7
              clear hw7 x1 f1 ho HR
              go_wp2_with (first | refine wpList_load_midG (by rfl) 27 _ rfl k 1 rfl e.v.cells _ HRG.out Tryz.underlying27 rfl infoV3 ?_ | (refine wpList_store_mid rfl 27 _ _ rfl b o e.v.cells.toArray rfl rfl HT6.out infoV3 (vOne _) ?_; rw [show World.setCells w6 b o _ = w7 from HW7.out]))
              go_ret
              exact ⟨w6, rfl, HB6.out, HE6.out.1.1, HE6.out.1.2.2.2, by rw [show World.setCells w6 b o _ = w7 from HW7.out]; go_num⟩
            · have hR : R = none := by rw [← HR.out, if_neg (fun h => ho h.2.2)]
              have eL : (e.op == [108, 105, 116]) = false := by rw [beq_eq_false_iff_ne]; exact ho
              have eN : (e.op != [108, 105, 116]) = true := by rw [bne, eL]; rfl
              subst hR
              clear x1 f1 ho HR
              go_wp2_with fail
              go_ret
              exact ⟨rfl, HB6.out⟩
          · have hR : R = none := by rw [← HR.out, if_neg (fun h => ht h.2.1)]
            have e1 : ((tk : Int) != 2) = true := by rw [bne_iff_ne]; omega
            have e2 : ((tk : Int) == 2) = false := by rw [beq_eq_false_iff_ne]; omega
            subst hR
            clear x1 f1 ht HR q0
            go_wp2_with fail
            go_ret
            exact ⟨rfl, HB6.out⟩
        · have hR : R = none := by rw [← HR.out, if_neg (fun h => he h.1)]
          have e1 : (err != 0) = true := by simpa using he
          subst hR
          clear x1 f1 he HR q0
          go_wp2_with fail
          go_ret
          exact ⟨rfl, HB6.out⟩
      · skip
        go_simp
        skip
        go_wp2_with fail
        refine hK.out _ _ (HSH.out _ (by exact bl)) fun hHeld => ?_
        clear hK K
        refine ap ?_
        refine rdy 15 fun K hK => ?_
        go_simp
        refine (HX.out _ (by exact bl)).mono ?_ <;> rintro en w5 ⟨A5, c5, rfl, hE5, hb5⟩ <;> have hz5 := hb5.size <;> have hb15 : Below w.heap.size w w5 := (by first | exact (Below.drew (Below.refl _ w)).trans hb5 | exact ((Below.drew (Below.refl _ w)).alloc (Nat.le_refl _) _).trans (hb5.mono (by simp))) <;> have hz15 := hb15.size <;> (try have HKZ : Hid (Blk w5 w.heap.size 30 #[.string ⟨#[]⟩, .int .i64 0, .int .i64 0, .string ⟨#[]⟩, .string ⟨#[]⟩, .slice none 0 0]) := Blk.below (Blk.new' w.drew w.heap.size _ _ rfl) hb5 (by simp))
        go_wp2_with fail
        refine hK.out _ _ (HSH.out _ (by exact bl)) fun hHeld => ?_
        clear hK K
        refine ap ?_
        refine tS [16, 17, 18, 19] ?_
        iterate 4 (refine tC ?_; refine ap ?_)
        refine tN ?_
        refine rdy 21 fun K hK => ?_
        first
        |
          refine step_store_row (by rfl) 30 _ _ rfl w5.heap.size (e.cells A5 c5).toArray rfl rfl 30 ⟨#[.string ⟨#[]⟩, .int .i64 0, .int .i64 0, .string ⟨#[]⟩, .string ⟨#[]⟩, .slice none 0 0], rfl, heap_alloc_last _ _⟩ infoE6 (exOne _ _ _) ?_
          refine hK.out _ _ (HSH.out _ (bwRow (by exact bl) hb15.size _)) (fun hHeld => ?_)
          clear hK K
          refine ap ?_
          obtain ⟨w6, hw6⟩ : ∃ x, World.setRow (w5.alloc (.cells #[.string ⟨#[]⟩, .int .i64 0, .int .i64 0, .string ⟨#[]⟩, .string ⟨#[]⟩, .slice none 0 0] 30)) w5.heap.size (e.cells A5 c5).toArray = x := ⟨_, rfl⟩
          have hb6 : Below w.heap.size w w6 := by rw [← hw6]; exact bwRow (by exact bl) hb15.size _
          have k6 : Blk w6 w5.heap.size 30 (e.cells A5 c5).toArray := by rw [← hw6]; exact Blk.row (heap_alloc_last _ _) _
          have hE6 := hE5.keep (Q' := fun x => w.heap.size ≤ x ∧ x < w6.heap.size) (w' := w6) fun x hx => ⟨⟨by first | exact hx.1 | (have := hx.1; simp at this; omega), by rw [← hw6, setRow_size]; have := hx.2; simp; omega⟩, fun o => by rw [← hw6]; exact cell_of_block ((setRow_block _ _ _ _ (by have := hx.2; omega)).trans (Below.heap_alloc _ _ _ hx.2)) o⟩
          have hkw : w.heap.size ≤ w5.heap.size := hb15.size
          have hkl : w5.heap.size < w6.heap.size := k6.lt
          rw [hw6] at hHeld ⊢
          obtain ⟨k, hk⟩ : ∃ k, w5.heap.size = k := ⟨_, rfl⟩
          rw [hk] at k6 hkw hkl ⊢
          clear hw6 hk
        |
          refine step_store_row (by rfl) 30 _ _ rfl w.heap.size (e.cells A5 c5).toArray rfl rfl 30 ⟨#[.string ⟨#[]⟩, .int .i64 0, .int .i64 0, .string ⟨#[]⟩, .string ⟨#[]⟩, .slice none 0 0], rfl, HKZ.out⟩ infoE6 (exOne _ _ _) ?_
          refine hK.out _ _ (HSH.out _ (bwRow hb15 (Nat.le_refl _) _)) (fun hHeld => ?_)
          clear hK K
          refine ap ?_
          obtain ⟨w6, hw6⟩ : ∃ x, World.setRow w5 w.heap.size (e.cells A5 c5).toArray = x := ⟨_, rfl⟩
          have hb6 : Below w.heap.size w w6 := by rw [← hw6]; exact bwRow hb15 (Nat.le_refl _) _
          have k6 : Blk w6 w.heap.size 30 (e.cells A5 c5).toArray := by rw [← hw6]; exact Blk.row HKZ.out _
          have hE6 := hE5.keep (Q' := fun x => w.heap.size ≤ x ∧ x < w6.heap.size) (w' := w6) fun x hx => ⟨⟨by have := hx.1; simp at this; omega, by rw [← hw6, setRow_size]; exact hx.2⟩, fun o => by rw [← hw6]; exact cell_of_block (setRow_block _ _ _ _ (by have := hx.1; simp at this; omega)) o⟩
          have hkw : w.heap.size ≤ w.heap.size := Nat.le_refl _
          have hkl : w.heap.size < w6.heap.size := k6.lt
          rw [hw6] at hHeld ⊢
          obtain ⟨k, hk⟩ : ∃ k, w.heap.size = k := ⟨_, rfl⟩
          rw [show Value.pointer (some ⟨w.heap.size, 0, none⟩) = .pointer (some ⟨k, 0, none⟩) by rw [hk]]
          rw [hk] at k6
          have hkw : w.heap.size ≤ k := Nat.le_of_eq hk
          have hkl : k < w6.heap.size := k6.lt
          clear hw6 hk
        refine tS [22, 23] ?_
        iterate 2 (refine tC ?_; refine ap ?_)
        refine tN ?_
        refine wpAnyH_done (by kernel_rfl) ?_ _
        have HRG : Hid (World.rangeAt w6 k 1 e.v.cells) := fun j v hv => by
          rw [k6.cell]
          rcases j with _ | _ | _ | j
          · exact hv
          · exact hv
          · exact hv
          · simp [V.cells] at hv
        have HT6 := Lib.hid (HTH.out w6 hb6)
        have x1 : w6.cell? ⟨g, 1, none⟩ = some (.int .i64 (a : Nat)) := (HSH.out w6 hb6).2
        have f1 : w6.frozen? ⟨g, 1, none⟩ = false := by rw [(bcell hb6).2 g 1 lp]; exact HF1.out
        have q0 : w6.cell? ⟨k, 0, none⟩ = some (.string ⟨e.op.toArray⟩) := k6.cell 0
        have HE6 := Lib.hid hE6
        have HB6 := Lib.hid (HBW.out.trans (hb6.mono HBW.out.size))
        clear k6 hE5 hE6 hb5 hb15 hz5 hb6
        by_cases he : err = 0
        · subst he
          by_cases ht : tk = 2
          · subst ht
            by_cases ho : e.op = [108, 105, 116]
            · have hR : R = some (e.v, a + 2) := by rw [← HR.out, if_pos ⟨rfl, rfl, ho⟩]
              have eL : (e.op == [108, 105, 116]) = true := by rw [ho]; rfl
              have eN : (e.op != [108, 105, 116]) = false := by rw [bne, eL]; rfl
              subst hR
              obtain ⟨w7, hw7⟩ : ∃ x, w6.setCells b o e.v.cells = x := ⟨_, rfl⟩
              have x7 : w7.cell? ⟨g, 1, none⟩ = some (.int .i64 (a : Nat)) := by
                rw [← hw7, World.cell?_setCells_out _ _ _ _ _ (fun h1 _ => absurd h1.symm HB.out)]
                exact x1
              have f7 : w7.frozen? ⟨g, 1, none⟩ = false := by rw [← hw7, World.frozen?_setCells]; exact f1
              have HW7 := Lib.hid hw7
              clear hw7 x1 f1 ho HR
              go_wp2_with (first | refine wpList_load_midG (by rfl) 27 _ rfl k 1 rfl e.v.cells _ HRG.out Tryz.underlying27 rfl infoV3 ?_ | (refine wpList_store_mid rfl 27 _ _ rfl b o e.v.cells.toArray rfl rfl HT6.out infoV3 (vOne _) ?_; rw [show World.setCells w6 b o _ = w7 from HW7.out]))
              go_ret
              exact ⟨w6, rfl, HB6.out, HE6.out.1.1, HE6.out.1.2.2.2, by rw [show World.setCells w6 b o _ = w7 from HW7.out]; go_num⟩
            · have hR : R = none := by rw [← HR.out, if_neg (fun h => ho h.2.2)]
              have eL : (e.op == [108, 105, 116]) = false := by rw [beq_eq_false_iff_ne]; exact ho
              have eN : (e.op != [108, 105, 116]) = true := by rw [bne, eL]; rfl
              subst hR
              clear x1 f1 ho HR
              go_wp2_with fail
              go_ret
              exact ⟨rfl, HB6.out⟩
          · have hR : R = none := by rw [← HR.out, if_neg (fun h => ht h.2.1)]
            have e1 : ((tk : Int) != 2) = true := by rw [bne_iff_ne]; omega
            have e2 : ((tk : Int) == 2) = false := by rw [beq_eq_false_iff_ne]; omega
            subst hR
            clear x1 f1 ht HR q0
            go_wp2_with fail
            go_ret
            exact ⟨rfl, HB6.out⟩
        · have hR : R = none := by rw [← HR.out, if_neg (fun h => he h.1)]
          have e1 : (err != 0) = true := by simpa using he
          subst hR
          clear x1 f1 he HR q0
          go_wp2_with fail
          go_ret
          exact ⟨rfl, HB6.out⟩
    · rw [HL.out, if_neg hn] at hR
      subst hR
      have b0 : (L : Int) < (a : Int) + 2 := by omega
      have wr : IntKind.i64.wrap ((a : Int) + 2) = (a : Int) + 2 := IntWalk.i64_in _ (by omega)
      clear HR0 HX0 HX
      refine rgn HS1 fun hHeld => ?_
      refine tS [0, 1, 2, 3, 4, 5, 6, 7, 8, 9, 10, 11] ?_
      iterate 12 (refine tC ?_; refine ap ?_)
      refine tN ?_
      refine wpAnyH_done (by kernel_rfl) ?_ _
      go_wp2_with fail
      go_ret
      exact ⟨rfl, HB01.out.drew⟩

/-- The rows so far, in the parser's cells and in memory. -/
def KI (t : List UInt8) (n : Nat) (A : Option Addr) (c base : Nat) (vs : List V) (cs : Array Value) (w : World) : Prop :=
  ∃ A' c' b, cs = psC A n c b ((stI t vs).cells (pI A' c')) ∧ w.ownsRow base 27 3 (.slice A' vs.length c') vs.length (vs.flatMap V.cells) ∧ (∀ v ∈ vs, fitI v.i ∧ v.s.length ≤ 1000) ∧ base ≤ w.heap.size
theorem KI.stay {t : List UInt8} {n : Nat} {A : Option Addr} {c base g : Nat} (hg : g < base) : StayK g (KI t n A c base) := fun vs cs W W' b ⟨A', c', b0, h1, h2, h3, h4⟩ hb =>
  ⟨A', c', b, by rw [h1, psC_go], ownBut h2 hb hg, h3, Nat.le_trans h4 hb.size⟩
theorem infoVI : (Tryz.prog.info? 27).map (fun i => (i.zero, i.size, i.bytes)) = some (some (.agg #[.int .i64 0, .int .i64 0, .string ⟨#[]⟩]), 3, 32) := by kernel_rfl
set_option maxRecDepth 100000 in
set_option maxHeartbeats 8000000 in
theorem insItem_any (g pv : Nat) (A : Option Addr) (c : Nat) (l : List Tok) (a : Nat) (cs : Array Value) (t : List UInt8) (vs : List V) (ws w : World) (hp : PsE g c l w) (ha : a ≤ l.length) (hP : PsS g A c l a cs w) (hv : ws.cell? ⟨pv, 0, none⟩ = some (.pointer (some ⟨g, 0, none⟩))) (hpg : pv ≠ g) (hg : g < ws.heap.size) (hbs : But g ws w) (hn : vs.length ≤ 990) (hK : KI t l.length A c ws.heap.size vs cs w) :
    Calls Tryz.prog 170 #[.pointer (some ⟨pv, 0, none⟩)] w (RetK ((valueAt l a).map fun r => (vs ++ [r.1], r.2)) g A c l (KI t l.length A c ws.heap.size) ws) := by
  have hpl : pv < ws.heap.size := Blk_lt_of_cell hv
  obtain ⟨A', c', b0, rfl, hown, hfit, -⟩ := hK
  obtain ⟨sv, hsv⟩ : ∃ v, Value.slice A' vs.length c' = v := ⟨_, rfl⟩
  rw [hsv] at hown
  have HC0 : Hid (∀ b, (goAt (psC A l.length c b0 ((stI t vs).cells (pI A' c'))) b)[16]? = some sv) := fun b => by rw [← hsv, psC_go]; rfl
  have hc0 : (psC A l.length c b0 ((stI t vs).cells (pI A' c')))[16]? = some sv := by rw [← hsv]; rfl
  obtain ⟨w0, hw0⟩ : ∃ w0, w.alloc (.cells #[.int .i64 0, .int .i64 0, .string ⟨#[]⟩] 27) = w0 := ⟨_, rfl⟩
  have k0 : Blk w0 w.heap.size 27 V.zero.cells.toArray := by rw [← hw0]; exact Blk.new _ _ _
  have hb0 : Below w.heap.size w w0 := by rw [← hw0]; exact bl
  have hgw0 : g < w.heap.size := hP.blk.lt
  have hP0 := hP.below hb0
  have HVC := Lib.hid (pvalue_raw g A c l a _ w.heap.size 0 w0 (hp.below hb0 (Nat.le_of_lt hgw0)) ha hP0 (by omega) (there_blk k0 (by decide)) k0.lt)
  have d0w : w0.cell? ⟨pv, 0, none⟩ = some (.pointer (some ⟨g, 0, none⟩)) := (hb0.cell (p := ⟨pv, 0, none⟩) (show pv < _ by have := hbs.size; omega)).trans ((hbs.cell hpl hpg 0).trans hv)
  have hown0 : w0.ownsRow ws.heap.size 27 3 sv vs.length (vs.flatMap V.cells) := own_below hown hb0
  have HRW : Hid (∀ k, sv.ownBlock = some k → k < w.heap.size) := fun k hk => (hown.lt k hk).2
  have HFT0 : Hid (∀ r, valueAt l a = some r → True) := fun _ _ => trivial
  have HFV := Lib.hid hfit
  have HBS := Lib.hid (hbs.trans (But.of_below (p := g) hb0))
  have HGW := Lib.hid hg
  have HPW := Lib.hid hpl
  have HPG := Lib.hid hpg
  have HV0 := Lib.hid hv
  have HSW := Lib.hid hbs.size
  have HW := Lib.hid hw0
  have HK0 := Lib.hid k0
  have HP0 := Lib.hid hP0
  have HO0 := Lib.hid hown0
  have HG0 := Lib.hid hgw0
  have HCF : Hid (∀ (x : V) (b : Nat) (g5 cap : Nat), (goAt (psC A l.length c b0 ((stI t vs).cells (pI A' c'))) b).setIfInBounds 16 (.slice (some ⟨g5, 0, none⟩) (vs.length + 1) cap) = psC A l.length c b ((stI t (vs ++ [x])).cells (pI (some ⟨g5, 0, none⟩) cap))) := fun x b g5 cap => by
    rw [psC_go]
    simp only [psC, List.setIfInBounds_toArray]
    simp only [St.cells, stI, List.length_append, List.length_singleton]
    rfl
  obtain ⟨cs0, hcs0⟩ : ∃ x, psC A l.length c b0 ((stI t vs).cells (pI A' c')) = x := ⟨_, rfl⟩
  rw [hcs0] at HC0 hc0 HP0 HCF
  obtain ⟨n, hN⟩ : ∃ n, vs.length = n := ⟨_, rfl⟩
  rw [hN] at HCF HO0 hn
  have HN := Lib.hid hN
  have HC00 := Lib.hid hc0
  obtain ⟨o, ho⟩ : ∃ o, valueAt l a = o := ⟨_, rfl⟩
  rw [ho] at HVC ⊢
  clear ho hw0 k0 hP0 hown0 hcs0 hc0 hN hsv hown hfit hP hv hbs hp hb0 HFT0 hpl hpg hg hgw0
  go_enter Tryz.func170, Tryz.ntmps170
  go_upto_region 2 with fail
  rw [show w.alloc _ = w0 from HW.out]
  clear HW
  go_wp2_with fail
  refine HVC.out.mono ?_
  cases o with
  | none =>
    rintro en w2 ⟨rfl, hb2⟩
    have d0 : w2.cell? ⟨pv, 0, none⟩ = some (.pointer (some ⟨g, 0, none⟩)) := (hb2.cell (p := ⟨pv, 0, none⟩) (show pv < _ by have := Blk_lt_of_cell d0w; omega)).trans d0w
    have hP2 := HP0.out.below hb2
    have hc16 := HC00.out
    have kv2 := HK0.out.below hb2 HK0.out.lt
    have hown2 := own_below HO0.out hb2
    have hbut2 := HBS.out.trans (But.of_below hb2)
    obtain ⟨x, hx⟩ : ∃ x, V.zero = x := ⟨_, rfl⟩
    rw [hx] at kv2
    clear hx hb2 d0w HVC
    have x16 : w2.cell? ⟨g, 16, none⟩ = some sv := (hP2.blk.cell 16).trans hc16
    have f16 := hP2.blk.frozen 16
    have hlw : w.heap.size < w2.heap.size := kv2.lt
    have hgw : g < ws.heap.size := HGW.out
    have hpw : pv < ws.heap.size := HPW.out
    have hsw : ws.heap.size ≤ w.heap.size := HSW.out
    have HS2 : Hid (∀ Z : World, Below w2.heap.size w2 Z → (Z.cell? ⟨pv, 0, none⟩ = some (.pointer (some ⟨g, 0, none⟩)) ∧ Z.cell? ⟨w.heap.size, 0, none⟩ = some (.int .i64 x.k) ∧ Z.cell? ⟨w.heap.size, 1, none⟩ = some (.int .i64 x.i) ∧ Z.cell? ⟨w.heap.size, 2, none⟩ = some (.string ⟨x.s.toArray⟩)) ∧ Z.cell? ⟨g, 16, none⟩ = some sv) := fun Z hz =>
      ⟨⟨(hz.cell (p := ⟨pv, 0, none⟩) (show pv < _ by omega)).trans d0, (kv2.below hz kv2.lt).cell 0, (kv2.below hz kv2.lt).cell 1, (kv2.below hz kv2.lt).cell 2⟩, (hz.cell (p := ⟨g, 16, none⟩) (show g < _ by omega)).trans x16⟩
    have HC16 := Lib.hid hc16
    have HP2 := Lib.hid hP2
    have HOW := Lib.hid hown2
    have HOL := Lib.hid hown2.lt
    have HKV := Lib.hid kv2
    have HB2 := Lib.hid hbut2
    obtain ⟨i0, hi0, zi0, zi1, zi2⟩ := info_parts infoVI
    clear hP2 hown2 kv2 hbut2 hc16
    go_upto_region 3 with fail
    clear d0 x16
    refine wp_region_till [12] (fun Z => (Z.cell? ⟨pv, 0, none⟩ = some (.pointer (some ⟨g, 0, none⟩)) ∧ Z.cell? ⟨w.heap.size, 0, none⟩ = some (.int .i64 x.k) ∧ Z.cell? ⟨w.heap.size, 1, none⟩ = some (.int .i64 x.i) ∧ Z.cell? ⟨w.heap.size, 2, none⟩ = some (.string ⟨x.s.toArray⟩)) ∧ Z.cell? ⟨g, 16, none⟩ = some sv) (by kernel_rfl) ?_ (fun hHeld => ?_)
    · try dsimp only
      first | exact HS5.out | exact HS2.out _ (by exact bl)
    refine tI 0 12 [12] ?_
    refine ap ?_
    refine tI 1 12 [12] ?_
    refine ap ?_
    refine tI 2 12 [12] ?_
    refine ap ?_
    refine tI 3 12 [12] ?_
    refine ap ?_
    refine tI 4 12 [12] ?_
    refine ap ?_
    refine tI 5 12 [12] ?_
    refine ap ?_
    refine tI 6 12 [12] ?_
    refine ap ?_
    refine wpAnyI_ready (rs := [7]) (by kernel_rfl) (by simp) ?_
    refine AllReadyI.consT rfl (fun K hK => ?_) AllReadyI.nil
    go_simp
    skip
    go_wp2_with fail
    refine hK.out _ _ ?_ (fun hHeld => ?_)
    · try dsimp only
      first | exact HS5.out | exact HS2.out _ (by exact bl)
    clear hK K
    refine ap ?_
    refine wpAnyI_ready (rs := [8]) (by kernel_rfl) (by simp) ?_
    refine AllReadyI.consT rfl (fun K hK => ?_) AllReadyI.nil
    refine step_append_lies _ rfl (.tmp 11) (.tmp 13) 31 rfl ws.heap.size 27 i0 _ 3 32 Tryz.underlying31 hi0 zi0 zi1 zi2 rfl (by decide) sv n (vs.flatMap V.cells) (by simp [Act.eval]) (HOW.out.drew.alloc _) ⟨w2.heap.size, 0, none⟩ 1 1 x.cells (by simp [Act.eval]) rfl (World.news_of_block (cs := x.cells.toArray) (t := 27) (fr := (0, 0)) (heap_alloc_new w2.drew _)) (fun u hu => cells_one [x] u (by simpa using hu)) (by omega) (by unfold maxLen; omega) (by omega) (by simp; omega) _ rfl ?_; intro g5 cap w5 hown5 hg5 hor5 hl5; have hkv5 := (HKV.out.drew.alloc (.cells x.cells.toArray 27)).grown hg5 (fun e => (by have := (HOL.out _ e.symm); have := HRW.out _ e.symm; omega)); have hP5 := (HP2.out.below (show Below w2.heap.size w2 (w2.drew.alloc (.cells x.cells.toArray 27)) by exact bl)).grown hg5 (fun k hk => (by have := (HOL.out k hk).1; omega)); have hbut5 : But g ws w5 := butGrown (HB2.out.drew.alloc (.cells x.cells.toArray 27)) hg5 (fun k hk => (HOL.out k hk).1); have HS5 : Hid ((w5.cell? ⟨pv, 0, none⟩ = some (.pointer (some ⟨g, 0, none⟩)) ∧ w5.cell? ⟨w.heap.size, 0, none⟩ = some (.int .i64 x.k) ∧ w5.cell? ⟨w.heap.size, 1, none⟩ = some (.int .i64 x.i) ∧ w5.cell? ⟨w.heap.size, 2, none⟩ = some (.string ⟨x.s.toArray⟩)) ∧ w5.cell? ⟨g, 16, none⟩ = some sv) := ⟨⟨(hbut5.cell hpw HPG.out 0).trans HV0.out, hkv5.cell 0, hkv5.cell 1, hkv5.cell 2⟩, (hP5.blk.cell 16).trans HC16.out⟩; have f16 := hP5.blk.frozen 16; have HP5 := Lib.hid hP5; have HB5 := Lib.hid hbut5; have HO5 := Lib.hid hown5; clear hP5 hbut5 hown5 hkv5 hg5 hor5
    refine hK.out _ _ ?_ (fun hHeld => ?_)
    · try dsimp only
      first | exact HS5.out | exact HS2.out _ (by exact bl)
    clear hK K
    refine ap ?_
    refine tI 9 12 [10, 11, 12] ?_
    refine ap ?_
    refine tI 10 12 [11, 12] ?_
    refine ap ?_
    refine tI 11 12 [12] ?_
    refine ap ?_
    refine wpAnyI_ready (rs := [12]) (by kernel_rfl) (by simp) ?_
    refine AllReadyI.consD rfl (by decide) (fun K hK => ?_) AllReadyI.nil
    skip
    go_simp
    go_wp2_with fail
    refine hK.out _ _ ?_
    clear hK K
    refine ap ?_
    refine wpAnyI_done (by kernel_rfl) ?_ _
    go_wp2_with fail
    go_ret
    exact ⟨rfl, HB5.out.set 16 _⟩
  | some r =>
    obtain ⟨x, b'⟩ := r
    rintro en w2 ⟨w1, rfl, hb1, hf1, hf2, hw2⟩
    have hz1 := hb1.size
    have hg0 := HG0.out
    have hlk := HK0.out.lt
    have hpl := Blk_lt_of_cell d0w
    have hP1 := HP0.out.below hb1
    have hP2 : PsS g A c l b' (goAt cs0 b') w2 := by
      rw [hw2]
      exact (hP1.farL hg0 x.cells 0).move b'
    have kv2 : Blk w2 w.heap.size 27 x.cells.toArray := by
      rw [hw2]
      exact (Blk.setL x.cells 0 (HK0.out.below hb1 hlk)).far (p := ⟨g, 1, none⟩) (by show w.heap.size ≠ g; omega) _
    have hpvw : pv ≠ w.heap.size := by have := HSW.out; have := HPW.out; omega
    have hpvg := HPG.out
    have d0 : w2.cell? ⟨pv, 0, none⟩ = some (.pointer (some ⟨g, 0, none⟩)) := by
      rw [hw2, World.cell?_setCell_other _ _ _ _ (fun e => hpvg (congrArg Addr.block e).symm), World.cell?_setCells_out _ _ _ _ _ (fun e _ => absurd e hpvw)]
      exact (hb1.cell (p := ⟨pv, 0, none⟩) hpl).trans d0w
    have hc16 := HC0.out b'
    have hown1 := own_below HO0.out hb1
    have hbw : ∀ k, ws.heap.size ≤ k → k < w2.heap.size → k ≠ g := fun k hk _ => by have := HGW.out; omega
    have hown2 : w2.ownsRow ws.heap.size 27 3 sv n (vs.flatMap V.cells) := by
      have hkk : ∀ k, sv.ownBlock = some k → k ≠ w.heap.size := fun k hk => Nat.ne_of_lt (HRW.out k hk)
      have h3 := (((hown1.kept (grownS w1 ⟨w.heap.size, 0, none⟩ (.int .i64 x.k)) (.inr fun e => hkk _ e rfl)).kept (grownS _ ⟨w.heap.size, 0 + 1, none⟩ (.int .i64 x.i)) (.inr fun e => hkk _ e rfl)).kept (grownS _ ⟨w.heap.size, 0 + 1 + 1, none⟩ (.string ⟨x.s.toArray⟩)) (.inr fun e => hkk _ e rfl))
      have h4 := own_at h3 (p := ⟨g, 1, none⟩) (fun k hk _ e => by have := HGW.out; simp at e; omega) (.int .i64 (b' : Nat))
      rw [hw2]
      exact h4
    have hbut2 : But g ws w2 := by
      have h1 := HBS.out.trans (But.of_below (p := g) hb1)
      have hsw := HSW.out
      have h3 := ((h1.own (g := w.heap.size) hsw 0 (.int .i64 x.k)).own (g := w.heap.size) hsw 1 (.int .i64 x.i)).own (g := w.heap.size) hsw 2 (.string ⟨x.s.toArray⟩)
      rw [hw2]
      exact h3.set 1 _
    have HCS := Lib.hid (fun (g5 cap : Nat) => HCF.out x b' g5 cap)
    have HFT : Hid (∀ v ∈ vs ++ [x], fitI v.i ∧ v.s.length ≤ 1000) := fun v hv => by
      rcases List.mem_append.1 hv with h | h
      · exact HFV.out v h
      · rw [List.mem_singleton] at h; subst h; exact ⟨hf1, hf2⟩
    clear hw2 hb1 hP1 hown1 hz1 hbw HVC hf1 hf2 d0w hg0 hlk
    have x16 : w2.cell? ⟨g, 16, none⟩ = some sv := (hP2.blk.cell 16).trans hc16
    have f16 := hP2.blk.frozen 16
    have hlw : w.heap.size < w2.heap.size := kv2.lt
    have hgw : g < ws.heap.size := HGW.out
    have hpw : pv < ws.heap.size := HPW.out
    have hsw : ws.heap.size ≤ w.heap.size := HSW.out
    have HS2 : Hid (∀ Z : World, Below w2.heap.size w2 Z → (Z.cell? ⟨pv, 0, none⟩ = some (.pointer (some ⟨g, 0, none⟩)) ∧ Z.cell? ⟨w.heap.size, 0, none⟩ = some (.int .i64 x.k) ∧ Z.cell? ⟨w.heap.size, 1, none⟩ = some (.int .i64 x.i) ∧ Z.cell? ⟨w.heap.size, 2, none⟩ = some (.string ⟨x.s.toArray⟩)) ∧ Z.cell? ⟨g, 16, none⟩ = some sv) := fun Z hz =>
      ⟨⟨(hz.cell (p := ⟨pv, 0, none⟩) (show pv < _ by omega)).trans d0, (kv2.below hz kv2.lt).cell 0, (kv2.below hz kv2.lt).cell 1, (kv2.below hz kv2.lt).cell 2⟩, (hz.cell (p := ⟨g, 16, none⟩) (show g < _ by omega)).trans x16⟩
    have HC16 := Lib.hid hc16
    have HP2 := Lib.hid hP2
    have HOW := Lib.hid hown2
    have HOL := Lib.hid hown2.lt
    have HKV := Lib.hid kv2
    have HB2 := Lib.hid hbut2
    obtain ⟨i0, hi0, zi0, zi1, zi2⟩ := info_parts infoVI
    clear hP2 hown2 kv2 hbut2 hc16
    go_upto_region 3 with fail
    clear d0 x16
    refine wp_region_till [12] (fun Z => (Z.cell? ⟨pv, 0, none⟩ = some (.pointer (some ⟨g, 0, none⟩)) ∧ Z.cell? ⟨w.heap.size, 0, none⟩ = some (.int .i64 x.k) ∧ Z.cell? ⟨w.heap.size, 1, none⟩ = some (.int .i64 x.i) ∧ Z.cell? ⟨w.heap.size, 2, none⟩ = some (.string ⟨x.s.toArray⟩)) ∧ Z.cell? ⟨g, 16, none⟩ = some sv) (by kernel_rfl) ?_ (fun hHeld => ?_)
    · try dsimp only
      first | exact HS5.out | exact HS2.out _ (by exact bl)
    refine tI 0 12 [12] ?_
    refine ap ?_
    refine tI 1 12 [12] ?_
    refine ap ?_
    refine tI 2 12 [12] ?_
    refine ap ?_
    refine tI 3 12 [12] ?_
    refine ap ?_
    refine tI 4 12 [12] ?_
    refine ap ?_
    refine tI 5 12 [12] ?_
    refine ap ?_
    refine tI 6 12 [12] ?_
    refine ap ?_
    refine wpAnyI_ready (rs := [7]) (by kernel_rfl) (by simp) ?_
    refine AllReadyI.consT rfl (fun K hK => ?_) AllReadyI.nil
    go_simp
    skip
    go_wp2_with fail
    refine hK.out _ _ ?_ (fun hHeld => ?_)
    · try dsimp only
      first | exact HS5.out | exact HS2.out _ (by exact bl)
    clear hK K
    refine ap ?_
    refine wpAnyI_ready (rs := [8]) (by kernel_rfl) (by simp) ?_
    refine AllReadyI.consT rfl (fun K hK => ?_) AllReadyI.nil
    refine step_append_lies _ rfl (.tmp 11) (.tmp 13) 31 rfl ws.heap.size 27 i0 _ 3 32 Tryz.underlying31 hi0 zi0 zi1 zi2 rfl (by decide) sv n (vs.flatMap V.cells) (by simp [Act.eval]) (HOW.out.drew.alloc _) ⟨w2.heap.size, 0, none⟩ 1 1 x.cells (by simp [Act.eval]) rfl (World.news_of_block (cs := x.cells.toArray) (t := 27) (fr := (0, 0)) (heap_alloc_new w2.drew _)) (fun u hu => cells_one [x] u (by simpa using hu)) (by omega) (by unfold maxLen; omega) (by omega) (by simp; omega) _ rfl ?_; intro g5 cap w5 hown5 hg5 hor5 hl5; have hkv5 := (HKV.out.drew.alloc (.cells x.cells.toArray 27)).grown hg5 (fun e => (by have := (HOL.out _ e.symm); have := HRW.out _ e.symm; omega)); have hP5 := (HP2.out.below (show Below w2.heap.size w2 (w2.drew.alloc (.cells x.cells.toArray 27)) by exact bl)).grown hg5 (fun k hk => (by have := (HOL.out k hk).1; omega)); have hbut5 : But g ws w5 := butGrown (HB2.out.drew.alloc (.cells x.cells.toArray 27)) hg5 (fun k hk => (HOL.out k hk).1); have HS5 : Hid ((w5.cell? ⟨pv, 0, none⟩ = some (.pointer (some ⟨g, 0, none⟩)) ∧ w5.cell? ⟨w.heap.size, 0, none⟩ = some (.int .i64 x.k) ∧ w5.cell? ⟨w.heap.size, 1, none⟩ = some (.int .i64 x.i) ∧ w5.cell? ⟨w.heap.size, 2, none⟩ = some (.string ⟨x.s.toArray⟩)) ∧ w5.cell? ⟨g, 16, none⟩ = some sv) := ⟨⟨(hbut5.cell hpw HPG.out 0).trans HV0.out, hkv5.cell 0, hkv5.cell 1, hkv5.cell 2⟩, (hP5.blk.cell 16).trans HC16.out⟩; have f16 := hP5.blk.frozen 16; have HP5 := Lib.hid hP5; have HB5 := Lib.hid hbut5; have HO5 := Lib.hid hown5; clear hP5 hbut5 hown5 hkv5 hg5 hor5
    refine hK.out _ _ ?_ (fun hHeld => ?_)
    · try dsimp only
      first | exact HS5.out | exact HS2.out _ (by exact bl)
    clear hK K
    refine ap ?_
    refine tI 9 12 [10, 11, 12] ?_
    refine ap ?_
    refine tI 10 12 [11, 12] ?_
    refine ap ?_
    refine tI 11 12 [12] ?_
    refine ap ?_
    refine wpAnyI_ready (rs := [12]) (by kernel_rfl) (by simp) ?_
    refine AllReadyI.consD rfl (by decide) (fun K hK => ?_) AllReadyI.nil
    skip
    go_simp
    go_wp2_with fail
    refine hK.out _ _ ?_
    clear hK K
    refine ap ?_
    refine wpAnyI_done (by kernel_rfl) ?_ _
    go_wp2_with fail
    go_ret
    exact ⟨rfl, _, HP5.out.set 16 (by decide) _, ⟨some ⟨g5, 0, none⟩, cap, b', HCS.out _ _, by have hN := HN.out; subst hN; simpa using own_at HO5.out (p := ⟨g, 16, none⟩) (fun k hk _ e => by simp at e; omega) (.slice (some ⟨g5, 0, none⟩) (vs.length + 1) cap), HFT.out, by simp; exact HB5.out.size⟩, HB5.out.set 16 _⟩

set_option maxHeartbeats 4000000 in
/-- The closure over the list of values. -/
theorem insIn_any (g pv ib : Nat) (A : Option Addr) (c : Nat) (l : List Tok) (a : Nat) (cs : Array Value) (t : List UInt8) (w : World) (hp : PsE g c l w) (ha : a ≤ l.length) (hP : PsS g A c l a cs w) (hcs : ∃ b, cs = psC A l.length c b ((stI t []).cells (pI none 0))) (hv : w.cell? ⟨pv, 0, none⟩ = some (.pointer (some ⟨g, 0, none⟩))) (hpg : pv ≠ g)
    (hi : w.cell? ⟨ib, 0, none⟩ = some (.func (.func 170) #[] #[.pointer (some ⟨pv, 0, none⟩)])) :
    Calls Tryz.prog 172 #[.pointer (some ⟨pv, 0, none⟩), .pointer (some ⟨ib, 0, none⟩)] w (RetK (listP l (valueAt l) (l.length + 1) a) g A c l (KI t l.length A c w.heap.size) w) := by
  have hl := hp.n
  have hgl := hP.blk.lt
  have HL := Lib.hid (plist_ins pv (valueAt l) (KI t l.length A c w.heap.size) g A c l a cs w hp.n ha hP (KI.stay hP.blk.lt) (by obtain ⟨b, rfl⟩ := hcs; exact ⟨none, 0, b, rfl, World.ownsRow_nil _ _ _ _, (fun v hv => by cases hv), Nat.le_refl _⟩) (fun b r h => valueAt_le h)
    (fun xs b cs' W hW hx hb hPW hKW => insItem_any g pv A c l b cs' t xs w W (hp.but hW) hb hPW hv hpg hgl hW (by omega) hKW))
  obtain ⟨o, ho⟩ : ∃ o, listP l (valueAt l) (l.length + 1) a = o := ⟨_, rfl⟩
  rw [ho] at HL ⊢
  clear hp ha hP hcs hgl hl ho
  go_enter Tryz.func172, Tryz.ntmps172
  go_wp2_with fail
  refine HL.out.mono ?_
  intro en w1 hr
  cases o with
  | none =>
    obtain ⟨rfl, hb1⟩ := hr
    have HB1 := Lib.hid hb1
    clear hb1 HL
    go_wp2_with fail
    go_ret
    exact ⟨rfl, HB1.out⟩
  | some r =>
    obtain ⟨rfl, h1⟩ := hr
    have H1 := Lib.hid h1
    clear h1 HL
    go_wp2_with fail
    go_ret
    exact ⟨rfl, H1.out⟩
theorem listP_le {α : Type} {l : List Tok} {step : Nat → Option (α × Nat)} (hs : ∀ b r, step b = some r → r.2 ≤ l.length) : ∀ (f a : Nat) (r : List α × Nat), listP l step f a = some r → r.2 ≤ l.length
  | 0, a, r, h => by cases h
  | f + 1, a, r, h => by
    unfold listP at h
    cases hq : step a with
    | none => rw [hq] at h; cases h
    | some q =>
      rw [hq] at h
      simp only [Option.bind_some] at h
      split at h
      · cases hz : listP l step f (q.2 + 1) with
        | none => rw [hz] at h; cases h
        | some z =>
          rw [hz] at h
          injection h with h
          subst h
          exact listP_le hs f _ z hz
      · injection h with h
        subst h
        exact hs _ _ hq
theorem KI.from {t : List UInt8} {n : Nat} {A : Option Addr} {c B B' : Nat} (hB : B' ≤ B) (vs : List V) (cs : Array Value) (w : World) (h : KI t n A c B vs cs w) : KI t n A c B' vs cs w := by
  obtain ⟨A', c', b, h1, h2, h3, h4⟩ := h
  exact ⟨A', c', b, h1, ⟨h2.1, h2.2.imp id fun ⟨k, cap, cur, hv, hk, r⟩ => ⟨k, cap, cur, hv, Nat.le_trans hB hk, r⟩⟩, h3, Nat.le_trans hB h4⟩
theorem stI_ok {t : List UInt8} {vs : List V} (h1 : t.length ≤ 1000) (h2 : ∀ v ∈ vs, fitI v.i ∧ v.s.length ≤ 1000) (h3 : vs.length ≤ 1000) : (stI t vs).Ok where
  op := by show ([105, 110, 115, 101, 114, 116] : List UInt8).length ≤ 1000; decide
  tb := h1
  ot := Nat.zero_le _
  key := Nat.zero_le _
  role := Nat.zero_le _
  nN := Nat.zero_le _
  nC := Nat.zero_le _
  nU := Nat.zero_le _
  nR := Nat.zero_le _
  nW := h3
  nS := Nat.zero_le _
  names := fun x hx => by cases hx
  cols := fun x hx => by cases hx
  uniq := fun x hx => by cases hx
  refs := fun x hx => by cases hx
  chk := exZero_fit
  whr := exZero_fit
  row := h2
  sets := fun x hx => by cases hx
  num := ⟨fitE_0 _, fitE_0 _, (fun v hv => (h2 v hv).1), (fun x hx => by cases hx)⟩
theorem stI_mem {t : List UInt8} {vs : List V} {A : Option Addr} {c B : Nat} {Q : Nat → Prop} {w : World} (h : w.ownsRow B 27 3 (.slice A vs.length c) vs.length (vs.flatMap V.cells)) (hQ : ∀ b, B ≤ b → b < w.heap.size → Q b) : StQ 1000 (stI t vs) (pI A c) Q w := by
  obtain ⟨A', c', he, -, -, hF⟩ := VS.own h
  injection he with e1 e2 e3
  subst e1
  exact ⟨SQ.nil, fun h => absurd h (by simp [stI]), SQ.nil, XQ.nil, ⟨0, rfl⟩, WQ.ofF hF hQ, ⟨0, ZQ.nil⟩, 0, rfl⟩

theorem listP_len {α : Type} {l : List Tok} {step : Nat → Option (α × Nat)} : ∀ (f a : Nat) (r : List α × Nat), listP l step f a = some r → r.1.length ≤ f
  | 0, a, r, h => by cases h
  | f + 1, a, r, h => by
    unfold listP at h
    cases hq : step a with
    | none => rw [hq] at h; cases h
    | some q =>
      rw [hq] at h
      simp only [Option.bind_some] at h
      split at h
      · cases hz : listP l step f (q.2 + 1) with
        | none => rw [hz] at h; cases h
        | some z =>
          rw [hz] at h
          injection h with h
          subst h
          have := listP_len f _ z hz
          simp
          omega
      · injection h with h
        subst h
        simp
theorem psC_at {A A' : Option Addr} {n c a b g : Nat} {l : List Tok} {vs : List Value} {w : World} (h : PsS g A' c l a (psC A n c b vs) w) : b = a := by
  have h1 : (psC A n c b vs)[1]? = some (.int .i64 (b : Nat)) := rfl
  have h2 := h1.symm.trans h.c1
  injection h2 with h2
  injection h2 with _ h2
  omega
set_option maxRecDepth 100000 in
set_option maxHeartbeats 8000000 in
theorem insert_any (g : Nat) (A : Option Addr) (c : Nat) (l : List Tok) (w : World) (hp : PsE g c l w) (h : PsS g A c l 1 (psC A l.length c 1 ((stZ [] []).cells stPZ)) w) :
    Calls Tryz.prog 99 #[.pointer (some ⟨g, 0, none⟩)] w (RetSm (insertP l) g A c l w) := by
  have hn := hp.n
  have hs := hp.s
  have hgw : g < w.heap.size := h.blk.lt
  obtain ⟨R, hR⟩ : ∃ R, insertP l = R := ⟨_, rfl⟩
  rw [hR]
  unfold insertP at hR
  obtain ⟨wa, hwa⟩ : ∃ x, w.alloc (.cells #[.pointer (some ⟨g, 0, none⟩)] 97) = x := ⟨_, rfl⟩
  have kpa : Blk wa w.heap.size 97 #[.pointer (some ⟨g, 0, none⟩)] := by rw [← hwa]; exact Blk.new _ _ _
  have hba : Below w.heap.size w wa := by rw [← hwa]; exact bl
  have hPa := h.below hba
  have x2 : wa.cell? ⟨g, 2, none⟩ = some (.string ⟨#[]⟩) := hPa.blk.cell 2
  have f2 := hPa.blk.frozen 2
  have xp : wa.cell? ⟨w.heap.size, 0, none⟩ = some (.pointer (some ⟨g, 0, none⟩)) := kpa.cell 0
  obtain ⟨wb, hwb⟩ : ∃ x, wa.setCell ⟨g, 2, none⟩ (.string ⟨([105, 110, 115, 101, 114, 116] : List UInt8).toArray⟩) = x := ⟨_, rfl⟩
  have hPb : PsS g A c l 1 (psC A l.length c 1 ((stI [] []).cells (pI none 0))) wb := by
    have := hPa.set 2 (Nat.le_refl _) (.string ⟨([105, 110, 115, 101, 114, 116] : List UInt8).toArray⟩)
    rw [hwb, psC_op] at this
    exact this
  have hbb : But g w wb := by rw [← hwb]; exact (But.of_below (p := g) hba).set 2 _
  have kpb : Blk wb w.heap.size 97 #[.pointer (some ⟨g, 0, none⟩)] := by rw [← hwb]; exact kpa.far (p := ⟨g, 2, none⟩) (by show w.heap.size ≠ g; omega) _
  obtain ⟨wc, hwc⟩ : ∃ x, wb.alloc (.cells #[.func (.func 170) #[] #[.pointer (some ⟨w.heap.size, 0, none⟩)]] 47) = x := ⟨_, rfl⟩
  have kf : Blk wc wb.heap.size 47 #[.func (.func 170) #[] #[.pointer (some ⟨w.heap.size, 0, none⟩)]] := by rw [← hwc]; exact Blk.new _ _ _
  have hbc : Below wb.heap.size wb wc := by rw [← hwc]; exact bl
  have hPc := hPb.below hbc
  have kpc := kpb.below hbc kpb.lt
  have hbwc : But g w wc := hbb.trans (But.of_below hbc)
  have hgc : g < wc.heap.size := hPc.blk.lt
  have hpe := hp.but hbwc
  have hpg : w.heap.size ≠ g := by omega
  have hxb : w.heap.size < wc.heap.size := kpc.lt
  have hib : wb.heap.size < wc.heap.size := kf.lt
  have hgb : wb.heap.size ≠ g := by have := hPb.blk.lt; omega
  have HWA := Lib.hid hwa
  have HWB := Lib.hid hwb
  have HWC := Lib.hid hwc
  have HPV : Hid (∀ Z : World, But g wc Z → Z.cell? ⟨w.heap.size, 0, none⟩ = some (.pointer (some ⟨g, 0, none⟩))) := fun Z hz => (hz.cell hxb hpg 0).trans (kpc.cell 0)
  have HIV : Hid (∀ Z : World, But g wc Z → Z.cell? ⟨wb.heap.size, 0, none⟩ = some (.func (.func 170) #[] #[.pointer (some ⟨w.heap.size, 0, none⟩)])) := fun Z hz => (hz.cell hib hgb 0).trans (kf.cell 0)
  obtain ⟨cs2, hcs⟩ : ∃ x, psC A l.length c 1 ((stI [] []).cells (pI none 0)) = x := ⟨_, rfl⟩
  rw [hcs] at hPc
  have HP1 : Hid (∀ Z : World, Below wc.heap.size wc Z → PsS g A c l 1 cs2 Z) := fun Z hz => hPc.below hz
  have HC3 : Hid ((goAt cs2 2)[3]? = some (.string ⟨(([] : List UInt8)).toArray⟩)) := by rw [← hcs, psC_go]; rfl
  have HCS : Hid (∀ t b, goAt (cs2.setIfInBounds 3 (.string ⟨(t : List UInt8).toArray⟩)) b = psC A l.length c b ((stI t []).cells (pI none 0))) := fun t b => by rw [← hcs]; exact (congrArg (goAt · b) (psC_tb A l.length c 1 [105, 110, 115, 101, 114, 116] t [] ex0 none 0)).trans (psC_go _ _ _ _ _ _)
  obtain ⟨B1, hB1⟩ : ∃ B, hit l 1 [73, 78, 84, 79] = B := ⟨_, rfl⟩
  obtain ⟨ON, hON⟩ : ∃ x, nameAt l 2 = x := ⟨_, rfl⟩
  obtain ⟨B3, hB3⟩ : ∃ B, hit l 3 [86, 65, 76, 85, 69, 83] = B := ⟨_, rfl⟩
  have hR : (if B1 then ON.bind fun t => if B3 then (insideP l 4 (listP l (valueAt l) (l.length + 1) 5)).map fun r => (stI t r.1, r.2) else none else none) = R := by
    rw [← hR, hB1, hON, hB3]
    unfold insideP
    refine congrArg (fun f => if B1 = true then ON.bind f else none) (funext fun t => ?_)
    split
    · split
      · cases listP l (valueAt l) (l.length + 1) 5 with
        | none => rfl
        | some r => simp only [Option.bind_some]; split <;> rfl
      · rfl
    · rfl
  have HC1 : Hid (∀ (Z : World) (b : Nat), PsS g A c l 1 cs2 Z → Z.cell? ⟨b, 0, none⟩ = some (.string ⟨([73, 78, 84, 79] : List UInt8).toArray⟩) → b ≠ g → Calls Tryz.prog 160 #[.pointer (some ⟨g, 0, none⟩), .slice (some ⟨b, 0, none⟩) 1 1] Z (RetPs1 B1 g A c l (1 + B1.toNat) (goAt cs2 (1 + B1.toNat)) Z)) := fun Z b h1 h2 h3 => by
    have := pword_any g A c l 1 cs2 [73, 78, 84, 79] b 1 Z (by decide) h1 h2 h3
    rw [hB1] at this
    exact this
  have HC2 : Hid (∀ Z : World, PsS g A c l 2 (goAt cs2 2) Z → Calls Tryz.prog 161 #[.pointer (some ⟨g, 0, none⟩), .pointer (some ⟨g, 3, none⟩)] Z (RetNm ON 3 g A c l 2 (goAt cs2 2) Z)) := fun Z h1 => by
    have := pname_any g A c l 2 (goAt cs2 2) 3 [] Z (by decide) h1 (by decide) HC3.out hs
    rw [hON] at this
    exact this
  have HCW : Hid (∀ (Z : World) (b : Nat) (cs : Array Value), PsS g A c l 3 cs Z → Z.cell? ⟨b, 0, none⟩ = some (.string ⟨([86, 65, 76, 85, 69, 83] : List UInt8).toArray⟩) → b ≠ g → Calls Tryz.prog 160 #[.pointer (some ⟨g, 0, none⟩), .slice (some ⟨b, 0, none⟩) 1 1] Z (RetPs1 B3 g A c l (3 + B3.toNat) (goAt cs (3 + B3.toNat)) Z)) := fun Z b cs h1 h2 h3 => by
    have := pword_any g A c l 3 cs [86, 65, 76, 85, 69, 83] b 1 Z (by decide) h1 h2 h3
    rw [hB3] at this
    exact this
  have HC4 : Hid (B3 = true → ∀ (Z : World) (t : List UInt8), But g wc Z → PsS g A c l 4 (psC A l.length c 4 ((stI t []).cells (pI none 0))) Z → Calls Tryz.prog 164 #[.pointer (some ⟨g, 0, none⟩), .func (.func 172) #[] #[.pointer (some ⟨w.heap.size, 0, none⟩), .pointer (some ⟨wb.heap.size, 0, none⟩)]] Z (RetK (insideP l 4 (listP l (valueAt l) (l.length + 1) 5)) g A c l (KI t l.length A c Z.heap.size) Z)) := fun h3 Z t hz h4 => by
    have h4l : 4 ≤ l.length := by have := hitLt (l := l) (a := 3) (s := [86, 65, 76, 85, 69, 83]) (hB3.trans h3); omega
    refine pinside_ins w.heap.size wb.heap.size _ _ g A c l 4 _ Z hn h4l h4 (KI.stay h4.blk.lt) (fun _ r hr => listP_le (fun b r h => (valueAt_le h).2) _ _ r hr) fun W hW h5 hPW => ?_
    exact (insIn_any g w.heap.size wb.heap.size A c l 5 _ t W (hpe.but (hz.trans hW)) h5 hPW ⟨5, rfl⟩ (HPV.out W (hz.trans hW)) hpg (HIV.out W (hz.trans hW))).mono fun en w' hr => hr.imp (But.refl _ _) (KI.from hW.size)
  have HS0 : Hid (∀ Z : World, Below wc.heap.size wc Z → Z.cell? ⟨w.heap.size, 0, none⟩ = some (.pointer (some ⟨g, 0, none⟩))) := fun Z hz => HPV.out Z (But.of_below hz)
  have HNL : Hid (∀ t, ON = some t → t.length ≤ 1000) := fun t ht => by
    obtain ⟨y, hy, rfl⟩ := nameAt_mem (hON.trans ht)
    exact hs y hy
  have HLL : Hid (∀ r, insideP l 4 (listP l (valueAt l) (l.length + 1) 5) = some r → r.1.length ≤ 1000) := fun r hr => by
    unfold insideP at hr
    split at hr
    · cases hz : listP l (valueAt l) (l.length + 1) 5 with
      | none => rw [hz] at hr; cases hr
      | some z =>
        rw [hz] at hr
        simp only [Option.bind_some] at hr
        split at hr
        · injection hr with hr
          subst hr
          have := listP_len _ _ z hz
          simp only
          omega
        · cases hr
    · cases hr
  obtain ⟨O4, hO4⟩ : ∃ x, insideP l 4 (listP l (valueAt l) (l.length + 1) 5) = x := ⟨_, rfl⟩
  rw [hO4] at HC4 hR HLL
  have HR := Lib.hid hR
  have HBW := Lib.hid hbwc
  clear hR hO4 hON hB1 hB3 hcs hPb hPa hPc kpa kpb kpc kf hba hbb hbc hbwc hwa hwb hwc hp h hs hpe
  go_enter Tryz.func99, Tryz.ntmps99
  go_upto_region 1 with fail
  rw [show w.alloc _ = wa from HWA.out]
  go_upto_region 2 with fail
  rw [show World.setCell wa _ _ = wb from HWB.out]
  clear x2 f2
  go_upto_region 3 with fail
  rw [show World.alloc wb _ = wc from HWC.out]
  clear HWA HWB HWC xp
  cases B1 with
  | false =>
    have hR : R = none := HR.out.symm
    subst hR
    refine wp_region_held_drew (S := (fun Z => Z.cell? ⟨w.heap.size, 0, none⟩ = some (.pointer (some ⟨g, 0, none⟩)))) (by kernel_rfl) ?_ (fun hHeld => ?_)
    · try dsimp only
      first | exact HS0.out _ (by exact bl) | exact HS2.out _ (by exact bl)
    refine tS [0] (tC ?_)
    refine ap (tN ?_)
    refine rdy 1 fun K hK => ?_
    go_simp
    skip
    go_wp2_with fail
    refine hK.out _ _ ?_ (fun hHeld => ?_)
    · try dsimp only
      first | exact HS0.out _ (by exact bl) | exact HS2.out _ (by exact bl)
    clear hK K
    refine ap ?_
    refine rdy 2 fun K hK => ?_
    go_simp
    refine (HC1.out _ _ (HP1.out _ (by exact bl)) ((Blk.new' _ _ _ _ rfl).cell 0) (by omega)).mono ?_ <;> rintro en w2 ⟨rfl, hP2, hb2⟩ <;> have hc2 : But g wc w2 := But.trans (But.of_below (by exact bl)) hb2 <;> have HS2 : Hid (∀ Z : World, Below w2.heap.size w2 Z → Z.cell? ⟨w.heap.size, 0, none⟩ = some (.pointer (some ⟨g, 0, none⟩))) := (fun Z hz => HPV.out Z (hc2.trans (But.of_below hz)))
    go_wp2_with fail
    refine hK.out _ _ ?_ (fun hHeld => ?_)
    · try dsimp only
      first | exact HS0.out _ (by exact bl) | exact HS2.out _ (by exact bl)
    clear hK K
    refine ap ?_
    refine tS [3] (tC ?_)
    refine ap (tN ?_)
    refine tS [4, 5, 6, 7, 8, 9] ?_
    iterate 6 (refine tX ?_; refine ap ?_)
    refine tN ?_
    refine tS [10, 11] ?_
    iterate 2 (refine tC ?_; refine ap ?_)
    refine tN ?_
    refine tS [12, 13, 14] ?_
    iterate 3 (refine tX ?_; refine ap ?_)
    refine tN ?_
    refine tS [15, 16] ?_
    iterate 2 (refine tC ?_; refine ap ?_)
    refine tN ?_
    refine tS [17, 18, 19] ?_
    iterate 3 (refine tX ?_; refine ap ?_)
    refine tN ?_
    refine tS [20, 21] ?_
    iterate 2 (refine tC ?_; refine ap ?_)
    refine tN ?_
    refine wpAnyH_done (by kernel_rfl) ?_ _
    go_wp2_with fail
    go_ret
    exact ⟨rfl, HBW.out.trans hc2⟩
  | true =>
    have HR : Hid ((ON.bind fun t => if B3 then O4.map fun r => (stI t r.1, r.2) else none) = R) := HR.out
    cases ON with
    | none =>
      have hR : R = none := HR.out.symm
      subst hR
      refine wp_region_held_drew (S := (fun Z => Z.cell? ⟨w.heap.size, 0, none⟩ = some (.pointer (some ⟨g, 0, none⟩)))) (by kernel_rfl) ?_ (fun hHeld => ?_)
      · try dsimp only
        first | exact HS0.out _ (by exact bl) | exact HS2.out _ (by exact bl) | exact HS9.out _ (by exact bl)
      refine tS [0] (tC ?_)
      refine ap (tN ?_)
      refine rdy 1 fun K hK => ?_
      go_simp
      skip
      go_wp2_with fail
      refine hK.out _ _ ?_ (fun hHeld => ?_)
      · try dsimp only
        first | exact HS0.out _ (by exact bl) | exact HS2.out _ (by exact bl) | exact HS9.out _ (by exact bl)
      clear hK K
      refine ap ?_
      refine rdy 2 fun K hK => ?_
      go_simp
      refine (HC1.out _ _ (HP1.out _ (by exact bl)) ((Blk.new' _ _ _ _ rfl).cell 0) (by omega)).mono ?_ <;> rintro en w2 ⟨rfl, hP2, hb2⟩ <;> have hc2 : But g wc w2 := But.trans (But.of_below (by exact bl)) hb2 <;> have HS2 : Hid (∀ Z : World, Below w2.heap.size w2 Z → Z.cell? ⟨w.heap.size, 0, none⟩ = some (.pointer (some ⟨g, 0, none⟩))) := (fun Z hz => HPV.out Z (hc2.trans (But.of_below hz))) <;> have HP2 : Hid (PsS g A c l 2 (goAt cs2 2) w2) := hP2 <;> have hg2 : g < w2.heap.size := hP2.blk.lt <;> clear hP2 hb2
      go_wp2_with fail
      refine hK.out _ _ ?_ (fun hHeld => ?_)
      · try dsimp only
        first | exact HS0.out _ (by exact bl) | exact HS2.out _ (by exact bl) | exact HS9.out _ (by exact bl)
      clear hK K
      refine ap ?_
      refine tS [3, 4, 5, 6, 7, 8] ?_
      iterate 6 (refine tC ?_; refine ap ?_)
      refine tN ?_
      refine rdy 9 fun K hK => ?_
      go_simp
      refine (HC2.out _ (HP2.out.below (by exact bl))).mono ?_ <;> rintro en w9 ⟨rfl, hP9, hb9⟩ <;> have hc9 : But g wc w9 := But.trans (But.trans hc2 (But.of_below (by exact bl))) hb9 <;> have HS9 : Hid (∀ Z : World, Below w9.heap.size w9 Z → Z.cell? ⟨w.heap.size, 0, none⟩ = some (.pointer (some ⟨g, 0, none⟩))) := (fun Z hz => HPV.out Z (hc9.trans (But.of_below hz))) <;> have HP9 := Lib.hid hP9 <;> have hg9 : g < w9.heap.size := hP9.blk.lt <;> clear hP9 hb9
      go_wp2_with fail
      refine hK.out _ _ ?_ (fun hHeld => ?_)
      · try dsimp only
        first | exact HS0.out _ (by exact bl) | exact HS2.out _ (by exact bl) | exact HS9.out _ (by exact bl)
      clear hK K
      refine ap ?_
      refine tS [10, 11] ?_
      iterate 2 (refine tC ?_; refine ap ?_)
      refine tN ?_
      refine tS [12, 13, 14] ?_
      iterate 3 (refine tX ?_; refine ap ?_)
      refine tN ?_
      refine tS [15, 16] ?_
      iterate 2 (refine tC ?_; refine ap ?_)
      refine tN ?_
      refine tS [17, 18, 19] ?_
      iterate 3 (refine tX ?_; refine ap ?_)
      refine tN ?_
      refine tS [20, 21] ?_
      iterate 2 (refine tC ?_; refine ap ?_)
      refine tN ?_
      refine wpAnyH_done (by kernel_rfl) ?_ _
      go_wp2_with fail
      go_ret
      exact ⟨rfl, HBW.out.trans hc9⟩
    | some t =>
      have HR : Hid ((if B3 then O4.map fun r => (stI t r.1, r.2) else none) = R) := HR.out
      cases B3 with
      | false =>
        have hR : R = none := HR.out.symm
        subst hR
        refine wp_region_held_drew (S := (fun Z => Z.cell? ⟨w.heap.size, 0, none⟩ = some (.pointer (some ⟨g, 0, none⟩)))) (by kernel_rfl) ?_ (fun hHeld => ?_)
        · try dsimp only
          first | exact HS0.out _ (by exact bl) | exact HS2.out _ (by exact bl) | exact HS9.out _ (by exact bl) | exact HS14.out _ (by exact bl)
        refine tS [0] (tC ?_)
        refine ap (tN ?_)
        refine rdy 1 fun K hK => ?_
        go_simp
        skip
        go_wp2_with fail
        refine hK.out _ _ ?_ (fun hHeld => ?_)
        · try dsimp only
          first | exact HS0.out _ (by exact bl) | exact HS2.out _ (by exact bl) | exact HS9.out _ (by exact bl) | exact HS14.out _ (by exact bl)
        clear hK K
        refine ap ?_
        refine rdy 2 fun K hK => ?_
        go_simp
        refine (HC1.out _ _ (HP1.out _ (by exact bl)) ((Blk.new' _ _ _ _ rfl).cell 0) (by omega)).mono ?_ <;> rintro en w2 ⟨rfl, hP2, hb2⟩ <;> have hc2 : But g wc w2 := But.trans (But.of_below (by exact bl)) hb2 <;> have HS2 : Hid (∀ Z : World, Below w2.heap.size w2 Z → Z.cell? ⟨w.heap.size, 0, none⟩ = some (.pointer (some ⟨g, 0, none⟩))) := (fun Z hz => HPV.out Z (hc2.trans (But.of_below hz))) <;> have HP2 : Hid (PsS g A c l 2 (goAt cs2 2) w2) := hP2 <;> have hg2 : g < w2.heap.size := hP2.blk.lt <;> clear hP2 hb2
        go_wp2_with fail
        refine hK.out _ _ ?_ (fun hHeld => ?_)
        · try dsimp only
          first | exact HS0.out _ (by exact bl) | exact HS2.out _ (by exact bl) | exact HS9.out _ (by exact bl) | exact HS14.out _ (by exact bl)
        clear hK K
        refine ap ?_
        refine tS [3, 4, 5, 6, 7, 8] ?_
        iterate 6 (refine tC ?_; refine ap ?_)
        refine tN ?_
        refine rdy 9 fun K hK => ?_
        go_simp
        refine (HC2.out _ (HP2.out.below (by exact bl))).mono ?_ <;> rintro en w9 ⟨rfl, hP9, hb9⟩ <;> have hc9 : But g wc w9 := But.trans (But.trans hc2 (But.of_below (by exact bl))) hb9 <;> have HS9 : Hid (∀ Z : World, Below w9.heap.size w9 Z → Z.cell? ⟨w.heap.size, 0, none⟩ = some (.pointer (some ⟨g, 0, none⟩))) := (fun Z hz => HPV.out Z (hc9.trans (But.of_below hz))) <;> have HP9 := Lib.hid hP9 <;> have hg9 : g < w9.heap.size := hP9.blk.lt <;> clear hP9 hb9
        go_wp2_with fail
        refine hK.out _ _ ?_ (fun hHeld => ?_)
        · try dsimp only
          first | exact HS0.out _ (by exact bl) | exact HS2.out _ (by exact bl) | exact HS9.out _ (by exact bl) | exact HS14.out _ (by exact bl)
        clear hK K
        refine ap ?_
        refine tS [10, 11, 12] ?_
        iterate 3 (refine tC ?_; refine ap ?_)
        refine tN ?_
        refine rdy 13 fun K hK => ?_
        go_simp
        skip
        go_wp2_with fail
        refine hK.out _ _ ?_ (fun hHeld => ?_)
        · try dsimp only
          first | exact HS0.out _ (by exact bl) | exact HS2.out _ (by exact bl) | exact HS9.out _ (by exact bl) | exact HS14.out _ (by exact bl)
        clear hK K
        refine ap ?_
        refine rdy 14 fun K hK => ?_
        go_simp
        refine (HCW.out _ _ _ (PsS.below HP9.out (by exact bl)) ((Blk.new' _ _ _ _ rfl).cell 0) (by omega)).mono ?_ <;> rintro en w14 ⟨rfl, hP14, hb14⟩ <;> have hc14 : But g wc w14 := But.trans (But.trans hc9 (But.of_below (by exact bl))) hb14 <;> have HS14 : Hid (∀ Z : World, Below w14.heap.size w14 Z → Z.cell? ⟨w.heap.size, 0, none⟩ = some (.pointer (some ⟨g, 0, none⟩))) := (fun Z hz => HPV.out Z (hc14.trans (But.of_below hz))) <;> (try rw [goAt_goAt, goAt_set _ _ _ _ (by decide), goAt_goAt, HCS.out] at hP14) <;> have HP14 := Lib.hid hP14 <;> have hg14 : g < w14.heap.size := hP14.blk.lt <;> clear hP14 hb14
        go_wp2_with fail
        refine hK.out _ _ ?_ (fun hHeld => ?_)
        · try dsimp only
          first | exact HS0.out _ (by exact bl) | exact HS2.out _ (by exact bl) | exact HS9.out _ (by exact bl) | exact HS14.out _ (by exact bl)
        clear hK K
        refine ap ?_
        refine tS [15, 16] ?_
        iterate 2 (refine tC ?_; refine ap ?_)
        refine tN ?_
        refine tS [17, 18, 19] ?_
        iterate 3 (refine tX ?_; refine ap ?_)
        refine tN ?_
        refine tS [20, 21] ?_
        iterate 2 (refine tC ?_; refine ap ?_)
        refine tN ?_
        refine wpAnyH_done (by kernel_rfl) ?_ _
        go_wp2_with fail
        go_ret
        exact ⟨rfl, HBW.out.trans hc14⟩
      | true =>
        have HR : Hid ((O4.map fun r => (stI t r.1, r.2)) = R) := HR.out
        have HC5 := Lib.hid (HC4.out rfl)
        clear HC4
        cases O4 with
        | none =>
          have hR : R = none := HR.out.symm
          subst hR
          refine wp_region_held_drew (S := (fun Z => Z.cell? ⟨w.heap.size, 0, none⟩ = some (.pointer (some ⟨g, 0, none⟩)))) (by kernel_rfl) ?_ (fun hHeld => ?_)
          · try dsimp only
            first | exact HS0.out _ (by exact bl) | exact HS2.out _ (by exact bl) | exact HS9.out _ (by exact bl) | exact HS14.out _ (by exact bl) | exact HS19.out _ (by exact bl)
          refine tS [0] (tC ?_)
          refine ap (tN ?_)
          refine rdy 1 fun K hK => ?_
          go_simp
          skip
          go_wp2_with fail
          refine hK.out _ _ ?_ (fun hHeld => ?_)
          · try dsimp only
            first | exact HS0.out _ (by exact bl) | exact HS2.out _ (by exact bl) | exact HS9.out _ (by exact bl) | exact HS14.out _ (by exact bl) | exact HS19.out _ (by exact bl)
          clear hK K
          refine ap ?_
          refine rdy 2 fun K hK => ?_
          go_simp
          refine (HC1.out _ _ (HP1.out _ (by exact bl)) ((Blk.new' _ _ _ _ rfl).cell 0) (by omega)).mono ?_ <;> rintro en w2 ⟨rfl, hP2, hb2⟩ <;> have hc2 : But g wc w2 := But.trans (But.of_below (by exact bl)) hb2 <;> have HS2 : Hid (∀ Z : World, Below w2.heap.size w2 Z → Z.cell? ⟨w.heap.size, 0, none⟩ = some (.pointer (some ⟨g, 0, none⟩))) := (fun Z hz => HPV.out Z (hc2.trans (But.of_below hz))) <;> have HP2 : Hid (PsS g A c l 2 (goAt cs2 2) w2) := hP2 <;> have hg2 : g < w2.heap.size := hP2.blk.lt <;> clear hP2 hb2
          go_wp2_with fail
          refine hK.out _ _ ?_ (fun hHeld => ?_)
          · try dsimp only
            first | exact HS0.out _ (by exact bl) | exact HS2.out _ (by exact bl) | exact HS9.out _ (by exact bl) | exact HS14.out _ (by exact bl) | exact HS19.out _ (by exact bl)
          clear hK K
          refine ap ?_
          refine tS [3, 4, 5, 6, 7, 8] ?_
          iterate 6 (refine tC ?_; refine ap ?_)
          refine tN ?_
          refine rdy 9 fun K hK => ?_
          go_simp
          refine (HC2.out _ (HP2.out.below (by exact bl))).mono ?_ <;> rintro en w9 ⟨rfl, hP9, hb9⟩ <;> have hc9 : But g wc w9 := But.trans (But.trans hc2 (But.of_below (by exact bl))) hb9 <;> have HS9 : Hid (∀ Z : World, Below w9.heap.size w9 Z → Z.cell? ⟨w.heap.size, 0, none⟩ = some (.pointer (some ⟨g, 0, none⟩))) := (fun Z hz => HPV.out Z (hc9.trans (But.of_below hz))) <;> have HP9 := Lib.hid hP9 <;> have hg9 : g < w9.heap.size := hP9.blk.lt <;> clear hP9 hb9
          go_wp2_with fail
          refine hK.out _ _ ?_ (fun hHeld => ?_)
          · try dsimp only
            first | exact HS0.out _ (by exact bl) | exact HS2.out _ (by exact bl) | exact HS9.out _ (by exact bl) | exact HS14.out _ (by exact bl) | exact HS19.out _ (by exact bl)
          clear hK K
          refine ap ?_
          refine tS [10, 11, 12] ?_
          iterate 3 (refine tC ?_; refine ap ?_)
          refine tN ?_
          refine rdy 13 fun K hK => ?_
          go_simp
          skip
          go_wp2_with fail
          refine hK.out _ _ ?_ (fun hHeld => ?_)
          · try dsimp only
            first | exact HS0.out _ (by exact bl) | exact HS2.out _ (by exact bl) | exact HS9.out _ (by exact bl) | exact HS14.out _ (by exact bl) | exact HS19.out _ (by exact bl)
          clear hK K
          refine ap ?_
          refine rdy 14 fun K hK => ?_
          go_simp
          refine (HCW.out _ _ _ (PsS.below HP9.out (by exact bl)) ((Blk.new' _ _ _ _ rfl).cell 0) (by omega)).mono ?_ <;> rintro en w14 ⟨rfl, hP14, hb14⟩ <;> have hc14 : But g wc w14 := But.trans (But.trans hc9 (But.of_below (by exact bl))) hb14 <;> have HS14 : Hid (∀ Z : World, Below w14.heap.size w14 Z → Z.cell? ⟨w.heap.size, 0, none⟩ = some (.pointer (some ⟨g, 0, none⟩))) := (fun Z hz => HPV.out Z (hc14.trans (But.of_below hz))) <;> (try rw [goAt_goAt, goAt_set _ _ _ _ (by decide), goAt_goAt, HCS.out] at hP14) <;> have HP14 := Lib.hid hP14 <;> have hg14 : g < w14.heap.size := hP14.blk.lt <;> clear hP14 hb14
          go_wp2_with fail
          refine hK.out _ _ ?_ (fun hHeld => ?_)
          · try dsimp only
            first | exact HS0.out _ (by exact bl) | exact HS2.out _ (by exact bl) | exact HS9.out _ (by exact bl) | exact HS14.out _ (by exact bl) | exact HS19.out _ (by exact bl)
          clear hK K
          refine ap ?_
          refine tS [15, 16, 17] ?_
          iterate 3 (refine tC ?_; refine ap ?_)
          refine tN ?_
          refine rdy 18 fun K hK => ?_
          go_simp
          skip
          go_wp2_with fail
          refine hK.out _ _ ?_ (fun hHeld => ?_)
          · try dsimp only
            first | exact HS0.out _ (by exact bl) | exact HS2.out _ (by exact bl) | exact HS9.out _ (by exact bl) | exact HS14.out _ (by exact bl) | exact HS19.out _ (by exact bl)
          clear hK K
          refine ap ?_
          refine rdy 19 fun K hK => ?_
          go_simp
          refine (HC5.out _ t (But.trans hc14 (But.of_below (by exact bl))) (HP14.out.below (by exact bl))).mono ?_ <;> rintro en w19 ⟨rfl, hb19⟩ <;> have hc19 : But g wc w19 := But.trans (But.trans hc14 (But.of_below (by exact bl))) hb19 <;> have HS19 : Hid (∀ Z : World, Below w19.heap.size w19 Z → Z.cell? ⟨w.heap.size, 0, none⟩ = some (.pointer (some ⟨g, 0, none⟩))) := (fun Z hz => HPV.out Z (hc19.trans (But.of_below hz)))
          go_wp2_with fail
          refine hK.out _ _ ?_ (fun hHeld => ?_)
          · try dsimp only
            first | exact HS0.out _ (by exact bl) | exact HS2.out _ (by exact bl) | exact HS9.out _ (by exact bl) | exact HS14.out _ (by exact bl) | exact HS19.out _ (by exact bl)
          clear hK K
          refine ap ?_
          refine tS [20, 21] ?_
          iterate 2 (refine tC ?_; refine ap ?_)
          refine tN ?_
          refine wpAnyH_done (by kernel_rfl) ?_ _
          go_wp2_with fail
          go_ret
          exact ⟨rfl, HBW.out.trans hc19⟩
        | some r =>
          obtain ⟨vs, b'⟩ := r
          have hR : R = some (stI t vs, b') := HR.out.symm
          subst hR
          refine wp_region_held_drew (S := (fun Z => Z.cell? ⟨w.heap.size, 0, none⟩ = some (.pointer (some ⟨g, 0, none⟩)))) (by kernel_rfl) ?_ (fun hHeld => ?_)
          · try dsimp only
            first | exact HS0.out _ (by exact bl) | exact HS2.out _ (by exact bl) | exact HS9.out _ (by exact bl) | exact HS14.out _ (by exact bl) | exact HS19.out _ (by exact bl)
          refine tS [0] (tC ?_)
          refine ap (tN ?_)
          refine rdy 1 fun K hK => ?_
          go_simp
          skip
          go_wp2_with fail
          refine hK.out _ _ ?_ (fun hHeld => ?_)
          · try dsimp only
            first | exact HS0.out _ (by exact bl) | exact HS2.out _ (by exact bl) | exact HS9.out _ (by exact bl) | exact HS14.out _ (by exact bl) | exact HS19.out _ (by exact bl)
          clear hK K
          refine ap ?_
          refine rdy 2 fun K hK => ?_
          go_simp
          refine (HC1.out _ _ (HP1.out _ (by exact bl)) ((Blk.new' _ _ _ _ rfl).cell 0) (by omega)).mono ?_ <;> rintro en w2 ⟨rfl, hP2, hb2⟩ <;> have hc2 : But g wc w2 := But.trans (But.of_below (by exact bl)) hb2 <;> have HS2 : Hid (∀ Z : World, Below w2.heap.size w2 Z → Z.cell? ⟨w.heap.size, 0, none⟩ = some (.pointer (some ⟨g, 0, none⟩))) := (fun Z hz => HPV.out Z (hc2.trans (But.of_below hz))) <;> have HP2 : Hid (PsS g A c l 2 (goAt cs2 2) w2) := hP2 <;> have hg2 : g < w2.heap.size := hP2.blk.lt <;> clear hP2 hb2
          go_wp2_with fail
          refine hK.out _ _ ?_ (fun hHeld => ?_)
          · try dsimp only
            first | exact HS0.out _ (by exact bl) | exact HS2.out _ (by exact bl) | exact HS9.out _ (by exact bl) | exact HS14.out _ (by exact bl) | exact HS19.out _ (by exact bl)
          clear hK K
          refine ap ?_
          refine tS [3, 4, 5, 6, 7, 8] ?_
          iterate 6 (refine tC ?_; refine ap ?_)
          refine tN ?_
          refine rdy 9 fun K hK => ?_
          go_simp
          refine (HC2.out _ (HP2.out.below (by exact bl))).mono ?_ <;> rintro en w9 ⟨rfl, hP9, hb9⟩ <;> have hc9 : But g wc w9 := But.trans (But.trans hc2 (But.of_below (by exact bl))) hb9 <;> have HS9 : Hid (∀ Z : World, Below w9.heap.size w9 Z → Z.cell? ⟨w.heap.size, 0, none⟩ = some (.pointer (some ⟨g, 0, none⟩))) := (fun Z hz => HPV.out Z (hc9.trans (But.of_below hz))) <;> have HP9 := Lib.hid hP9 <;> have hg9 : g < w9.heap.size := hP9.blk.lt <;> clear hP9 hb9
          go_wp2_with fail
          refine hK.out _ _ ?_ (fun hHeld => ?_)
          · try dsimp only
            first | exact HS0.out _ (by exact bl) | exact HS2.out _ (by exact bl) | exact HS9.out _ (by exact bl) | exact HS14.out _ (by exact bl) | exact HS19.out _ (by exact bl)
          clear hK K
          refine ap ?_
          refine tS [10, 11, 12] ?_
          iterate 3 (refine tC ?_; refine ap ?_)
          refine tN ?_
          refine rdy 13 fun K hK => ?_
          go_simp
          skip
          go_wp2_with fail
          refine hK.out _ _ ?_ (fun hHeld => ?_)
          · try dsimp only
            first | exact HS0.out _ (by exact bl) | exact HS2.out _ (by exact bl) | exact HS9.out _ (by exact bl) | exact HS14.out _ (by exact bl) | exact HS19.out _ (by exact bl)
          clear hK K
          refine ap ?_
          refine rdy 14 fun K hK => ?_
          go_simp
          refine (HCW.out _ _ _ (PsS.below HP9.out (by exact bl)) ((Blk.new' _ _ _ _ rfl).cell 0) (by omega)).mono ?_ <;> rintro en w14 ⟨rfl, hP14, hb14⟩ <;> have hc14 : But g wc w14 := But.trans (But.trans hc9 (But.of_below (by exact bl))) hb14 <;> have HS14 : Hid (∀ Z : World, Below w14.heap.size w14 Z → Z.cell? ⟨w.heap.size, 0, none⟩ = some (.pointer (some ⟨g, 0, none⟩))) := (fun Z hz => HPV.out Z (hc14.trans (But.of_below hz))) <;> (try rw [goAt_goAt, goAt_set _ _ _ _ (by decide), goAt_goAt, HCS.out] at hP14) <;> have HP14 := Lib.hid hP14 <;> have hg14 : g < w14.heap.size := hP14.blk.lt <;> clear hP14 hb14
          go_wp2_with fail
          refine hK.out _ _ ?_ (fun hHeld => ?_)
          · try dsimp only
            first | exact HS0.out _ (by exact bl) | exact HS2.out _ (by exact bl) | exact HS9.out _ (by exact bl) | exact HS14.out _ (by exact bl) | exact HS19.out _ (by exact bl)
          clear hK K
          refine ap ?_
          refine tS [15, 16, 17] ?_
          iterate 3 (refine tC ?_; refine ap ?_)
          refine tN ?_
          refine rdy 18 fun K hK => ?_
          go_simp
          skip
          go_wp2_with fail
          refine hK.out _ _ ?_ (fun hHeld => ?_)
          · try dsimp only
            first | exact HS0.out _ (by exact bl) | exact HS2.out _ (by exact bl) | exact HS9.out _ (by exact bl) | exact HS14.out _ (by exact bl) | exact HS19.out _ (by exact bl)
          clear hK K
          refine ap ?_
          refine rdy 19 fun K hK => ?_
          go_simp
          refine (HC5.out _ t (But.trans hc14 (But.of_below (by exact bl))) (HP14.out.below (by exact bl))).mono ?_ <;> rintro en w19 ⟨rfl, cs19, hP19, hK19, hb19⟩ <;> have hc19 : But g wc w19 := But.trans (But.trans hc14 (But.of_below (by exact bl))) hb19 <;> have HS19 : Hid (∀ Z : World, Below w19.heap.size w19 Z → Z.cell? ⟨w.heap.size, 0, none⟩ = some (.pointer (some ⟨g, 0, none⟩))) := (fun Z hz => HPV.out Z (hc19.trans (But.of_below hz))) <;> have HK19 := Lib.hid (KI.from (B' := w.heap.size) (by have := hc14.size; have := HBW.out.size; simp; omega) _ _ _ hK19) <;> have HP19 := Lib.hid hP19 <;> clear hK19 hP19
          go_wp2_with fail
          refine hK.out _ _ ?_ (fun hHeld => ?_)
          · try dsimp only
            first | exact HS0.out _ (by exact bl) | exact HS2.out _ (by exact bl) | exact HS9.out _ (by exact bl) | exact HS14.out _ (by exact bl) | exact HS19.out _ (by exact bl)
          clear hK K
          refine ap ?_
          refine tS [20, 21] ?_
          iterate 2 (refine tC ?_; refine ap ?_)
          refine tN ?_
          refine wpAnyH_done (by kernel_rfl) ?_ _
          go_wp2_with fail
          go_ret
          obtain ⟨A', c', b2, rfl, hown, hfit, -⟩ := HK19.out
          obtain rfl := psC_at HP19.out
          exact ⟨pI A' c', rfl, HP19.out, stI_mem hown (fun b h1 h2 => ⟨h1, h2⟩), stI_ok (HNL.out t rfl) hfit (HLL.out _ rfl), HBW.out.trans hc19⟩

end Go.Proofs.YtchilcchogcibaaGreatDoor

namespace Go.Proofs.YtchilcchogcibaaGreatDoor
open Go.RowKit Go.ChangeMaps Go.MapKept

attribute [local go_sem] ByteArray.extract_mk ba_get ba_append
attribute [local go_sem ↓] Go.wp_at_zero Go.wp_at_succ

/-- A statement that ends where the tokens end. -/
def wholeP (l : List Tok) (o : Option (St × Nat)) : Option (St × Nat) := o.bind fun r => if r.2 = l.length then some r else none
set_option maxRecDepth 100000 in
set_option maxHeartbeats 8000000 in
theorem pstmt_select (g : Nat) (A : Option Addr) (c : Nat) (l : List Tok) (w : World) (h0 : l[0]? = some ⟨1, [83, 69, 76, 69, 67, 84]⟩) (hp : PsE g c l w) (h : PsS g A c l 0 (psC A l.length c 0 ((stZ [] []).cells stPZ)) w) :
    Calls Tryz.prog 57 #[.pointer (some ⟨g, 0, none⟩)] w (RetSm (wholeP l (fromP l [115, 101, 108, 101, 99, 116] [[42], [70, 82, 79, 77]])) g A c l w) := by
  obtain ⟨R, hR⟩ : ∃ R, wholeP l (fromP l [115, 101, 108, 101, 99, 116] [[42], [70, 82, 79, 77]]) = R := ⟨_, rfl⟩
  rw [hR]
  have hgw : g < w.heap.size := h.blk.lt
  have hll : 0 < l.length := by
    rcases Nat.eq_zero_or_pos l.length with e | e
    · rw [List.getElem?_eq_none (by omega)] at h0; cases h0
    · exact e
  obtain ⟨b1, o1, t, rfl, hbB, hv, c0, c1⟩ := h.tk.at_ hll
  obtain rfl : t = ⟨1, [83, 69, 76, 69, 67, 84]⟩ := by rw [h0] at hv; injection hv with hv; exact hv.symm
  rw [Nat.zero_mul, Nat.add_zero] at c0 c1
  obtain ⟨w0, v1, v2, v3, v4, v5, v6, v7, v8, w9, m0, m1, m2, m3, m4, m5, m6, m7, m8, m9, hm, hbm⟩ := kindsM g w
  have hP9 := h.below hbm
  have c0' : w9.cell? ⟨b1, o1, none⟩ = some (.int .i64 1) := (hbm.cell (p := ⟨b1, o1, none⟩) (show b1 < _ by omega)).trans c0
  have c1' : w9.cell? ⟨b1, o1 + 1, none⟩ = some (.string ⟨([83, 69, 76, 69, 67, 84] : List UInt8).toArray⟩) := (hbm.cell (p := ⟨b1, o1 + 1, none⟩) (show b1 < _ by omega)).trans c1
  have x0 : w9.cell? ⟨g, 0, none⟩ = some (.slice (some ⟨b1, o1, none⟩) l.length c) := (hP9.blk.cell 0).trans hP9.c0
  have x1 : w9.cell? ⟨g, 1, none⟩ = some (.int .i64 0) := (hP9.blk.cell 1).trans hP9.c1
  have f1 := hP9.blk.frozen 1
  have q1 := lookK (i := 5) (f := 102) [83, 69, 76, 69, 67, 84] hm (by kernel_rfl)
  have hP10 : PsS g (some ⟨b1, o1, none⟩) c l 1 (psC (some ⟨b1, o1, none⟩) l.length c 1 ((stZ [] []).cells stPZ)) (w9.setCell ⟨g, 1, none⟩ (.int .i64 (1 : Nat))) := by have := hP9.move 1; rw [psC_go] at this; exact this
  obtain ⟨w10, hw10⟩ : ∃ x, w9.setCell ⟨g, 1, none⟩ (.int .i64 1) = x := ⟨_, rfl⟩
  have hw10' : w9.setCell ⟨g, 1, none⟩ (.int .i64 (1 : Nat)) = w10 := hw10
  rw [hw10'] at hP10
  have HB10 : Hid (But g w w10) := by rw [← hw10]; exact (But.of_below (p := g) hbm).set 1 _
  have HW10 := Lib.hid hw10
  have HM : Hid (∀ Z : World, Below w10.heap.size w10 Z → Calls Tryz.prog 102 #[.pointer (some ⟨g, 0, none⟩)] Z (RetSm (fromP l [115, 101, 108, 101, 99, 116] [[42], [70, 82, 79, 77]]) g (some ⟨b1, o1, none⟩) c l Z)) := fun Z hz =>
    choose_any g (some ⟨b1, o1, none⟩) c l Z ((hp.but HB10.out).below hz (Nat.le_of_lt hP10.blk.lt)) (hP10.below hz)
  obtain ⟨G, hG⟩ : ∃ x, fromP l [115, 101, 108, 101, 99, 116] [[42], [70, 82, 79, 77]] = x := ⟨_, rfl⟩
  have hR : (G.bind fun r => if r.2 = l.length then some r else none) = R := by rw [← hG]; exact hR
  rw [hG] at HM
  obtain ⟨N, hN⟩ : ∃ N, l.length = N := ⟨_, rfl⟩
  have HSA : Hid (∀ Z : World, Below w10.heap.size w10 Z → Z.cell? ⟨g, 0, none⟩ = some (.slice (some ⟨b1, o1, none⟩) N c)) := fun Z hz => by rw [← hN]; exact ((hP10.below hz).blk.cell 0).trans hP10.c0
  rw [hN] at hR hll x0
  have HR := Lib.hid hR
  have HN := Lib.hid hN
  have i0 : ¬ (N : Int) = 0 := by omega
  have i1 : ((N : Int) == 0) = false := by rw [beq_eq_false_iff_ne]; exact i0
  have i2 : (0 : Int) < (N : Int) := by omega
  unfold meV at m1 m2 m3 m4 m5 m6 m7 m8 m9 q1
  clear hR hG h h0 hp hP9 hP10 hw10 hw10' hm hbm c0 c1 hv hN
  go_enter Tryz.func57, Tryz.ntmps57
  go_upto_region 6 with fail
  rw [HW10.out]
  clear m0 m1 m2 m3 m4 m5 m6 m7 m8 m9 q1 x0 x1 c0' c1' f1 HW10
  cases G with
  | none =>
    have hR : R = none := HR.out.symm
    subst hR
    refine wp_region_held_drew (S := (fun _ => True)) (by kernel_rfl) ?_ (fun hHeld => ?_)
    · try dsimp only
      first | done | exact trivial
    refine tS [0, 1, 2] ?_
    iterate 3 (refine tC ?_; refine ap ?_)
    refine tN ?_
    refine rdy 3 fun K hK => ?_
    go_simp
    (refine (HM.out _ (by exact bl)).mono ?_) <;> rintro en w3 ⟨rfl, hb3⟩
    go_wp2_with fail
    refine hK.out _ _ ?_ (fun hHeld => ?_)
    · try dsimp only
      first | done | exact trivial
    clear hK K
    refine ap ?_
    refine tS [4, 5] ?_
    iterate 2 (refine tC ?_; refine ap ?_)
    refine tN ?_
    refine tS [6, 7, 8, 9, 10, 11, 12, 13, 14, 15] ?_
    iterate 10 (refine tX ?_; refine ap ?_)
    refine tN ?_
    refine tS [16, 17] ?_
    iterate 2 (refine tC ?_; refine ap ?_)
    refine tN ?_
    refine wpAnyH_done (by kernel_rfl) ?_ _
    go_wp2_with fail
    go_ret
    exact ⟨rfl, HB10.out.drew.trans hb3⟩
  | some r =>
    obtain ⟨s, n⟩ := r
    have HR : Hid ((if n = N then some (s, n) else none) = R) := HR.out
    by_cases h6 : n = N
    · have hR : R = some (s, n) := by rw [← HR.out, if_pos h6]
      clear HR
      subst hR
      subst h6
      have e6 : ((n : Int) == (n : Int)) = true := beq_self_eq_true _
      refine wp_region_held_drew (S := (fun Z => Z.cell? ⟨g, 0, none⟩ = some (.slice (some ⟨b1, o1, none⟩) n c))) (by kernel_rfl) ?_ (fun hHeld => ?_)
      · try dsimp only
        first | exact HSA.out _ (by exact bl) | exact HSB.out _ (by exact bl)
      refine tS [0, 1, 2] ?_
      iterate 3 (refine tC ?_; refine ap ?_)
      refine tN ?_
      refine rdy 3 fun K hK => ?_
      go_simp
      (refine (HM.out _ (by exact bl)).mono ?_) <;> rintro en w3 ⟨p, rfl, hP3, hQ3, hok3, hb3⟩ <;> have HSB : Hid (∀ Z : World, Below w3.heap.size w3 Z → Z.cell? ⟨g, 0, none⟩ = some (.slice (some ⟨b1, o1, none⟩) n c)) := (fun Z hz => HN.out ▸ (((hP3.below hz).blk.cell 0).trans hP3.c0)) <;> have x1 : w3.cell? ⟨g, 1, none⟩ = some (.int .i64 (n : Nat)) := (hP3.blk.cell 1).trans hP3.c1 <;> have HP3 := Lib.hid hP3 <;> have HQ3 := Lib.hid hQ3 <;> have HO3 := Lib.hid hok3 <;> clear hP3 hQ3 hok3
      go_wp2_with fail
      refine hK.out _ _ ?_ (fun hHeld => ?_)
      · try dsimp only
        first | exact HSA.out _ (by exact bl) | exact HSB.out _ (by exact bl)
      clear hK K
      refine ap ?_
      refine tS [4, 5, 6, 7, 8, 10, 11, 12, 13, 14] ?_
      iterate 10 (refine tC ?_; refine ap ?_)
      refine tN ?_
      refine rdy 9 fun K hK => ?_
      go_simp
      skip
      go_wp2_with fail
      refine hK.out _ _ ?_ (fun hHeld => ?_)
      · try dsimp only
        first | exact HSA.out _ (by exact bl) | exact HSB.out _ (by exact bl)
      clear hK K
      refine ap ?_
      refine tS [15, 16, 17] ?_
      iterate 3 (refine tC ?_; refine ap ?_)
      refine tN ?_
      refine wpAnyH_done (by kernel_rfl) ?_ _
      go_wp2_with fail
      go_ret
      exact ⟨p, rfl, HP3.out, HQ3.out.keep fun b hb => ⟨⟨Nat.le_trans HB10.out.size hb.1, hb.2⟩, fun _ => rfl⟩, HO3.out, HB10.out.drew.trans hb3⟩
    · have hR : R = none := by rw [← HR.out, if_neg h6]
      have e7 : ¬ (n : Int) = (N : Int) := by omega
      have e6 : ((n : Int) == (N : Int)) = false := by rw [beq_eq_false_iff_ne]; exact e7
      clear HR h6
      subst hR
      refine wp_region_held_drew (S := (fun Z => Z.cell? ⟨g, 0, none⟩ = some (.slice (some ⟨b1, o1, none⟩) N c))) (by kernel_rfl) ?_ (fun hHeld => ?_)
      · try dsimp only
        first | exact HSA.out _ (by exact bl) | exact HSB.out _ (by exact bl)
      refine tS [0, 1, 2] ?_
      iterate 3 (refine tC ?_; refine ap ?_)
      refine tN ?_
      refine rdy 3 fun K hK => ?_
      go_simp
      (refine (HM.out _ (by exact bl)).mono ?_) <;> rintro en w3 ⟨p, rfl, hP3, hQ3, hok3, hb3⟩ <;> have HSB : Hid (∀ Z : World, Below w3.heap.size w3 Z → Z.cell? ⟨g, 0, none⟩ = some (.slice (some ⟨b1, o1, none⟩) N c)) := (fun Z hz => HN.out ▸ (((hP3.below hz).blk.cell 0).trans hP3.c0)) <;> have x1 : w3.cell? ⟨g, 1, none⟩ = some (.int .i64 (n : Nat)) := (hP3.blk.cell 1).trans hP3.c1 <;> clear hP3 hQ3 hok3
      go_wp2_with fail
      refine hK.out _ _ ?_ (fun hHeld => ?_)
      · try dsimp only
        first | exact HSA.out _ (by exact bl) | exact HSB.out _ (by exact bl)
      clear hK K
      refine ap ?_
      refine tS [4, 5, 6, 7, 8, 10, 11, 12, 13, 14] ?_
      iterate 10 (refine tC ?_; refine ap ?_)
      refine tN ?_
      refine rdy 9 fun K hK => ?_
      go_simp
      skip
      go_wp2_with fail
      refine hK.out _ _ ?_ (fun hHeld => ?_)
      · try dsimp only
        first | exact HSA.out _ (by exact bl) | exact HSB.out _ (by exact bl)
      clear hK K
      refine ap ?_
      refine tS [15, 16, 17] ?_
      iterate 3 (refine tC ?_; refine ap ?_)
      refine tN ?_
      refine wpAnyH_done (by kernel_rfl) ?_ _
      go_wp2_with fail
      go_ret
      exact ⟨rfl, HB10.out.drew.trans hb3⟩
set_option maxRecDepth 100000 in
set_option maxHeartbeats 8000000 in
theorem pstmt_delete (g : Nat) (A : Option Addr) (c : Nat) (l : List Tok) (w : World) (h0 : l[0]? = some ⟨1, [68, 69, 76, 69, 84, 69]⟩) (hp : PsE g c l w) (h : PsS g A c l 0 (psC A l.length c 0 ((stZ [] []).cells stPZ)) w) :
    Calls Tryz.prog 57 #[.pointer (some ⟨g, 0, none⟩)] w (RetSm (wholeP l (fromP l [100, 101, 108, 101, 116, 101] [[70, 82, 79, 77]])) g A c l w) := by
  obtain ⟨R, hR⟩ : ∃ R, wholeP l (fromP l [100, 101, 108, 101, 116, 101] [[70, 82, 79, 77]]) = R := ⟨_, rfl⟩
  rw [hR]
  have hgw : g < w.heap.size := h.blk.lt
  have hll : 0 < l.length := by
    rcases Nat.eq_zero_or_pos l.length with e | e
    · rw [List.getElem?_eq_none (by omega)] at h0; cases h0
    · exact e
  obtain ⟨b1, o1, t, rfl, hbB, hv, c0, c1⟩ := h.tk.at_ hll
  obtain rfl : t = ⟨1, [68, 69, 76, 69, 84, 69]⟩ := by rw [h0] at hv; injection hv with hv; exact hv.symm
  rw [Nat.zero_mul, Nat.add_zero] at c0 c1
  obtain ⟨w0, v1, v2, v3, v4, v5, v6, v7, v8, w9, m0, m1, m2, m3, m4, m5, m6, m7, m8, m9, hm, hbm⟩ := kindsM g w
  have hP9 := h.below hbm
  have c0' : w9.cell? ⟨b1, o1, none⟩ = some (.int .i64 1) := (hbm.cell (p := ⟨b1, o1, none⟩) (show b1 < _ by omega)).trans c0
  have c1' : w9.cell? ⟨b1, o1 + 1, none⟩ = some (.string ⟨([68, 69, 76, 69, 84, 69] : List UInt8).toArray⟩) := (hbm.cell (p := ⟨b1, o1 + 1, none⟩) (show b1 < _ by omega)).trans c1
  have x0 : w9.cell? ⟨g, 0, none⟩ = some (.slice (some ⟨b1, o1, none⟩) l.length c) := (hP9.blk.cell 0).trans hP9.c0
  have x1 : w9.cell? ⟨g, 1, none⟩ = some (.int .i64 0) := (hP9.blk.cell 1).trans hP9.c1
  have f1 := hP9.blk.frozen 1
  have q1 := lookK (i := 4) (f := 101) [68, 69, 76, 69, 84, 69] hm (by kernel_rfl)
  have hP10 : PsS g (some ⟨b1, o1, none⟩) c l 1 (psC (some ⟨b1, o1, none⟩) l.length c 1 ((stZ [] []).cells stPZ)) (w9.setCell ⟨g, 1, none⟩ (.int .i64 (1 : Nat))) := by have := hP9.move 1; rw [psC_go] at this; exact this
  obtain ⟨w10, hw10⟩ : ∃ x, w9.setCell ⟨g, 1, none⟩ (.int .i64 1) = x := ⟨_, rfl⟩
  have hw10' : w9.setCell ⟨g, 1, none⟩ (.int .i64 (1 : Nat)) = w10 := hw10
  rw [hw10'] at hP10
  have HB10 : Hid (But g w w10) := by rw [← hw10]; exact (But.of_below (p := g) hbm).set 1 _
  have HW10 := Lib.hid hw10
  have HM : Hid (∀ Z : World, Below w10.heap.size w10 Z → Calls Tryz.prog 101 #[.pointer (some ⟨g, 0, none⟩)] Z (RetSm (fromP l [100, 101, 108, 101, 116, 101] [[70, 82, 79, 77]]) g (some ⟨b1, o1, none⟩) c l Z)) := fun Z hz =>
    delete_any g (some ⟨b1, o1, none⟩) c l Z ((hp.but HB10.out).below hz (Nat.le_of_lt hP10.blk.lt)) (hP10.below hz)
  obtain ⟨G, hG⟩ : ∃ x, fromP l [100, 101, 108, 101, 116, 101] [[70, 82, 79, 77]] = x := ⟨_, rfl⟩
  have hR : (G.bind fun r => if r.2 = l.length then some r else none) = R := by rw [← hG]; exact hR
  rw [hG] at HM
  obtain ⟨N, hN⟩ : ∃ N, l.length = N := ⟨_, rfl⟩
  have HSA : Hid (∀ Z : World, Below w10.heap.size w10 Z → Z.cell? ⟨g, 0, none⟩ = some (.slice (some ⟨b1, o1, none⟩) N c)) := fun Z hz => by rw [← hN]; exact ((hP10.below hz).blk.cell 0).trans hP10.c0
  rw [hN] at hR hll x0
  have HR := Lib.hid hR
  have HN := Lib.hid hN
  have i0 : ¬ (N : Int) = 0 := by omega
  have i1 : ((N : Int) == 0) = false := by rw [beq_eq_false_iff_ne]; exact i0
  have i2 : (0 : Int) < (N : Int) := by omega
  unfold meV at m1 m2 m3 m4 m5 m6 m7 m8 m9 q1
  clear hR hG h h0 hp hP9 hP10 hw10 hw10' hm hbm c0 c1 hv hN
  go_enter Tryz.func57, Tryz.ntmps57
  go_upto_region 6 with fail
  rw [HW10.out]
  clear m0 m1 m2 m3 m4 m5 m6 m7 m8 m9 q1 x0 x1 c0' c1' f1 HW10
  cases G with
  | none =>
    have hR : R = none := HR.out.symm
    subst hR
    refine wp_region_held_drew (S := (fun _ => True)) (by kernel_rfl) ?_ (fun hHeld => ?_)
    · try dsimp only
      first | done | exact trivial
    refine tS [0, 1, 2] ?_
    iterate 3 (refine tC ?_; refine ap ?_)
    refine tN ?_
    refine rdy 3 fun K hK => ?_
    go_simp
    (refine (HM.out _ (by exact bl)).mono ?_) <;> rintro en w3 ⟨rfl, hb3⟩
    go_wp2_with fail
    refine hK.out _ _ ?_ (fun hHeld => ?_)
    · try dsimp only
      first | done | exact trivial
    clear hK K
    refine ap ?_
    refine tS [4, 5] ?_
    iterate 2 (refine tC ?_; refine ap ?_)
    refine tN ?_
    refine tS [6, 7, 8, 9, 10, 11, 12, 13, 14, 15] ?_
    iterate 10 (refine tX ?_; refine ap ?_)
    refine tN ?_
    refine tS [16, 17] ?_
    iterate 2 (refine tC ?_; refine ap ?_)
    refine tN ?_
    refine wpAnyH_done (by kernel_rfl) ?_ _
    go_wp2_with fail
    go_ret
    exact ⟨rfl, HB10.out.drew.trans hb3⟩
  | some r =>
    obtain ⟨s, n⟩ := r
    have HR : Hid ((if n = N then some (s, n) else none) = R) := HR.out
    by_cases h6 : n = N
    · have hR : R = some (s, n) := by rw [← HR.out, if_pos h6]
      clear HR
      subst hR
      subst h6
      have e6 : ((n : Int) == (n : Int)) = true := beq_self_eq_true _
      refine wp_region_held_drew (S := (fun Z => Z.cell? ⟨g, 0, none⟩ = some (.slice (some ⟨b1, o1, none⟩) n c))) (by kernel_rfl) ?_ (fun hHeld => ?_)
      · try dsimp only
        first | exact HSA.out _ (by exact bl) | exact HSB.out _ (by exact bl)
      refine tS [0, 1, 2] ?_
      iterate 3 (refine tC ?_; refine ap ?_)
      refine tN ?_
      refine rdy 3 fun K hK => ?_
      go_simp
      (refine (HM.out _ (by exact bl)).mono ?_) <;> rintro en w3 ⟨p, rfl, hP3, hQ3, hok3, hb3⟩ <;> have HSB : Hid (∀ Z : World, Below w3.heap.size w3 Z → Z.cell? ⟨g, 0, none⟩ = some (.slice (some ⟨b1, o1, none⟩) n c)) := (fun Z hz => HN.out ▸ (((hP3.below hz).blk.cell 0).trans hP3.c0)) <;> have x1 : w3.cell? ⟨g, 1, none⟩ = some (.int .i64 (n : Nat)) := (hP3.blk.cell 1).trans hP3.c1 <;> have HP3 := Lib.hid hP3 <;> have HQ3 := Lib.hid hQ3 <;> have HO3 := Lib.hid hok3 <;> clear hP3 hQ3 hok3
      go_wp2_with fail
      refine hK.out _ _ ?_ (fun hHeld => ?_)
      · try dsimp only
        first | exact HSA.out _ (by exact bl) | exact HSB.out _ (by exact bl)
      clear hK K
      refine ap ?_
      refine tS [4, 5, 6, 7, 8, 10, 11, 12, 13, 14] ?_
      iterate 10 (refine tC ?_; refine ap ?_)
      refine tN ?_
      refine rdy 9 fun K hK => ?_
      go_simp
      skip
      go_wp2_with fail
      refine hK.out _ _ ?_ (fun hHeld => ?_)
      · try dsimp only
        first | exact HSA.out _ (by exact bl) | exact HSB.out _ (by exact bl)
      clear hK K
      refine ap ?_
      refine tS [15, 16, 17] ?_
      iterate 3 (refine tC ?_; refine ap ?_)
      refine tN ?_
      refine wpAnyH_done (by kernel_rfl) ?_ _
      go_wp2_with fail
      go_ret
      exact ⟨p, rfl, HP3.out, HQ3.out.keep fun b hb => ⟨⟨Nat.le_trans HB10.out.size hb.1, hb.2⟩, fun _ => rfl⟩, HO3.out, HB10.out.drew.trans hb3⟩
    · have hR : R = none := by rw [← HR.out, if_neg h6]
      have e7 : ¬ (n : Int) = (N : Int) := by omega
      have e6 : ((n : Int) == (N : Int)) = false := by rw [beq_eq_false_iff_ne]; exact e7
      clear HR h6
      subst hR
      refine wp_region_held_drew (S := (fun Z => Z.cell? ⟨g, 0, none⟩ = some (.slice (some ⟨b1, o1, none⟩) N c))) (by kernel_rfl) ?_ (fun hHeld => ?_)
      · try dsimp only
        first | exact HSA.out _ (by exact bl) | exact HSB.out _ (by exact bl)
      refine tS [0, 1, 2] ?_
      iterate 3 (refine tC ?_; refine ap ?_)
      refine tN ?_
      refine rdy 3 fun K hK => ?_
      go_simp
      (refine (HM.out _ (by exact bl)).mono ?_) <;> rintro en w3 ⟨p, rfl, hP3, hQ3, hok3, hb3⟩ <;> have HSB : Hid (∀ Z : World, Below w3.heap.size w3 Z → Z.cell? ⟨g, 0, none⟩ = some (.slice (some ⟨b1, o1, none⟩) N c)) := (fun Z hz => HN.out ▸ (((hP3.below hz).blk.cell 0).trans hP3.c0)) <;> have x1 : w3.cell? ⟨g, 1, none⟩ = some (.int .i64 (n : Nat)) := (hP3.blk.cell 1).trans hP3.c1 <;> clear hP3 hQ3 hok3
      go_wp2_with fail
      refine hK.out _ _ ?_ (fun hHeld => ?_)
      · try dsimp only
        first | exact HSA.out _ (by exact bl) | exact HSB.out _ (by exact bl)
      clear hK K
      refine ap ?_
      refine tS [4, 5, 6, 7, 8, 10, 11, 12, 13, 14] ?_
      iterate 10 (refine tC ?_; refine ap ?_)
      refine tN ?_
      refine rdy 9 fun K hK => ?_
      go_simp
      skip
      go_wp2_with fail
      refine hK.out _ _ ?_ (fun hHeld => ?_)
      · try dsimp only
        first | exact HSA.out _ (by exact bl) | exact HSB.out _ (by exact bl)
      clear hK K
      refine ap ?_
      refine tS [15, 16, 17] ?_
      iterate 3 (refine tC ?_; refine ap ?_)
      refine tN ?_
      refine wpAnyH_done (by kernel_rfl) ?_ _
      go_wp2_with fail
      go_ret
      exact ⟨rfl, HB10.out.drew.trans hb3⟩
set_option maxRecDepth 100000 in
set_option maxHeartbeats 8000000 in
theorem pstmt_drop (g : Nat) (A : Option Addr) (c : Nat) (l : List Tok) (w : World) (h0 : l[0]? = some ⟨1, [68, 82, 79, 80]⟩) (hp : PsE g c l w) (h : PsS g A c l 0 (psC A l.length c 0 ((stZ [] []).cells stPZ)) w) :
    Calls Tryz.prog 57 #[.pointer (some ⟨g, 0, none⟩)] w (RetSm (wholeP l (dropP l)) g A c l w) := by
  obtain ⟨R, hR⟩ : ∃ R, wholeP l (dropP l) = R := ⟨_, rfl⟩
  rw [hR]
  have hgw : g < w.heap.size := h.blk.lt
  have hll : 0 < l.length := by
    rcases Nat.eq_zero_or_pos l.length with e | e
    · rw [List.getElem?_eq_none (by omega)] at h0; cases h0
    · exact e
  obtain ⟨b1, o1, t, rfl, hbB, hv, c0, c1⟩ := h.tk.at_ hll
  obtain rfl : t = ⟨1, [68, 82, 79, 80]⟩ := by rw [h0] at hv; injection hv with hv; exact hv.symm
  rw [Nat.zero_mul, Nat.add_zero] at c0 c1
  obtain ⟨w0, v1, v2, v3, v4, v5, v6, v7, v8, w9, m0, m1, m2, m3, m4, m5, m6, m7, m8, m9, hm, hbm⟩ := kindsM g w
  have hP9 := h.below hbm
  have c0' : w9.cell? ⟨b1, o1, none⟩ = some (.int .i64 1) := (hbm.cell (p := ⟨b1, o1, none⟩) (show b1 < _ by omega)).trans c0
  have c1' : w9.cell? ⟨b1, o1 + 1, none⟩ = some (.string ⟨([68, 82, 79, 80] : List UInt8).toArray⟩) := (hbm.cell (p := ⟨b1, o1 + 1, none⟩) (show b1 < _ by omega)).trans c1
  have x0 : w9.cell? ⟨g, 0, none⟩ = some (.slice (some ⟨b1, o1, none⟩) l.length c) := (hP9.blk.cell 0).trans hP9.c0
  have x1 : w9.cell? ⟨g, 1, none⟩ = some (.int .i64 0) := (hP9.blk.cell 1).trans hP9.c1
  have f1 := hP9.blk.frozen 1
  have q1 := lookK (i := 1) (f := 98) [68, 82, 79, 80] hm (by kernel_rfl)
  have hP10 : PsS g (some ⟨b1, o1, none⟩) c l 1 (psC (some ⟨b1, o1, none⟩) l.length c 1 ((stZ [] []).cells stPZ)) (w9.setCell ⟨g, 1, none⟩ (.int .i64 (1 : Nat))) := by have := hP9.move 1; rw [psC_go] at this; exact this
  obtain ⟨w10, hw10⟩ : ∃ x, w9.setCell ⟨g, 1, none⟩ (.int .i64 1) = x := ⟨_, rfl⟩
  have hw10' : w9.setCell ⟨g, 1, none⟩ (.int .i64 (1 : Nat)) = w10 := hw10
  rw [hw10'] at hP10
  have HB10 : Hid (But g w w10) := by rw [← hw10]; exact (But.of_below (p := g) hbm).set 1 _
  have HW10 := Lib.hid hw10
  have HM : Hid (∀ Z : World, Below w10.heap.size w10 Z → Calls Tryz.prog 98 #[.pointer (some ⟨g, 0, none⟩)] Z (RetSm (dropP l) g (some ⟨b1, o1, none⟩) c l Z)) := fun Z hz =>
    drop_any g (some ⟨b1, o1, none⟩) c l Z ((hp.but HB10.out).below hz (Nat.le_of_lt hP10.blk.lt)) (hP10.below hz)
  obtain ⟨G, hG⟩ : ∃ x, dropP l = x := ⟨_, rfl⟩
  have hR : (G.bind fun r => if r.2 = l.length then some r else none) = R := by rw [← hG]; exact hR
  rw [hG] at HM
  obtain ⟨N, hN⟩ : ∃ N, l.length = N := ⟨_, rfl⟩
  have HSA : Hid (∀ Z : World, Below w10.heap.size w10 Z → Z.cell? ⟨g, 0, none⟩ = some (.slice (some ⟨b1, o1, none⟩) N c)) := fun Z hz => by rw [← hN]; exact ((hP10.below hz).blk.cell 0).trans hP10.c0
  rw [hN] at hR hll x0
  have HR := Lib.hid hR
  have HN := Lib.hid hN
  have i0 : ¬ (N : Int) = 0 := by omega
  have i1 : ((N : Int) == 0) = false := by rw [beq_eq_false_iff_ne]; exact i0
  have i2 : (0 : Int) < (N : Int) := by omega
  unfold meV at m1 m2 m3 m4 m5 m6 m7 m8 m9 q1
  clear hR hG h h0 hp hP9 hP10 hw10 hw10' hm hbm c0 c1 hv hN
  go_enter Tryz.func57, Tryz.ntmps57
  go_upto_region 6 with fail
  rw [HW10.out]
  clear m0 m1 m2 m3 m4 m5 m6 m7 m8 m9 q1 x0 x1 c0' c1' f1 HW10
  cases G with
  | none =>
    have hR : R = none := HR.out.symm
    subst hR
    refine wp_region_held_drew (S := (fun _ => True)) (by kernel_rfl) ?_ (fun hHeld => ?_)
    · try dsimp only
      first | done | exact trivial
    refine tS [0, 1, 2] ?_
    iterate 3 (refine tC ?_; refine ap ?_)
    refine tN ?_
    refine rdy 3 fun K hK => ?_
    go_simp
    (refine (HM.out _ (by exact bl)).mono ?_) <;> rintro en w3 ⟨rfl, hb3⟩
    go_wp2_with fail
    refine hK.out _ _ ?_ (fun hHeld => ?_)
    · try dsimp only
      first | done | exact trivial
    clear hK K
    refine ap ?_
    refine tS [4, 5] ?_
    iterate 2 (refine tC ?_; refine ap ?_)
    refine tN ?_
    refine tS [6, 7, 8, 9, 10, 11, 12, 13, 14, 15] ?_
    iterate 10 (refine tX ?_; refine ap ?_)
    refine tN ?_
    refine tS [16, 17] ?_
    iterate 2 (refine tC ?_; refine ap ?_)
    refine tN ?_
    refine wpAnyH_done (by kernel_rfl) ?_ _
    go_wp2_with fail
    go_ret
    exact ⟨rfl, HB10.out.drew.trans hb3⟩
  | some r =>
    obtain ⟨s, n⟩ := r
    have HR : Hid ((if n = N then some (s, n) else none) = R) := HR.out
    by_cases h6 : n = N
    · have hR : R = some (s, n) := by rw [← HR.out, if_pos h6]
      clear HR
      subst hR
      subst h6
      have e6 : ((n : Int) == (n : Int)) = true := beq_self_eq_true _
      refine wp_region_held_drew (S := (fun Z => Z.cell? ⟨g, 0, none⟩ = some (.slice (some ⟨b1, o1, none⟩) n c))) (by kernel_rfl) ?_ (fun hHeld => ?_)
      · try dsimp only
        first | exact HSA.out _ (by exact bl) | exact HSB.out _ (by exact bl)
      refine tS [0, 1, 2] ?_
      iterate 3 (refine tC ?_; refine ap ?_)
      refine tN ?_
      refine rdy 3 fun K hK => ?_
      go_simp
      (refine (HM.out _ (by exact bl)).mono ?_) <;> rintro en w3 ⟨p, rfl, hP3, hQ3, hok3, hb3⟩ <;> have HSB : Hid (∀ Z : World, Below w3.heap.size w3 Z → Z.cell? ⟨g, 0, none⟩ = some (.slice (some ⟨b1, o1, none⟩) n c)) := (fun Z hz => HN.out ▸ (((hP3.below hz).blk.cell 0).trans hP3.c0)) <;> have x1 : w3.cell? ⟨g, 1, none⟩ = some (.int .i64 (n : Nat)) := (hP3.blk.cell 1).trans hP3.c1 <;> have HP3 := Lib.hid hP3 <;> have HQ3 := Lib.hid hQ3 <;> have HO3 := Lib.hid hok3 <;> clear hP3 hQ3 hok3
      go_wp2_with fail
      refine hK.out _ _ ?_ (fun hHeld => ?_)
      · try dsimp only
        first | exact HSA.out _ (by exact bl) | exact HSB.out _ (by exact bl)
      clear hK K
      refine ap ?_
      refine tS [4, 5, 6, 7, 8, 10, 11, 12, 13, 14] ?_
      iterate 10 (refine tC ?_; refine ap ?_)
      refine tN ?_
      refine rdy 9 fun K hK => ?_
      go_simp
      skip
      go_wp2_with fail
      refine hK.out _ _ ?_ (fun hHeld => ?_)
      · try dsimp only
        first | exact HSA.out _ (by exact bl) | exact HSB.out _ (by exact bl)
      clear hK K
      refine ap ?_
      refine tS [15, 16, 17] ?_
      iterate 3 (refine tC ?_; refine ap ?_)
      refine tN ?_
      refine wpAnyH_done (by kernel_rfl) ?_ _
      go_wp2_with fail
      go_ret
      exact ⟨p, rfl, HP3.out, HQ3.out.keep fun b hb => ⟨⟨Nat.le_trans HB10.out.size hb.1, hb.2⟩, fun _ => rfl⟩, HO3.out, HB10.out.drew.trans hb3⟩
    · have hR : R = none := by rw [← HR.out, if_neg h6]
      have e7 : ¬ (n : Int) = (N : Int) := by omega
      have e6 : ((n : Int) == (N : Int)) = false := by rw [beq_eq_false_iff_ne]; exact e7
      clear HR h6
      subst hR
      refine wp_region_held_drew (S := (fun Z => Z.cell? ⟨g, 0, none⟩ = some (.slice (some ⟨b1, o1, none⟩) N c))) (by kernel_rfl) ?_ (fun hHeld => ?_)
      · try dsimp only
        first | exact HSA.out _ (by exact bl) | exact HSB.out _ (by exact bl)
      refine tS [0, 1, 2] ?_
      iterate 3 (refine tC ?_; refine ap ?_)
      refine tN ?_
      refine rdy 3 fun K hK => ?_
      go_simp
      (refine (HM.out _ (by exact bl)).mono ?_) <;> rintro en w3 ⟨p, rfl, hP3, hQ3, hok3, hb3⟩ <;> have HSB : Hid (∀ Z : World, Below w3.heap.size w3 Z → Z.cell? ⟨g, 0, none⟩ = some (.slice (some ⟨b1, o1, none⟩) N c)) := (fun Z hz => HN.out ▸ (((hP3.below hz).blk.cell 0).trans hP3.c0)) <;> have x1 : w3.cell? ⟨g, 1, none⟩ = some (.int .i64 (n : Nat)) := (hP3.blk.cell 1).trans hP3.c1 <;> clear hP3 hQ3 hok3
      go_wp2_with fail
      refine hK.out _ _ ?_ (fun hHeld => ?_)
      · try dsimp only
        first | exact HSA.out _ (by exact bl) | exact HSB.out _ (by exact bl)
      clear hK K
      refine ap ?_
      refine tS [4, 5, 6, 7, 8, 10, 11, 12, 13, 14] ?_
      iterate 10 (refine tC ?_; refine ap ?_)
      refine tN ?_
      refine rdy 9 fun K hK => ?_
      go_simp
      skip
      go_wp2_with fail
      refine hK.out _ _ ?_ (fun hHeld => ?_)
      · try dsimp only
        first | exact HSA.out _ (by exact bl) | exact HSB.out _ (by exact bl)
      clear hK K
      refine ap ?_
      refine tS [15, 16, 17] ?_
      iterate 3 (refine tC ?_; refine ap ?_)
      refine tN ?_
      refine wpAnyH_done (by kernel_rfl) ?_ _
      go_wp2_with fail
      go_ret
      exact ⟨rfl, HB10.out.drew.trans hb3⟩
set_option maxRecDepth 100000 in
set_option maxHeartbeats 8000000 in
theorem pstmt_insert (g : Nat) (A : Option Addr) (c : Nat) (l : List Tok) (w : World) (h0 : l[0]? = some ⟨1, [73, 78, 83, 69, 82, 84]⟩) (hp : PsE g c l w) (h : PsS g A c l 0 (psC A l.length c 0 ((stZ [] []).cells stPZ)) w) :
    Calls Tryz.prog 57 #[.pointer (some ⟨g, 0, none⟩)] w (RetSm (wholeP l (insertP l)) g A c l w) := by
  obtain ⟨R, hR⟩ : ∃ R, wholeP l (insertP l) = R := ⟨_, rfl⟩
  rw [hR]
  have hgw : g < w.heap.size := h.blk.lt
  have hll : 0 < l.length := by
    rcases Nat.eq_zero_or_pos l.length with e | e
    · rw [List.getElem?_eq_none (by omega)] at h0; cases h0
    · exact e
  obtain ⟨b1, o1, t, rfl, hbB, hv, c0, c1⟩ := h.tk.at_ hll
  obtain rfl : t = ⟨1, [73, 78, 83, 69, 82, 84]⟩ := by rw [h0] at hv; injection hv with hv; exact hv.symm
  rw [Nat.zero_mul, Nat.add_zero] at c0 c1
  obtain ⟨w0, v1, v2, v3, v4, v5, v6, v7, v8, w9, m0, m1, m2, m3, m4, m5, m6, m7, m8, m9, hm, hbm⟩ := kindsM g w
  have hP9 := h.below hbm
  have c0' : w9.cell? ⟨b1, o1, none⟩ = some (.int .i64 1) := (hbm.cell (p := ⟨b1, o1, none⟩) (show b1 < _ by omega)).trans c0
  have c1' : w9.cell? ⟨b1, o1 + 1, none⟩ = some (.string ⟨([73, 78, 83, 69, 82, 84] : List UInt8).toArray⟩) := (hbm.cell (p := ⟨b1, o1 + 1, none⟩) (show b1 < _ by omega)).trans c1
  have x0 : w9.cell? ⟨g, 0, none⟩ = some (.slice (some ⟨b1, o1, none⟩) l.length c) := (hP9.blk.cell 0).trans hP9.c0
  have x1 : w9.cell? ⟨g, 1, none⟩ = some (.int .i64 0) := (hP9.blk.cell 1).trans hP9.c1
  have f1 := hP9.blk.frozen 1
  have q1 := lookK (i := 2) (f := 99) [73, 78, 83, 69, 82, 84] hm (by kernel_rfl)
  have hP10 : PsS g (some ⟨b1, o1, none⟩) c l 1 (psC (some ⟨b1, o1, none⟩) l.length c 1 ((stZ [] []).cells stPZ)) (w9.setCell ⟨g, 1, none⟩ (.int .i64 (1 : Nat))) := by have := hP9.move 1; rw [psC_go] at this; exact this
  obtain ⟨w10, hw10⟩ : ∃ x, w9.setCell ⟨g, 1, none⟩ (.int .i64 1) = x := ⟨_, rfl⟩
  have hw10' : w9.setCell ⟨g, 1, none⟩ (.int .i64 (1 : Nat)) = w10 := hw10
  rw [hw10'] at hP10
  have HB10 : Hid (But g w w10) := by rw [← hw10]; exact (But.of_below (p := g) hbm).set 1 _
  have HW10 := Lib.hid hw10
  have HM : Hid (∀ Z : World, Below w10.heap.size w10 Z → Calls Tryz.prog 99 #[.pointer (some ⟨g, 0, none⟩)] Z (RetSm (insertP l) g (some ⟨b1, o1, none⟩) c l Z)) := fun Z hz =>
    insert_any g (some ⟨b1, o1, none⟩) c l Z ((hp.but HB10.out).below hz (Nat.le_of_lt hP10.blk.lt)) (hP10.below hz)
  obtain ⟨G, hG⟩ : ∃ x, insertP l = x := ⟨_, rfl⟩
  have hR : (G.bind fun r => if r.2 = l.length then some r else none) = R := by rw [← hG]; exact hR
  rw [hG] at HM
  obtain ⟨N, hN⟩ : ∃ N, l.length = N := ⟨_, rfl⟩
  have HSA : Hid (∀ Z : World, Below w10.heap.size w10 Z → Z.cell? ⟨g, 0, none⟩ = some (.slice (some ⟨b1, o1, none⟩) N c)) := fun Z hz => by rw [← hN]; exact ((hP10.below hz).blk.cell 0).trans hP10.c0
  rw [hN] at hR hll x0
  have HR := Lib.hid hR
  have HN := Lib.hid hN
  have i0 : ¬ (N : Int) = 0 := by omega
  have i1 : ((N : Int) == 0) = false := by rw [beq_eq_false_iff_ne]; exact i0
  have i2 : (0 : Int) < (N : Int) := by omega
  unfold meV at m1 m2 m3 m4 m5 m6 m7 m8 m9 q1
  clear hR hG h h0 hp hP9 hP10 hw10 hw10' hm hbm c0 c1 hv hN
  go_enter Tryz.func57, Tryz.ntmps57
  go_upto_region 6 with fail
  rw [HW10.out]
  clear m0 m1 m2 m3 m4 m5 m6 m7 m8 m9 q1 x0 x1 c0' c1' f1 HW10
  cases G with
  | none =>
    have hR : R = none := HR.out.symm
    subst hR
    refine wp_region_held_drew (S := (fun _ => True)) (by kernel_rfl) ?_ (fun hHeld => ?_)
    · try dsimp only
      first | done | exact trivial
    refine tS [0, 1, 2] ?_
    iterate 3 (refine tC ?_; refine ap ?_)
    refine tN ?_
    refine rdy 3 fun K hK => ?_
    go_simp
    (refine (HM.out _ (by exact bl)).mono ?_) <;> rintro en w3 ⟨rfl, hb3⟩
    go_wp2_with fail
    refine hK.out _ _ ?_ (fun hHeld => ?_)
    · try dsimp only
      first | done | exact trivial
    clear hK K
    refine ap ?_
    refine tS [4, 5] ?_
    iterate 2 (refine tC ?_; refine ap ?_)
    refine tN ?_
    refine tS [6, 7, 8, 9, 10, 11, 12, 13, 14, 15] ?_
    iterate 10 (refine tX ?_; refine ap ?_)
    refine tN ?_
    refine tS [16, 17] ?_
    iterate 2 (refine tC ?_; refine ap ?_)
    refine tN ?_
    refine wpAnyH_done (by kernel_rfl) ?_ _
    go_wp2_with fail
    go_ret
    exact ⟨rfl, HB10.out.drew.trans hb3⟩
  | some r =>
    obtain ⟨s, n⟩ := r
    have HR : Hid ((if n = N then some (s, n) else none) = R) := HR.out
    by_cases h6 : n = N
    · have hR : R = some (s, n) := by rw [← HR.out, if_pos h6]
      clear HR
      subst hR
      subst h6
      have e6 : ((n : Int) == (n : Int)) = true := beq_self_eq_true _
      refine wp_region_held_drew (S := (fun Z => Z.cell? ⟨g, 0, none⟩ = some (.slice (some ⟨b1, o1, none⟩) n c))) (by kernel_rfl) ?_ (fun hHeld => ?_)
      · try dsimp only
        first | exact HSA.out _ (by exact bl) | exact HSB.out _ (by exact bl)
      refine tS [0, 1, 2] ?_
      iterate 3 (refine tC ?_; refine ap ?_)
      refine tN ?_
      refine rdy 3 fun K hK => ?_
      go_simp
      (refine (HM.out _ (by exact bl)).mono ?_) <;> rintro en w3 ⟨p, rfl, hP3, hQ3, hok3, hb3⟩ <;> have HSB : Hid (∀ Z : World, Below w3.heap.size w3 Z → Z.cell? ⟨g, 0, none⟩ = some (.slice (some ⟨b1, o1, none⟩) n c)) := (fun Z hz => HN.out ▸ (((hP3.below hz).blk.cell 0).trans hP3.c0)) <;> have x1 : w3.cell? ⟨g, 1, none⟩ = some (.int .i64 (n : Nat)) := (hP3.blk.cell 1).trans hP3.c1 <;> have HP3 := Lib.hid hP3 <;> have HQ3 := Lib.hid hQ3 <;> have HO3 := Lib.hid hok3 <;> clear hP3 hQ3 hok3
      go_wp2_with fail
      refine hK.out _ _ ?_ (fun hHeld => ?_)
      · try dsimp only
        first | exact HSA.out _ (by exact bl) | exact HSB.out _ (by exact bl)
      clear hK K
      refine ap ?_
      refine tS [4, 5, 6, 7, 8, 10, 11, 12, 13, 14] ?_
      iterate 10 (refine tC ?_; refine ap ?_)
      refine tN ?_
      refine rdy 9 fun K hK => ?_
      go_simp
      skip
      go_wp2_with fail
      refine hK.out _ _ ?_ (fun hHeld => ?_)
      · try dsimp only
        first | exact HSA.out _ (by exact bl) | exact HSB.out _ (by exact bl)
      clear hK K
      refine ap ?_
      refine tS [15, 16, 17] ?_
      iterate 3 (refine tC ?_; refine ap ?_)
      refine tN ?_
      refine wpAnyH_done (by kernel_rfl) ?_ _
      go_wp2_with fail
      go_ret
      exact ⟨p, rfl, HP3.out, HQ3.out.keep fun b hb => ⟨⟨Nat.le_trans HB10.out.size hb.1, hb.2⟩, fun _ => rfl⟩, HO3.out, HB10.out.drew.trans hb3⟩
    · have hR : R = none := by rw [← HR.out, if_neg h6]
      have e7 : ¬ (n : Int) = (N : Int) := by omega
      have e6 : ((n : Int) == (N : Int)) = false := by rw [beq_eq_false_iff_ne]; exact e7
      clear HR h6
      subst hR
      refine wp_region_held_drew (S := (fun Z => Z.cell? ⟨g, 0, none⟩ = some (.slice (some ⟨b1, o1, none⟩) N c))) (by kernel_rfl) ?_ (fun hHeld => ?_)
      · try dsimp only
        first | exact HSA.out _ (by exact bl) | exact HSB.out _ (by exact bl)
      refine tS [0, 1, 2] ?_
      iterate 3 (refine tC ?_; refine ap ?_)
      refine tN ?_
      refine rdy 3 fun K hK => ?_
      go_simp
      (refine (HM.out _ (by exact bl)).mono ?_) <;> rintro en w3 ⟨p, rfl, hP3, hQ3, hok3, hb3⟩ <;> have HSB : Hid (∀ Z : World, Below w3.heap.size w3 Z → Z.cell? ⟨g, 0, none⟩ = some (.slice (some ⟨b1, o1, none⟩) N c)) := (fun Z hz => HN.out ▸ (((hP3.below hz).blk.cell 0).trans hP3.c0)) <;> have x1 : w3.cell? ⟨g, 1, none⟩ = some (.int .i64 (n : Nat)) := (hP3.blk.cell 1).trans hP3.c1 <;> clear hP3 hQ3 hok3
      go_wp2_with fail
      refine hK.out _ _ ?_ (fun hHeld => ?_)
      · try dsimp only
        first | exact HSA.out _ (by exact bl) | exact HSB.out _ (by exact bl)
      clear hK K
      refine ap ?_
      refine tS [4, 5, 6, 7, 8, 10, 11, 12, 13, 14] ?_
      iterate 10 (refine tC ?_; refine ap ?_)
      refine tN ?_
      refine rdy 9 fun K hK => ?_
      go_simp
      skip
      go_wp2_with fail
      refine hK.out _ _ ?_ (fun hHeld => ?_)
      · try dsimp only
        first | exact HSA.out _ (by exact bl) | exact HSB.out _ (by exact bl)
      clear hK K
      refine ap ?_
      refine tS [15, 16, 17] ?_
      iterate 3 (refine tC ?_; refine ap ?_)
      refine tN ?_
      refine wpAnyH_done (by kernel_rfl) ?_ _
      go_wp2_with fail
      go_ret
      exact ⟨rfl, HB10.out.drew.trans hb3⟩

/-- What Parse answers, with its memory. -/
def RetPq (o : Option St) (w : World) (en : Ending) (w' : World) : Prop :=
  match o with
  | none => en = .returned (.tuple #[.agg ((stZ [] []).cells stPZ).toArray, .int .i64 2]) ∧ Below w.heap.size w w'
  | some x => ∃ p, en = .returned (.tuple #[.agg (x.cells p).toArray, .int .i64 0]) ∧ StQ 1000 x p (fun b => w.heap.size ≤ b ∧ b < w'.heap.size) w' ∧ x.Ok ∧ Below w.heap.size w w'
set_option maxRecDepth 100000 in
set_option maxHeartbeats 8000000 in
theorem pparse_of (s : List UInt8) (l : List Tok) (G : Option (St × Nat)) (w : World) (hs : s.length ≤ 900000) (hc : cutT s = some l) (hl : l.length ≤ 990) (ht : ∀ t ∈ l, t.s.length ≤ 1000) (hV : Env0 w) (hEr : Errs w)
    (hST : ∀ (g : Nat) (A : Option Addr) (c : Nat) (W : World), PsE g c l W → PsS g A c l 0 (psC A l.length c 0 ((stZ [] []).cells stPZ)) W → Calls Tryz.prog 57 #[.pointer (some ⟨g, 0, none⟩)] W (RetSm G g A c l W)) :
    Calls Tryz.prog 30 #[.string ⟨s.toArray⟩] w (RetPq (G.bind fun r => if mayS r.1 then some r.1 else none) w) := by
  obtain ⟨w0, hw0⟩ : ∃ w0, w.alloc (.cells #[.string ⟨#[]⟩, .string ⟨#[]⟩, .string ⟨#[]⟩, .slice none 0 0, .slice none 0 0, .string ⟨#[]⟩, .slice none 0 0, .slice none 0 0, .string ⟨#[]⟩, .int .i64 0, .int .i64 0, .string ⟨#[]⟩, .string ⟨#[]⟩, .slice none 0 0, .slice none 0 0, .slice none 0 0, .string ⟨#[]⟩, .int .i64 0, .int .i64 0, .string ⟨#[]⟩, .string ⟨#[]⟩, .slice none 0 0, .string ⟨#[]⟩] 34) = w0 := ⟨_, rfl⟩
  have k0 : Blk w0 w.heap.size 34 ((stZ [] []).cells stPZ).toArray := by rw [← hw0]; exact Blk.new _ _ _
  have hb0 : Below w.heap.size w w0 := by rw [← hw0]; exact bl
  have HC := Lib.hid (cutT_any s w0 hs (hV.below hb0).1)
  rw [hc] at HC
  have HW := Lib.hid hw0
  have hlt := k0.lt
  obtain ⟨R, hR⟩ : ∃ x, (G.bind fun r => if mayS r.1 then some r.1 else none) = x := ⟨_, rfl⟩
  rw [hR]
  have HR := Lib.hid hR
  have HT := Lib.hid ht
  have HE : Hid (∀ Z : World, Below w.heap.size w Z → Env0 Z) := fun Z hz => hV.below hz
  have HER : Hid (∀ g W, w.heap.size ≤ g → Below w.heap.size w W → ErG g W) := fun g W hg hb => ⟨w, hEr, hg, hb⟩
  have HSTM := Lib.hid hST
  clear hw0 hc hR ht hV hEr hST
  go_enter Tryz.func30, Tryz.ntmps30
  go_upto_region 1 with fail
  rw [show w.alloc _ = w0 from HW.out]
  clear HW
  go_wp2_with fail
  refine HC.out.mono ?_
  rintro en w1 ⟨A, c, rfl, hlc, hcm, htk, hb1⟩
  dsimp only [cutRes] at hlc htk ⊢
  have k1 := k0.below hb1 hlt
  have hb := hb0.trans (hb1.mono hb0.size)
  obtain ⟨w2, hw2⟩ : ∃ w2, w1.alloc (.cells #[.slice A l.length c, .int .i64 0, .string ⟨#[]⟩, .string ⟨#[]⟩, .string ⟨#[]⟩, .slice none 0 0, .slice none 0 0, .string ⟨#[]⟩, .slice none 0 0, .slice none 0 0, .string ⟨#[]⟩, .int .i64 0, .int .i64 0, .string ⟨#[]⟩, .string ⟨#[]⟩, .slice none 0 0, .slice none 0 0, .slice none 0 0, .string ⟨#[]⟩, .int .i64 0, .int .i64 0, .string ⟨#[]⟩, .string ⟨#[]⟩, .slice none 0 0, .string ⟨#[]⟩] 99) = w2 := ⟨_, rfl⟩
  have kp : Blk w2 w1.heap.size 99 #[.slice A l.length c, .int .i64 0, .string ⟨#[]⟩, .string ⟨#[]⟩, .string ⟨#[]⟩, .slice none 0 0, .slice none 0 0, .string ⟨#[]⟩, .slice none 0 0, .slice none 0 0, .string ⟨#[]⟩, .int .i64 0, .int .i64 0, .string ⟨#[]⟩, .string ⟨#[]⟩, .slice none 0 0, .slice none 0 0, .slice none 0 0, .string ⟨#[]⟩, .int .i64 0, .int .i64 0, .string ⟨#[]⟩, .string ⟨#[]⟩, .slice none 0 0, .string ⟨#[]⟩] := by rw [← hw2]; exact Blk.new _ _ _
  have hb12 : Below w1.heap.size w1 w2 := by rw [← hw2]; exact bl
  have hP : PsS w1.heap.size A c l 0 #[.slice A l.length c, .int .i64 0, .string ⟨#[]⟩, .string ⟨#[]⟩, .string ⟨#[]⟩, .slice none 0 0, .slice none 0 0, .string ⟨#[]⟩, .slice none 0 0, .slice none 0 0, .string ⟨#[]⟩, .int .i64 0, .int .i64 0, .string ⟨#[]⟩, .string ⟨#[]⟩, .slice none 0 0, .slice none 0 0, .slice none 0 0, .string ⟨#[]⟩, .int .i64 0, .int .i64 0, .string ⟨#[]⟩, .string ⟨#[]⟩, .slice none 0 0, .string ⟨#[]⟩] w2 := ⟨kp, rfl, rfl, (htk.vs (Nat.le_refl _)).below hb12⟩
  have HST := Lib.hid (HSTM.out w1.heap.size A c w2 ⟨hl, HT.out, hlc, HER.out _ _ (by have := k1.lt; omega) (hb.trans (hb12.mono hb.size))⟩ hP)
  have k2 := k1.below hb12 k1.lt
  have hbw2 := hb.trans (hb12.mono hb.size)
  have hzw : w.heap.size < w1.heap.size := k1.lt
  have HB2 := Lib.hid hbw2
  have HK2 := Lib.hid k2
  have HW2 := Lib.hid hw2
  clear hw2 kp hP htk hb1 hb12 hb k0 k1 hb0 k2 hbw2 hlc hcm
  go_upto_region 5 with fail
  rw [show World.alloc w1 _ = w2 from HW2.out]
  clear HW2
  go_wp2_with fail
  refine HST.out.mono ?_
  cases G with
  | none =>
    have hR : R = none := HR.out.symm
    subst hR
    rintro en w3 ⟨rfl, hb3⟩
    have hbz : Below w.heap.size w w3 := But.inside HB2.out (Nat.le_of_lt hzw) hb3
    have kz : Blk w3 w.heap.size 34 ((stZ [] []).cells stPZ).toArray := hb3.blk HK2.out (by omega)
    have HB := Lib.hid (bwRow hbz (Nat.le_refl _) ((stZ [] []).cells stPZ).toArray)
    have HK1 := Lib.hid kz
    have hres : (loadVar 34 ⟨w.heap.size, 0, none⟩).run Tryz.prog (World.setRow w3 w.heap.size ((stZ [] []).cells stPZ).toArray) = .ok (.agg ((stZ [] []).cells stPZ).toArray) (World.setRow w3 w.heap.size ((stZ [] []).cells stPZ).toArray) := run_loadVar_row _ _ 34 34 _ (0, 0) _ (kz.row _) Tryz.underlying34 rfl size_st
    clear hbz kz
    go_wp2_with (refine wpList_store_row rfl 34 _ _ rfl w.heap.size ((stZ [] []).cells stPZ).toArray rfl rfl 34 _ HK1.out size_st rfl (one_st _ _) ?_)
    refine bodyPost_ret (v := .tuple #[.agg ((stZ [] []).cells stPZ).toArray, .int .i64 2]) (by first | (simp [results, Tryz.results30, asAddr, hres]; done) | (simp [results, Tryz.results30, asAddr, hres, Sem.run_bind]; done)) rfl ?_
    exact ⟨rfl, HB.out⟩
  | some r =>
    obtain ⟨x, n⟩ := r
    rintro en w3 ⟨p, rfl, hP3, hQ3, hok, hb3⟩
    have kb : Blk w3 w1.heap.size 99 (.slice A l.length c :: .int .i64 (n : Nat) :: x.cells p).toArray := hP3.blk
    have hbw3 : Below w.heap.size w w3 := But.inside HB2.out (Nat.le_of_lt hzw) hb3
    have hk3 := hb3.blk HK2.out (by omega)
    have HRA : Hid (∀ Z : World, Below w3.heap.size w3 Z → Z.rangeAt w1.heap.size 2 (x.cells p)) := fun Z hz j v hv => by
      rw [(kb.below hz kb.lt).cell (2 + j), Nat.add_comm 2 j]
      simpa using hv
    have HMY := Lib.hid (stMay_any x p w3 hok (hQ3.keep fun b hb => ⟨hb.2, fun _ => rfl⟩) (HE.out w3 hbw3))
    have HR2 : Hid ((if mayS x then some x else none) = R) := HR.out
    have HQ3 := Lib.hid hQ3
    have HOK := Lib.hid hok
    have hsz2 : w.heap.size < w2.heap.size := HK2.out.lt
    obtain ⟨M, hM⟩ : ∃ M, mayS x = M := ⟨_, rfl⟩
    rw [hM] at HMY HR2
    have HB3 := Lib.hid hbw3
    have HK3 := Lib.hid hk3
    have hz3 : w.heap.size < w3.heap.size := hk3.lt
    clear hM hok kb hP3 hb3 HR HT HST HSTM HER hQ3 hbw3 hk3
    go_wp2_with (refine wpList_load_midG (by rfl) 34 _ rfl w1.heap.size 2 rfl (x.cells p) _ (HRA.out _ (Below.refl _ _)) Tryz.underlying34 rfl size_st ?_)
    refine HMY.out.mono ?_
    rintro en w4 ⟨rfl, hb4⟩
    cases M with
    | false =>
      have hR : R = none := HR2.out.symm
      subst hR
      have hbz : Below w.heap.size w w4 := HB3.out.trans (hb4.mono (Nat.le_of_lt hz3))
      have kz : Blk w4 w.heap.size 34 ((stZ [] []).cells stPZ).toArray := HK3.out.below hb4 hz3
      have HB := Lib.hid (bwRow hbz (Nat.le_refl _) ((stZ [] []).cells stPZ).toArray)
      have HK1 := Lib.hid kz
      have hres : (loadVar 34 ⟨w.heap.size, 0, none⟩).run Tryz.prog (World.setRow w4 w.heap.size ((stZ [] []).cells stPZ).toArray) = .ok (.agg ((stZ [] []).cells stPZ).toArray) (World.setRow w4 w.heap.size ((stZ [] []).cells stPZ).toArray) := run_loadVar_row _ _ 34 34 _ (0, 0) _ (kz.row _) Tryz.underlying34 rfl size_st
      clear hbz kz
      go_wp2_with (refine wpList_store_row rfl 34 _ _ rfl w.heap.size ((stZ [] []).cells stPZ).toArray rfl rfl 34 _ HK1.out size_st rfl (one_st _ _) ?_)
      refine bodyPost_ret (v := .tuple #[.agg ((stZ [] []).cells stPZ).toArray, .int .i64 2]) (by first | (simp [results, Tryz.results30, asAddr, hres]; done) | (simp [results, Tryz.results30, asAddr, hres, Sem.run_bind]; done)) rfl ?_
      exact ⟨rfl, HB.out⟩
    | true =>
      have hR : R = some x := HR2.out.symm
      subst hR
      have hbz : Below w.heap.size w w4 := HB3.out.trans (hb4.mono (Nat.le_of_lt hz3))
      have kz : Blk w4 w.heap.size 34 ((stZ [] []).cells stPZ).toArray := HK3.out.below hb4 hz3
      have HRZ := Lib.hid (HRA.out w4 hb4)
      have HB := Lib.hid (bwRow hbz (Nat.le_refl _) (x.cells p).toArray)
      have HK1 := Lib.hid kz
      have HQF : Hid (StQ 1000 x p (fun b => w.heap.size ≤ b ∧ b < (World.setRow w4 w.heap.size (x.cells p).toArray).heap.size) (World.setRow w4 w.heap.size (x.cells p).toArray)) := HQ3.out.keep fun b hb => ⟨⟨Nat.le_trans (Nat.le_of_lt hsz2) hb.1, by rw [setRow_size]; exact Nat.lt_of_lt_of_le hb.2 hb4.size⟩, fun o => (cell_of_block (setRow_block _ _ _ _ (by have := hb.1; omega)) o).trans (hb4.cell (p := ⟨b, o, none⟩) hb.2)⟩
      have hres : (loadVar 34 ⟨w.heap.size, 0, none⟩).run Tryz.prog (w4.setRow w.heap.size (x.cells p).toArray) = .ok (.agg (x.cells p).toArray) (w4.setRow w.heap.size (x.cells p).toArray) := run_loadVar_row _ _ 34 34 _ (0, 0) _ (kz.row _) Tryz.underlying34 rfl size_st
      clear hbz kz hb4 HRA
      go_wp2_with (first | refine wpList_load_midG (by rfl) 34 _ rfl w1.heap.size 2 rfl (x.cells p) _ HRZ.out Tryz.underlying34 rfl size_st ?_ | refine wpList_store_row rfl 34 _ _ rfl w.heap.size (x.cells p).toArray rfl rfl 34 _ HK1.out size_st rfl (one_st _ _) ?_)
      refine bodyPost_ret (v := .tuple #[.agg (x.cells p).toArray, .int .i64 0]) (by first | (simp [results, Tryz.results30, asAddr, hres]; done) | (simp [results, Tryz.results30, asAddr, hres, Sem.run_bind]; done)) rfl ?_
      exact ⟨p, rfl, HQF.out, HOK.out, HB.out⟩

end Go.Proofs.YtchilcchogcibaaGreatDoor

namespace Go.Proofs.YtchilcchogcibaaGreatDoor
open Go.RowKit

attribute [local go_sem] ByteArray.extract_mk ba_get ba_append
attribute [local go_sem ↓] Go.wp_at_zero Go.wp_at_succ

def tx51 : List UInt8 := [83, 69, 76, 69, 67, 84, 32, 42, 32, 70, 82, 79, 77, 32, 116, 32, 87, 72, 69, 82, 69, 32, 107, 32, 61, 32, 49]
def tx52 : List UInt8 := [68, 82, 79, 80, 32, 116]
def tx53 : List UInt8 := [73, 78, 83, 69, 82, 84, 32, 73, 78, 84, 79, 32, 116, 32, 86, 65, 76, 85, 69, 83, 32, 40, 49, 44, 32, 39, 97, 39, 44, 32, 78, 85, 76, 76, 41]
def tk51 : List Tok := (cutT tx51).getD []
def tk52 : List Tok := (cutT tx52).getD []
def tk53 : List Tok := (cutT tx53).getD []
def tkOk (t : List UInt8) (l : List Tok) : Bool := (cutT t).isSome && decide (l.length ≤ 990) && l.all fun x => decide (x.s.length ≤ 1000)
theorem tkOk_of {t : List UInt8} {l : List Tok} (h : tkOk t l = true) (hl : (cutT t).getD [] = l) : cutT t = some l ∧ l.length ≤ 990 ∧ ∀ x ∈ l, x.s.length ≤ 1000 := by
  unfold tkOk at h
  simp only [Bool.and_eq_true, decide_eq_true_eq, List.all_eq_true] at h
  obtain ⟨⟨h1, h2⟩, h3⟩ := h
  obtain ⟨q, hq⟩ := Option.isSome_iff_exists.1 h1
  rw [hq] at hl
  exact ⟨by rw [hq, ← hl]; rfl, h2, h3⟩
def st51 : Option St := (wholeP tk51 (fromP tk51 [115, 101, 108, 101, 99, 116] [[42], [70, 82, 79, 77]])).bind fun r => if mayS r.1 then some r.1 else none
def st52 : Option St := (wholeP tk52 (dropP tk52)).bind fun r => if mayS r.1 then some r.1 else none
def st53 : Option St := (wholeP tk53 (insertP tk53)).bind fun r => if mayS r.1 then some r.1 else none
theorem st51_is : ∃ x, st51 = some x ∧ x.op = [115, 101, 108, 101, 99, 116] ∧ x.tb = [116] ∧ x.whr.op = [61] := by
  have h : (match st51 with | some x => decide (x.op = [115, 101, 108, 101, 99, 116] ∧ x.tb = [116] ∧ x.whr.op = [61]) | none => false) = true := by kernel_rfl
  cases hs : st51 with
  | none => rw [hs] at h; cases h
  | some x => rw [hs] at h; exact ⟨x, rfl, of_decide_eq_true h⟩
theorem st52_is : st52 = none := by
  have h : st52.isNone = true := by kernel_rfl
  exact Option.isNone_iff_eq_none.1 h
theorem st53_is : ∃ x, st53 = some x ∧ x.op = [105, 110, 115, 101, 114, 116] ∧ x.row.length = 3 := by
  have h : (match st53 with | some x => decide (x.op = [105, 110, 115, 101, 114, 116] ∧ x.row.length = 3) | none => false) = true := by kernel_rfl
  cases hs : st53 with
  | none => rw [hs] at h; cases h
  | some x => rw [hs] at h; exact ⟨x, rfl, of_decide_eq_true h⟩
theorem parse51 (w : World) (hV : Env0 w) (hE : Errs w) : Calls Tryz.prog 30 #[.string ⟨tx51.toArray⟩] w (RetPq st51 w) := by
  obtain ⟨h1, h2, h3⟩ := tkOk_of (t := tx51) (l := tk51) (by kernel_rfl) rfl
  exact pparse_of tx51 tk51 _ w (by decide) h1 h2 h3 hV hE fun g A c W hp h => pstmt_select g A c tk51 W (by kernel_rfl) hp h
theorem parse52 (w : World) (hV : Env0 w) (hE : Errs w) : Calls Tryz.prog 30 #[.string ⟨tx52.toArray⟩] w (RetPq st52 w) := by
  obtain ⟨h1, h2, h3⟩ := tkOk_of (t := tx52) (l := tk52) (by kernel_rfl) rfl
  exact pparse_of tx52 tk52 _ w (by decide) h1 h2 h3 hV hE fun g A c W hp h => pstmt_drop g A c tk52 W (by kernel_rfl) hp h
theorem parse53 (w : World) (hV : Env0 w) (hE : Errs w) : Calls Tryz.prog 30 #[.string ⟨tx53.toArray⟩] w (RetPq st53 w) := by
  obtain ⟨h1, h2, h3⟩ := tkOk_of (t := tx53) (l := tk53) (by kernel_rfl) rfl
  exact pparse_of tx53 tk53 _ w (by decide) h1 h2 h3 hV hE fun g A c W hp h => pstmt_insert g A c tk53 W (by kernel_rfl) hp h
set_option maxRecDepth 100000 in
set_option maxHeartbeats 8000000 in
theorem awake5_any (w : World) (hV : Env0 w) (hE : Errs w) : Calls Tryz.prog 29 #[] w (Ret (.bool true) w) := by
  obtain ⟨x1, hx1, a1, a2, a3⟩ := st51_is
  obtain ⟨x3, hx3, a4, a5⟩ := st53_is
  have HP1 : Hid (∀ Z : World, Below w.heap.size w Z → Calls Tryz.prog 30 #[.string ⟨tx51.toArray⟩] Z (RetPq (some x1) Z)) := fun Z hz => by
    have := parse51 Z (hV.below hz) (hE.below hz rfl)
    rw [hx1] at this
    exact this
  have HP2 : Hid (∀ Z : World, Below w.heap.size w Z → Calls Tryz.prog 30 #[.string ⟨tx52.toArray⟩] Z (RetPq none Z)) := fun Z hz => by
    have := parse52 Z (hV.below hz) (hE.below hz rfl)
    rw [st52_is] at this
    exact this
  have HP3 : Hid (∀ Z : World, Below w.heap.size w Z → Calls Tryz.prog 30 #[.string ⟨tx53.toArray⟩] Z (RetPq (some x3) Z)) := fun Z hz => by
    have := parse53 Z (hV.below hz) (hE.below hz rfl)
    rw [hx3] at this
    exact this
  have A1 := Lib.hid a1
  have A2 := Lib.hid a2
  have A3 := Lib.hid a3
  have A4 := Lib.hid a4
  have A5 := Lib.hid a5
  clear hV hE hx1 hx3 a1 a2 a3 a4 a5
  go_enter Tryz.func29, Tryz.ntmps29
  go_wp2_with fail
  refine Calls.mono (HP1.out w (Below.refl _ _)) ?_
  rintro en v1 ⟨p1, rfl, -, -, hb1⟩
  have hn1 : Below w.heap.size w w := Below.refl _ _
  obtain ⟨u1, hu1⟩ : ∃ u, v1.alloc (.cells ((x1).cells p1).toArray 34) = u := ⟨_, rfl⟩
  have k1 : Blk u1 v1.heap.size 34 ((x1).cells p1).toArray := by rw [← hu1]; exact Blk.new _ _ _
  have hd1 : Below v1.heap.size v1 u1 := by rw [← hu1]; exact bl
  have hz1 := hb1.size
  have hm1 : Below w.heap.size w u1 := (hn1.trans (hb1.mono hn1.size)).trans (hd1.mono (Nat.le_trans hn1.size hz1))
  have HU1 := Lib.hid hu1
  have HK1 := Lib.hid k1
  have hl1 : v1.heap.size < u1.heap.size := k1.lt
  clear hu1 k1
  go_upto_region 2 with (refine wpList_store_row rfl 34 _ _ rfl v1.heap.size ((x1).cells p1).toArray rfl rfl 34 _ (heap_alloc_last _ _) size_st rfl (one_st _ _) ?_)
  rw [show World.setRow _ _ _ = u1 from (World.setRow_alloc_new _ _ _ _).trans HU1.out]
  clear HU1
  go_wp2_with fail
  refine Calls.mono (HP2.out u1 hm1) ?_
  rintro en v2 ⟨rfl, hb2⟩
  have hn2 := hm1
  obtain ⟨u2, hu2⟩ : ∃ u, v2.alloc (.cells ((stZ [] []).cells stPZ).toArray 34) = u := ⟨_, rfl⟩
  have k2 : Blk u2 v2.heap.size 34 ((stZ [] []).cells stPZ).toArray := by rw [← hu2]; exact Blk.new _ _ _
  have hd2 : Below v2.heap.size v2 u2 := by rw [← hu2]; exact bl
  have hz2 := hb2.size
  have hm2 : Below w.heap.size w u2 := (hn2.trans (hb2.mono hn2.size)).trans (hd2.mono (Nat.le_trans hn2.size hz2))
  have HU2 := Lib.hid hu2
  have HK2 := Lib.hid k2
  have hl2 : v2.heap.size < u2.heap.size := k2.lt
  clear hu2 k2
  go_upto_region 3 with (refine wpList_store_row rfl 34 _ _ rfl v2.heap.size ((stZ [] []).cells stPZ).toArray rfl rfl 34 _ (heap_alloc_last _ _) size_st rfl (one_st _ _) ?_)
  rw [show World.setRow _ _ _ = u2 from (World.setRow_alloc_new _ _ _ _).trans HU2.out]
  clear HU2
  go_wp2_with fail
  refine Calls.mono (HP3.out u2 hm2) ?_
  rintro en v3 ⟨p3, rfl, -, -, hb3⟩
  have hn3 := hm2
  obtain ⟨u3, hu3⟩ : ∃ u, v3.alloc (.cells ((x3).cells p3).toArray 34) = u := ⟨_, rfl⟩
  have k3 : Blk u3 v3.heap.size 34 ((x3).cells p3).toArray := by rw [← hu3]; exact Blk.new _ _ _
  have hd3 : Below v3.heap.size v3 u3 := by rw [← hu3]; exact bl
  have hz3 := hb3.size
  have hm3 : Below w.heap.size w u3 := (hn3.trans (hb3.mono hn3.size)).trans (hd3.mono (Nat.le_trans hn3.size hz3))
  have HU3 := Lib.hid hu3
  have HK3 := Lib.hid k3
  have hl3 : v3.heap.size < u3.heap.size := k3.lt
  clear hu3 k3
  go_upto_region 4 with (refine wpList_store_row rfl 34 _ _ rfl v3.heap.size ((x3).cells p3).toArray rfl rfl 34 _ (heap_alloc_last _ _) size_st rfl (one_st _ _) ?_)
  rw [show World.setRow _ _ _ = u3 from (World.setRow_alloc_new _ _ _ _).trans HU3.out]
  clear HU3
  have k1 : Blk u3 v1.heap.size 34 (x1.cells p1).toArray := ((HK1.out.below (hb2.trans (hd2.mono hb2.size)) HK1.out.lt).below (hb3.trans (hd3.mono hb3.size)) (Nat.lt_of_lt_of_le HK1.out.lt (Nat.le_trans hb2.size hd2.size)))
  have k3 := HK3.out
  have q0 : u3.cell? ⟨v1.heap.size, 0, none⟩ = some (.string ⟨#[115, 101, 108, 101, 99, 116]⟩) := (k1.cell 0).trans (by show some (Value.string ⟨x1.op.toArray⟩) = _; rw [A1.out])
  have q1 : u3.cell? ⟨v1.heap.size, 1, none⟩ = some (.string ⟨#[116]⟩) := (k1.cell 1).trans (by show some (Value.string ⟨x1.tb.toArray⟩) = _; rw [A2.out])
  have q2 : u3.cell? ⟨v1.heap.size, 16, none⟩ = some (.string ⟨#[61]⟩) := (k1.cell 16).trans (by show some (Value.string ⟨x1.whr.op.toArray⟩) = _; rw [A3.out])
  have q3 : u3.cell? ⟨v3.heap.size, 0, none⟩ = some (.string ⟨#[105, 110, 115, 101, 114, 116]⟩) := (k3.cell 0).trans (by show some (Value.string ⟨x3.op.toArray⟩) = _; rw [A4.out])
  have q4 : u3.cell? ⟨v3.heap.size, 14, none⟩ = some (.slice p3.row.a 3 p3.row.c) := (k3.cell 14).trans (by show some (Value.slice p3.row.a x3.row.length p3.row.c) = _; rw [A5.out])
  clear k1 k3 HK1 HK2 HK3 A1 A2 A3 A4 A5 HP1 HP2 HP3
  go_wp2_with fail
  go_ret
  exact ⟨rfl, hm3⟩

end Go.Proofs.YtchilcchogcibaaGreatDoor
