/- How a list of statements is opened, as an argument. Condition: the kit's own words on an argument. -/
import Derived.Test.YtchilcchogcibaaGreatDoorSR4d
import Derived.Deep.MidRow
namespace Go.Proofs.YtchilcchogcibaaGreatDoor
open Go.RowKit
open Go.WideShapes Go.ChangeShapes

/-- A slice that reads as statements. -/
def DQ (K : Nat) (l : List St) (A : Option Addr) (Q : Nat → Prop) (w : World) : Prop := 0 < l.length → ∃ b off, A = some ⟨b, off, none⟩ ∧ Q b ∧ ∀ i s, l[i]? = some s → s.big ∧ ∃ p, w.rangeAt b (off + i * 23) (s.cells p) ∧ StQ K s p Q w
theorem DQ.keep {K : Nat} {l : List St} {A : Option Addr} {Q Q' : Nat → Prop} {w w' : World} (h : DQ K l A Q w) (hk : ∀ b, Q b → Q' b ∧ ∀ o, w'.cell? ⟨b, o, none⟩ = w.cell? ⟨b, o, none⟩) : DQ K l A Q' w' := fun hl => by
  obtain ⟨b, off, rfl, h1, h2⟩ := h hl
  refine ⟨b, off, rfl, (hk b h1).1, fun i s hs => ?_⟩
  obtain ⟨hb, p, hr, hq⟩ := h2 i s hs
  exact ⟨hb, p, fun j v hv => ((hk b h1).2 _).trans (hr j v hv), hq.keep hk⟩
theorem DQ.at_ {K : Nat} {l : List St} {A : Option Addr} {Q : Nat → Prop} {w : World} (h : DQ K l A Q w) {j : Nat} (hj : j < l.length) : ∃ b off s p, A = some ⟨b, off, none⟩ ∧ Q b ∧ l[j]? = some s ∧ s.big ∧ w.rangeAt b (off + j * 23) (s.cells p) ∧ StQ K s p Q w := by
  obtain ⟨b, off, rfl, hb, hr⟩ := h (by omega)
  obtain ⟨h1, p, h2, h3⟩ := hr j _ (List.getElem?_eq_getElem hj)
  exact ⟨b, off, l[j], p, rfl, hb, List.getElem?_eq_getElem hj, h1, h2, h3⟩
set_option maxRecDepth 100000 in
theorem open_sts {H : Type} {enc : TypeId × Value → H} {W : World} {base : Nat} {v : Value} {d : DataW H} {p : List MemPlace}
    (hv : Value.okWide Tryz.prog W .any base 48 v) (h : DataW.Trod enc Tryz.prog W 0 (fun _ => true) true 48 v d p) :
    ∃ (A : Option Addr) (l : List St) (c : Nat), v = .slice A l.length c ∧ l.length ≤ maxLen ∧ DQ maxLen l A (Old W.heap.size) W := by
  obtain ⟨a0, len0, cap0, rfl⟩ := okWide_slice Tryz.underlying48 hv
  obtain ⟨fuel, hf⟩ := h
  obtain ⟨A, l, c, h1, h2, h3, h4⟩ := open_wide (⟨[], [], [], [], [], [], [], [], .mk [] V.zero [] [], [], [], .mk [] V.zero [] [], []⟩ : St) 23 (fun s v => ∃ q : StP, v = s.cells q ∧ s.big ∧ StQ maxLen s q (Old W.heap.size) W) Tryz.underlying48 cellsSt (by decide) (fun f v y hl h => by
    obtain ⟨s, q, e, hb, hq⟩ := open_st_t h
    exact ⟨s, q, e, hb, hq⟩) hf
  refine ⟨A, l, c, by simpa [Value.cells] using h1, Nat.le_trans h2 h3, fun hl => ?_⟩
  obtain ⟨b, off, rfl, hb, hr⟩ := h4 hl
  refine ⟨b, off, rfl, hb, fun i s hs => ?_⟩
  obtain ⟨v, ⟨q, rfl, hbig, hq⟩, hc⟩ := hr i s hs
  refine ⟨hbig, q, fun j u hu => ?_, hq⟩
  have hj : j < 23 := (List.getElem?_eq_some_iff.1 hu).1
  exact (hc j hj).trans hu

end Go.Proofs.YtchilcchogcibaaGreatDoor
