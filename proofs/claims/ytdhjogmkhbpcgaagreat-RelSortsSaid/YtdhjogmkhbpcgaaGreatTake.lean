/- Several reads of a drawn region taken first, one behind the other, by a list of their numbers. No program in sight. -/
import Derived.Deep.RegionHeld3
namespace Go.Proofs.YtdhjogmkhbpcgaaGreat
open Go

section
variable {P : Program} {ops : Array Oper} {Q : Exit → Act → World → Prop} {md : Region.Mode} {S : World → Prop}
/-- The rest of a region, of which these are taken next. -/
def wpAnyT (_is : List Nat) (P : Program) (md : Region.Mode) (ops : Array Oper) (Q : Exit → Act → World → Prop) (S : World → Prop) (fuel : Nat) (listed : Array Bool) (a : Act) (w : World) : Prop := wpAnyH P md ops Q S fuel listed a w
theorem wpAnyT_start {fuel : Nat} {listed : Array Bool} {a : Act} {w : World} (is : List Nat) (h : wpAnyT is P md ops Q S fuel listed a w) : wpAnyH P md ops Q S fuel listed a w := h
theorem wpAnyT_nil {fuel : Nat} {listed : Array Bool} {a : Act} {w : World} (h : wpAnyH P md ops Q S fuel listed a w) : wpAnyT [] P md ops Q S fuel listed a w := h
theorem wpAnyT_cons {i : Nat} {is : List Nat} {oi : Oper} {v : Value} {fuel : Nat} {listed : Array Bool} {a : Act} {w : World} (hi : ops[i]? = some oi)
    (hs : Region.noSelect ops = true) (hf : Region.free md ops listed i = true) (hr : (Region.ready md ops listed).contains i = true)
    (hQ : ∀ c a w, Q (.panic c) (a.put oi.dst v) w → Q (.panic c) a w) (hy : YieldsIf P ops S oi v a) (hS : S w)
    (h : wpAnyT is P md ops Q S fuel (listed.setIfInBounds i true) (a.put oi.dst v) w) : wpAnyT (i :: is) P md ops Q S (fuel + 1) listed a w :=
  wpAnyH_take hi hs hf hr hQ hy hS h
end

end Go.Proofs.YtdhjogmkhbpcgaaGreat
