/- Plain words for tracks: slices of octets, bits, and which units may be. Nothing of the program stands here. -/
import Derived.Test.YtkeeekifejholaaVal2
import Derived.Test.YtkeeekifejholaaRef2
import Derived.Test.YtkeeekifejholaaBytes
namespace Go.Proofs.Ytkeeekifejholaa
open Go.RowKit

def BRow (w : World) (b off : Nat) (l : List UInt8) : Prop := ∀ i c, l[i]? = some c → w.cell? ⟨b, off + i, none⟩ = some (.int .u8 (c.toNat : Int))
/-- The slice value '.slice A l.length c' reads as the octets l, and lies below block B. -/
def BS (w : World) (B : Nat) (A : Option Addr) (l : List UInt8) : Prop := 0 < l.length → ∃ b off, A = some ⟨b, off, none⟩ ∧ b < B ∧ BRow w b off l
theorem BS.at_ {w : World} {B : Nat} {A : Option Addr} {l : List UInt8} (h : BS w B A l) {j : Nat} (hj : j < l.length) :
    ∃ b off, A = some ⟨b, off, none⟩ ∧ b < B ∧ w.cell? ⟨b, off + j, none⟩ = some (.int .u8 (l[j].toNat : Int)) := by
  obtain ⟨b, off, rfl, hb, hr⟩ := h (by omega)
  exact ⟨b, off, rfl, hb, hr j _ (List.getElem?_eq_getElem hj)⟩
theorem BS.below {w w' : World} {B : Nat} {A : Option Addr} {l : List UInt8} (h : BS w B A l) (hb : Below B w w') : BS w' B A l := by
  intro hl
  obtain ⟨b, off, rfl, hbB, hr⟩ := h hl
  exact ⟨b, off, rfl, hbB, fun i v hv => (hb.cell (p := ⟨b, _, none⟩) hbB).trans (hr i v hv)⟩
theorem BS.more {w : World} {B B' : Nat} {A : Option Addr} {l : List UInt8} (h : BS w B A l) (hB : B ≤ B') : BS w B' A l := by
  intro hl
  obtain ⟨b, off, rfl, hbB, hr⟩ := h hl
  exact ⟨b, off, rfl, by omega, hr⟩
theorem BS.nil {w : World} {B : Nat} {A : Option Addr} : BS w B A [] := fun h => absurd h (by simp)
/-- As BS, with bounds on the block. -/
def BF (w : World) (lo hi : Nat) (A : Option Addr) (l : List UInt8) : Prop := 0 < l.length → ∃ b off, A = some ⟨b, off, none⟩ ∧ lo ≤ b ∧ b < hi ∧ BRow w b off l
theorem BF.bs {w : World} {lo hi B : Nat} {A : Option Addr} {l : List UInt8} (h : BF w lo hi A l) (hB : hi ≤ B) : BS w B A l := fun hl => by
  obtain ⟨b, off, rfl, _, h2, h3⟩ := h hl
  exact ⟨b, off, rfl, by omega, h3⟩
theorem BF.below {w w' : World} {lo hi B : Nat} {A : Option Addr} {l : List UInt8} (h : BF w lo hi A l) (hb : Below B w w') (hB : hi ≤ B) : BF w' lo hi A l := fun hl => by
  obtain ⟨b, off, rfl, h1, h2, h3⟩ := h hl
  exact ⟨b, off, rfl, h1, h2, fun i v hv => (hb.cell (p := ⟨b, _, none⟩) (by show b < B; omega)).trans (h3 i v hv)⟩

/-- The bit of a place. -/
def bitB (t : List UInt8) (i : Nat) : Bool := (t.getD (i / 8) 0).toNat.testBit (i % 8)

/-- May units go on behind prev? -/
def riseFrom : Option V → List V → Bool
  | _, [] => true
  | none, u :: r => u.may && (u.k != 0) && riseFrom (some u) r
  | some p, u :: r => u.may && (u.k != 0) && !decide (0 ≤ cord p.good u.good) && riseFrom (some u) r
def risesB (l : List V) : Bool := decide (l.length ≤ 200) && riseFrom none l
/-- Is no bit from a place on set, n places? -/
def freeB (t : List UInt8) : Nat → Nat → Bool
  | _, 0 => true
  | i, n + 1 => !bitB t i && freeB t (i + 1) n
def chkB (u : List V) (t : List UInt8) : Bool := risesB u && (t.length == (u.length + 7) / 8) && freeB t u.length (8 * t.length - u.length)
def chkE (u : List V) (t : List UInt8) : Int := if chkB u t then 0 else 1

end Go.Proofs.Ytkeeekifejholaa
