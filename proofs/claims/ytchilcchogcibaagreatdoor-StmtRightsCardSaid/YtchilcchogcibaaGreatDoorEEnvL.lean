/- Plain laws on cutting a text in pieces; What a row's list of variables gives; What a row's list of variables gives; What a row's list of variables gives statements' texts. -/
import Derived.Stop.LaidErr
import Derived.Test.YtchilcchogcibaaGreatDoorEOpenSt
namespace Go.Proofs.YtchilcchogcibaaGreatDoor
open Go.RowKit
def Edge (t : List UInt8) : Prop := t = [] ∨ ∃ b q, t = b :: q ∧ partB b = false ∧ ¬ b.toNat = 39
theorem Edge.run {t : List UInt8} (h : Edge t) : (t = [] ∨ ∃ b q, t = b :: q ∧ partB b = false) ∧ (t = [] ∨ ∃ b q, t = b :: q ∧ digB b = false) ∧ (t = [] ∨ ∃ b q, t = b :: q ∧ ¬ b.toNat = 39) := by
 rcases h with rfl | ⟨b, q, rfl, h1, h2⟩
 ·exact ⟨.inl rfl, .inl rfl, .inl rfl⟩
 ·refine ⟨.inr ⟨b, q, rfl, h1⟩, .inr ⟨b, q, rfl, ?_⟩, .inr ⟨b, q, rfl, h2⟩⟩
  unfold partB at h1
  simp only [Bool.or_eq_false_iff] at h1
  exact h1.1.2
theorem Gap.edge {t : List UInt8} (h : Gap t) : Edge t := by
 rcases h with rfl | ⟨b, r, rfl, hb⟩
 ·exact .inl rfl
 ·exact .inr ⟨b, r, rfl, (blank_not_part hb).1, by rcases blank_cases hb with e | e <;> omega⟩
theorem firstT_edge (c : UInt8) (r t : List UInt8) (ht : Edge t) (hm : mayT (firstT (c :: r)).1 = true) : firstT (c :: r ++ t) = firstT (c :: r) := by
 obtain ⟨g1, g2, g3⟩ := ht.run
 have e1 := lenRun_gap letB partB (c :: r) t (by simp) g1
 have e2 := lenRun_gap digB digB (c :: r) t (by simp) g2
 have l1 := lenRun_le letB partB (c :: r)
 have l2 := lenRun_le digB digB (c :: r)
 unfold firstT at hm ⊢
 rw [e1, e2]
 split
 ·rw [List.take_append_of_le_length l1]
 ·rename_i h1
  rw [if_neg h1] at hm
  split
  ·rw [List.take_append_of_le_length l2]
  ·rename_i h2
   rw [if_neg h2] at hm
   simp only [List.cons_append] at hm ⊢
   split
   ·rename_i hc
    rw [if_pos hc] at hm
    rw [quotedT_eq] at hm ⊢
    rw [quotedT_eq]
    cases he : endQ ((c :: r).drop 1) 1 with
    | none => rw [he] at hm; cases hm
    | some k =>
     have hk := endQ_lt _ _ _ he
     have h3 : endQ ((c :: (r ++ t)).drop 1) 1 = some k := endQ_app _ t 1 k g3 he
     rw [h3]
     simp only [quotedOf]
     rw [List.length_drop] at hk
     have : (c :: (r ++ t)).take k = (c :: r).take k := by
      rw [← List.cons_append]
      exact List.take_append_of_le_length (by omega)
     rw [this]
   ·rfl
theorem toks_edge (t : List UInt8) (ht : Edge t) : ∀ (n : Nat) (s : List UInt8) (a : List Tok), s.length ≤ n → toks s = some a → toks (s ++ t) = (toks t).map (a ++ ·) := by
 intro n
 induction n with
 | zero =>
  intro s a hs h
  have : s = [] := List.eq_nil_of_length_eq_zero (by omega)
  subst this
  cases h
  cases hq : toks t <;> simp [hq]
 | succ n ih =>
  intro s a hs h
  cases s with
  | nil => cases h; cases hq : toks t <;> simp [hq]
  | cons c r =>
   simp only [List.length_cons] at hs
   cases hb : blankB c
   ·cases hm : mayT (firstT (c :: r)).1
    ·rw [toks_bad c r hb hm] at h; cases h
    ·have hge := (firstT_le (c :: r) (by simp)).2 hm
     have hle := (firstT_le (c :: r) (by simp)).1
     rw [toks_tok c r hb hm] at h
     cases hq : toks ((c :: r).drop (firstT (c :: r)).2) with
     | none => rw [hq] at h; cases h
     | some a' =>
      rw [hq] at h
      cases h
      have hf := firstT_edge c r t ht hm
      have h1 := ih ((c :: r).drop (firstT (c :: r)).2) a' (by rw [List.length_drop, List.length_cons]; omega) hq
      rw [List.cons_append] at hf ⊢
      rw [toks_tok c (r ++ t) hb (by rw [hf]; exact hm), hf, ← List.cons_append, List.drop_append_of_le_length hle, h1]
      cases toks t <;> simp
   ·rw [toks_blank c r hb] at h
    rw [List.cons_append, toks_blank c _ hb]
    exact ih r a (by omega) h
theorem toks_wr1 (t : Tok) (hm : mayT t = true) : toks (wrT t) = some [t] := by
 have := toks_wr t hm [] (.inl rfl)
 rw [List.append_nil] at this
 exact this
def Tk (s : List UInt8) (a : List Tok) : Prop := ∀ rest, Edge rest → toks (s ++ rest) = (toks rest).map (a ++ ·)
def Edgy (s : List UInt8) : Prop := ∃ b q, s = b :: q ∧ partB b = false ∧ ¬ b.toNat = 39
theorem Edgy.mk (b : UInt8) (q : List UInt8) (h : partB b = false := by decide) (h2 : ¬ b.toNat = 39 := by decide) : Edgy (b :: q) := ⟨b, q, rfl, h, h2⟩
theorem Edgy.edge {s : List UInt8} (h : Edgy s) (rest : List UInt8) : Edge (s ++ rest) := by
 obtain ⟨b, q, rfl, h1, h2⟩ := h
 exact .inr ⟨b, q ++ rest, rfl, h1, h2⟩
theorem Edgy.app {s : List UInt8} (h : Edgy s) (t : List UInt8) : Edgy (s ++ t) := by
 obtain ⟨b, q, rfl, h1, h2⟩ := h
 exact ⟨b, q ++ t, rfl, h1, h2⟩
theorem Tk.of {s : List UInt8} {a : List Tok} (h : toks s = some a) : Tk s a := fun rest hr => toks_edge rest hr _ s a (Nat.le_refl _) h
theorem Tk.out {s : List UInt8} {a : List Tok} (h : Tk s a) : toks s = some a := by
 have := h [] (.inl rfl)
 rw [List.append_nil] at this
 rw [this]
 simp [toks_nil]
theorem Tk.nil : Tk [] [] := Tk.of toks_nil
theorem Tk.wr {t : Tok} (hm : mayT t = true) : Tk (wrT t) [t] := Tk.of (toks_wr1 t hm)
theorem Tk.app {s t : List UInt8} {a b : List Tok} (h : Tk s a) (k : Tk t b) (e : t = [] ∨ Edgy t) : Tk (s ++ t) (a ++ b) := fun rest hr => by
 rw [List.append_assoc, h (t ++ rest) (by rcases e with rfl | e; exact hr; exact e.edge rest), k rest hr]
 cases toks rest <;> simp
theorem Tk.blank {s : List UInt8} {a : List Tok} (h : Tk s a) : Tk (32 :: s) a := fun rest hr => by
 rw [List.cons_append, toks_blank 32 _ (by decide)]
 exact h rest hr
theorem Tk.sign {c : UInt8} {s : List UInt8} {a : List Tok} (hc : signB c = true) (h : Tk s a) : Tk (c :: s) (⟨4, [c]⟩ :: a) := fun rest hr => by
 obtain ⟨f1, f2, f3, f4⟩ := sign_facts c hc
 have hf : firstT ([c] ++ (s ++ rest)) = (⟨4, [c]⟩, ([c] : List UInt8).length) := by
  show firstT (c :: (s ++ rest)) = _
  unfold firstT
  have l1 : lenRun letB partB (c :: (s ++ rest)) = 0 := by unfold lenRun; simp [f1]
  have l2 : lenRun digB digB (c :: (s ++ rest)) = 0 := by unfold lenRun; simp [f2]
  rw [l1, l2]
  simp only [Nat.lt_irrefl, if_false]
  rw [if_neg f3]
  rfl
 have := toks_of_first [c] (s ++ rest) ⟨4, [c]⟩ c [] rfl f4 (show oneSign [c] = true from hc) hf
 rw [List.cons_append]
 rw [show c :: (s ++ rest) = [c] ++ (s ++ rest) from rfl, this, h rest hr]
 cases toks rest <;> simp
theorem Tk.word {x s : List UInt8} {a : List Tok} (hx : nameB x = true) (h : Tk s a) (e : s = [] ∨ Edgy s) : Tk (x ++ s) (⟨1, x⟩ :: a) := by
 have := (Tk.wr (t := ⟨1, x⟩) hx).app h e
 exact this
theorem Tk.num {x s : List UInt8} {a : List Tok} (hx : runB 19 digB digB x = true) (h : Tk s a) (e : s = [] ∨ Edgy s) : Tk (x ++ s) (⟨2, x⟩ :: a) := by
 have := (Tk.wr (t := ⟨2, x⟩) hx).app h e
 exact this
theorem pow10_data : Rows.laid_internal_strconv_uint64pow10 (H := Unit) = Lib.tabData .u64 Lib.pow10Tab := by kernel_rfl
theorem g10 : Tryz.prog.globalNamed "internal/strconv.uint64pow10" = some 5 := by kernel_rfl
theorem t10 : (Tryz.prog.globals[5]?).map (·.type) = some 251 := by kernel_rfl
theorem c10 : Tryz.prog.cellsOf 228 = 1 := by kernel_rfl
theorem d10 : Tryz.prog.cellsOf 251 = 20 := by kernel_rfl
theorem tab10_of {W : World} {x y : String × DataW Unit} {rest : List (String × DataW Unit)} (hL : laidMet Tryz.prog (x :: y :: ("internal/strconv.uint64pow10", Rows.laid_internal_strconv_uint64pow10) :: rest) W) : Tab10 W := by
 have h := laidMet.tail (laidMet.tail hL)
 rw [pow10_data] at h
 exact Lib.tabIs_of_head g10 t10 Tryz.underlying251 Tryz.underlying228 c10 d10 h
end Go.Proofs.YtchilcchogcibaaGreatDoor
namespace Go.Proofs.YtchilcchogcibaaGreatDoor
open Go.RowKit Go.ChangeShapes Go.WideShapes Go.ChangeAt
theorem star : "*errors.errorString" = "*" ++ "errors.errorString" := by decide
theorem rowErr (u : TypeId) (h : Tryz.prog.typeName? 3 u = some "*errors.errorString") : u = 287 :=
 typeName_ptr_named (nm := "errors.errorString") (by rw [← star]; kernel_rfl) (by kernel_rfl) (by decide) u (by rw [← star]; exact h)
theorem gRange : Tryz.prog.globalNamed "strconv.ErrRange" = some 9 := by kernel_rfl
theorem gSyntax : Tryz.prog.globalNamed "strconv.ErrSyntax" = some 8 := by kernel_rfl
theorem tRange : (Tryz.prog.globals[9]?).map (·.type) = some 168 := by kernel_rfl
theorem tSyntax : (Tryz.prog.globals[8]?).map (·.type) = some 168 := by kernel_rfl
theorem cErr : Tryz.prog.cellsOf 289 = 1 := by kernel_rfl
theorem cStr : Tryz.prog.cellsOf 9 = 1 := by kernel_rfl
theorem errs_of {W : World} {a b c d : String × DataW Unit} {rest : List (String × DataW Unit)} (hL : laidMet Tryz.prog (a :: b :: c :: d :: ("strconv.ErrRange", Rows.laid_strconv_ErrRange) :: ("strconv.ErrSyntax", Rows.laid_strconv_ErrSyntax) :: rest) W) : Errs W := by
 have h := laidMet.tail (laidMet.tail (laidMet.tail (laidMet.tail hL)))
 obtain ⟨a0, _, h0, _⟩ := laid_sentinel h gRange tRange Tryz.underlying168 rowErr Tryz.underlying287 Tryz.underlying289 rfl rfl Tryz.underlying9 cErr cStr
 obtain ⟨a1, _, h1, _⟩ := laid_sentinel h.tail gSyntax tSyntax Tryz.underlying168 rowErr Tryz.underlying287 Tryz.underlying289 rfl rfl Tryz.underlying9 cErr cStr
 exact ⟨⟨_, _, h1⟩, _, _, h0⟩
end Go.Proofs.YtchilcchogcibaaGreatDoor
namespace Go.Proofs.YtchilcchogcibaaGreatDoor
open Go.RowKit Go.Lib
theorem gTypes : Tryz.prog.globalNamed "caddis/stmt.types" = some 0 := by kernel_rfl
theorem tTypes : (Tryz.prog.globals[0]?).map (·.type) = some 175 := by kernel_rfl
theorem dTypes : Tryz.prog.cellsOf 175 = 3 := by kernel_rfl
theorem eTypes : Tryz.prog.cellsOf 9 = 1 := by kernel_rfl
theorem cells_of_texts {H : Type} {enc : TypeId × Value → H} {P : Program} {w : World} {base : Nat} {sp : Nat → Bool} {held : Bool} {fuel : Nat} {t e : TypeId} {n : Nat} {cs : List Value} {zs : List (List UInt8)} {p : List MemPlace}
  (ht : P.underlying t = some (.array n e)) (he : P.underlying e = some .string) (hce : P.cellsOf e = 1) (hct : P.cellsOf t = n)
  (h : DataW.trod enc P w base sp held fuel t cs = some (.agg (zs.map fun z => (DataW.lit (.string z) : DataW H)), p)) : cs = zs.map fun z => Value.string ⟨z.toArray⟩ := by
 cases fuel with
 | zero => simp [DataW.trod] at h
 | succ fuel =>
  simp only [DataW.trod, ht, hce, hct, Nat.mul_one] at h
  split at h
  ·rename_i hl
   obtain ⟨xs, hm, hx⟩ := Option.map_eq_some_iff.1 h
   have hxs : xs.map (·.1) = zs.map fun z => (DataW.lit (.string z) : DataW H) := by
    have := congrArg Prod.fst hx
    simpa using this
   have hxl : xs.length = n := by simpa using mapM_length hm
   have hzl : zs.length = n := by
    have := congrArg List.length hxs
    simp at this
    omega
   apply List.ext_getElem?
   intro i
   by_cases hi : i < n
   ·obtain ⟨b, hb, hf⟩ := mapM_at hm i i (by simp [hi])
    obtain ⟨z, hc, rfl, _⟩ := DataW.trod_string he hf
    have h1 : cs[i]? = some (.string z) := by
     have := congrArg (·[0]?) hc
     simpa [List.getElem?_take, List.getElem?_drop] using this
    have h2 : (xs.map (·.1))[i]? = some (DataW.lit (.string z.data.toList) : DataW H) := by simp [hb]
    rw [hxs] at h2
    simp only [List.getElem?_map, Option.map_eq_some_iff, DataW.lit.injEq, Lit.string.injEq] at h2
    obtain ⟨z', hz', rfl⟩ := h2
    simp [h1, hz']
   ·rw [List.getElem?_eq_none (by omega), List.getElem?_eq_none (by simp; omega)]
  ·cases h
theorem typT_of {W : World} {x y z v : String × DataW Unit} {rest : List (String × DataW Unit)} (hL : laidMet Tryz.prog (x :: y :: z :: v :: ("caddis/stmt.types", Rows.laid_caddis_stmt_types) :: rest) W) : TypT W := by
 have h := laidMet.tail (laidMet.tail (laidMet.tail (laidMet.tail hL)))
 obtain ⟨ps, ⟨g', t', cs, fuel, p, q, hg', ht', hvar, hd, _, _⟩, _⟩ := h
 obtain rfl := Option.some.inj (gTypes.symm.trans hg')
 obtain rfl := Option.some.inj (tTypes.symm.trans ht')
 have hc := cells_of_texts (zs := [[73, 78, 84], [84, 69, 88, 84], [66, 79, 79, 76]]) Tryz.underlying175 Tryz.underlying9 eTypes dTypes hd
 have key : ∀ i, W.cell? ⟨0, i, none⟩ = ([[73, 78, 84], [84, 69, 88, 84], [66, 79, 79, 76]].map fun z => Value.string ⟨z.toArray⟩)[i]? := fun i => (World.var?_cell gTypes hvar i).trans (by rw [← Array.getElem?_toList, hc])
 exact ⟨key 0, key 1, key 2⟩
theorem env0_of {W : World} (hsh : W.ShapedOpen Tryz.prog) {x y v : String × DataW Unit} {rest : List (String × DataW Unit)} (hL : laidMet Tryz.prog (x :: y :: ("internal/strconv.uint64pow10", Rows.laid_internal_strconv_uint64pow10) :: v :: ("caddis/stmt.types", Rows.laid_caddis_stmt_types) :: rest) W) : Env0 W :=
 ⟨maxL_of hsh, tab10_of hL, typT_of hL⟩
end Go.Proofs.YtchilcchogcibaaGreatDoor
