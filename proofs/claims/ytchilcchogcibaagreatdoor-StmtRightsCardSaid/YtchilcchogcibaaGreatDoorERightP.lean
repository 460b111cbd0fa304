/- A GRANT's and a REVOKE's text, in plain words; stmt.Parse at the four texts of StmtRights. -/
import Derived.Test.YtchilcchogcibaaGreatDoorEPs5
namespace Go.Proofs.YtchilcchogcibaaGreatDoor
open Go.RowKit
theorem firstT_noq (c : UInt8) (r t : List UInt8) (ht : Gap t) (hc : ¬ c.toNat = 39) : firstT (c :: r ++ t) = firstT (c :: r) := by
 obtain ⟨g1, g2, g3⟩ := ht.run
 have e1 := lenRun_gap letB partB (c :: r) t (by simp) g1
 have e2 := lenRun_gap digB digB (c :: r) t (by simp) g2
 have l1 := lenRun_le letB partB (c :: r)
 have l2 := lenRun_le digB digB (c :: r)
 unfold firstT
 rw [e1, e2]
 split
 ·rw [List.take_append_of_le_length l1]
 ·split
  ·rw [List.take_append_of_le_length l2]
  ·simp only [List.cons_append]
   rw [if_neg hc, if_neg hc]
theorem firstT_quoted (c : UInt8) (r : List UInt8) (hc : c.toNat = 39) (hm : mayT (firstT (c :: r)).1 = true) : (firstT (c :: r)).1.k = 3 := by
 have hl : letB c = false ∧ digB c = false := by unfold letB digB; rw [hc]; decide
 have e1 : lenRun letB partB (c :: r) = 0 := by show (if letB c then 1 + _ else 0) = 0; rw [hl.1]; rfl
 have e2 : lenRun digB digB (c :: r) = 0 := by show (if digB c then 1 + _ else 0) = 0; rw [hl.2]; rfl
 unfold firstT at hm ⊢
 rw [e1, e2] at hm ⊢
 simp only [Nat.lt_irrefl, if_false, if_pos hc] at hm ⊢
 unfold quotedT at hm ⊢
 split
 ·rename_i h
  rw [h] at hm
  cases hm
 ·rfl
theorem toks_ahead (t : List UInt8) (ht : Gap t) : ∀ (n : Nat) (s : List UInt8) (m : List Tok), s.length ≤ n → toks (s ++ t) = some m → (∀ x ∈ m, ¬ x.k = 3) → ∃ a b, toks s = some a ∧ toks t = some b ∧ m = a ++ b := by
 intro n
 induction n with
 | zero =>
  intro s m hs h _
  have : s = [] := List.eq_nil_of_length_eq_zero (by omega)
  subst this
  exact ⟨[], m, rfl, h, rfl⟩
 | succ n ih =>
  intro s m hs h hk
  cases s with
  | nil => exact ⟨[], m, rfl, h, rfl⟩
  | cons c r =>
   simp only [List.length_cons] at hs
   cases hb : blankB c
   ·cases hm : mayT (firstT (c :: r ++ t)).1
    ·rw [List.cons_append] at h hm
     rw [toks_bad c (r ++ t) hb hm] at h; cases h
    ·have h' := h
     rw [List.cons_append] at h'
     rw [toks_tok c (r ++ t) hb (by rw [← List.cons_append]; exact hm)] at h'
     cases hq : toks ((c :: (r ++ t)).drop (firstT (c :: (r ++ t))).2) with
     | none => rw [hq] at h'; cases h'
     | some m' =>
      rw [hq] at h'
      have hm' : m = (firstT (c :: (r ++ t))).1 :: m' := by injection h' with h'; exact h'.symm
      have hf : firstT (c :: r ++ t) = firstT (c :: r) := by
       by_cases hc : c.toNat = 39
       ·have := firstT_quoted c (r ++ t) hc (by rw [← List.cons_append]; exact hm)
        exact absurd this (hk _ (by rw [hm']; simp))
       ·exact firstT_noq c r t ht hc
      rw [hf] at hm
      have hge := (firstT_le (c :: r) (by simp)).2 hm
      have hle := (firstT_le (c :: r) (by simp)).1
      rw [← List.cons_append, hf, List.drop_append_of_le_length hle] at hq
      rw [← List.cons_append, hf] at hm'
      obtain ⟨a, b, h1, h2, h3⟩ := ih ((c :: r).drop (firstT (c :: r)).2) m' (by rw [List.length_drop, List.length_cons]; omega) hq (fun x hx => hk x (by rw [hm']; simp [hx]))
      refine ⟨(firstT (c :: r)).1 :: a, b, ?_, h2, by rw [hm', h3]; rfl⟩
      rw [toks_tok c r hb hm, h1]
      rfl
   ·rw [List.cons_append, toks_blank c _ hb] at h
    rw [toks_blank c r hb]
    exact ih r m (by omega) h hk
theorem toks_pre (P : List UInt8) (p : List Tok) (hp : toks P = some p) (x : List UInt8) : toks (P ++ 32 :: x) = (toks x).map (p ++ ·) := by
 rw [toks_edge (32 :: x) (Gap.edge (.inr ⟨32, x, rfl, rfl⟩)) _ P p (Nat.le_refl _) hp, toks_blank 32 x (by decide)]
theorem join3 (t word r : List UInt8) (a b : Tok) (W : List Tok) (hw : toks word = some W) (ht : toks t = some [a]) (hr : toks r = some [b]) : toks (t ++ 32 :: (word ++ 32 :: r)) = some ([a] ++ (W ++ [b])) := by
 rw [toks_pre t [a] ht, toks_pre word W hw, hr]
 rfl
theorem split3 (t word r : List UInt8) (hw : toks word = some [⟨1, word⟩]) (hres : nameG word = false) (m : List Tok) (h : toks (t ++ 32 :: (word ++ 32 :: r)) = some m) (hlen : m.length = 3) (a b : List UInt8) (h0 : m[0]? = some ⟨1, a⟩) (h1 : ∀ x, m[1]? = some x → ¬ x.k = 3) (h2 : m[2]? = some ⟨1, b⟩) (ha : nameG a = true) (hb : nameG b = true) :
  toks t = some [⟨1, a⟩] ∧ toks r = some [⟨1, b⟩] := by
 have hk : ∀ x ∈ m, ¬ x.k = 3 := fun x hx => by
  obtain ⟨i, hi⟩ := List.getElem?_of_mem hx
  have hlt : i < 3 := by rw [← hlen]; exact (List.getElem?_eq_some_iff.1 hi).1
  match i, hlt with
  | 0, _ => rw [h0] at hi; injection hi with hi; rw [← hi]; simp
  | 1, _ => exact h1 x hi
  | 2, _ => rw [h2] at hi; injection hi with hi; rw [← hi]; simp
 obtain ⟨a', b', e1, e2, e3⟩ := toks_ahead (32 :: (word ++ 32 :: r)) (.inr ⟨32, _, rfl, rfl⟩) _ t m (Nat.le_refl _) h hk
 rw [toks_blank 32 _ (by decide), toks_pre word [⟨1, word⟩] hw] at e2
 cases hr : toks r with
 | none => rw [hr] at e2; cases e2
 | some c =>
  rw [hr] at e2
  injection e2 with e2
  subst e2
  subst e3
  match a', c with
  | [], [] => simp at hlen
  | [], [y] => simp at hlen
  | [], [y, z] =>
   simp at h0
   rw [← h0] at ha
   rw [hres] at ha; cases ha
  | [], y :: z :: u :: q => simp at hlen
  | [x], [] => simp at hlen
  | [x], [y] =>
   simp at h0 h2
   subst h0 h2
   exact ⟨e1, rfl⟩
  | [x], y :: z :: q => simp at hlen
  | [x, y], [] =>
   simp at h2
   rw [← h2] at hb
   rw [hres] at hb; cases hb
  | [x, y], z :: q => simp at hlen
  | x :: y :: z :: q, c => simp at hlen <;> omega
def parsedR (s ahead word : List UInt8) : Option St := (cutT s).bind fun l => ((grantP l 1 ahead word).bind fun r => if l.length = 6 then some r else none).bind fun r => if mayS (grS r) then some (grS r) else none
theorem nameAt_of {l : List Tok} {i : Nat} {a : List UInt8} (h : nameAt l i = some a) : l[i]? = some ⟨1, a⟩ ∧ nameG a = true := by
 unfold nameAt at h
 split at h
 ·cases h
 ·rename_i t ht
  split at h
  ·rename_i hq
   injection h with h
   obtain ⟨k, s⟩ := t
   dsimp only at hq h
   obtain ⟨rfl, hn⟩ := hq
   subst h
   exact ⟨ht, hn⟩
  ·cases h
theorem nameAt_to {l : List Tok} {i : Nat} {a : List UInt8} (h : l[i]? = some ⟨1, a⟩) (ha : nameG a = true) : nameAt l i = some a := by
 unfold nameAt
 rw [h]
 simp [ha]
theorem hit_to {l : List Tok} {i : Nat} {a : List UInt8} (w : List UInt8) (h : l[i]? = some ⟨1, a⟩) : hit l i w = (a == w) := by
 unfold hit
 rw [h]
 simp [isB]
theorem granted_parts {l : List Tok} {ahead : List UInt8} {q : List UInt8 × List UInt8} (h : grantedP l 1 ahead = some q) : ∃ a, nameAt l 3 = some a := by
 unfold grantedP at h
 have key : ∀ (w : List UInt8), ((nameAt l (1 + 2)).map fun t => (ahead ++ w, t)) = some q → ∃ a, nameAt l 3 = some a := fun w h => by
  cases hn : nameAt l (1 + 2) with
  | none => rw [hn] at h; cases h
  | some s => exact ⟨s, rfl⟩
 split at h
 ·split at h
  ·exact key _ h
  ·cases h
 ·split at h
  ·split at h
   ·exact key _ h
   ·cases h
  ·cases h
theorem grant_parts {l : List Tok} {ahead word : List UInt8} {q : List UInt8 × List UInt8 × List UInt8} (h : grantP l 1 ahead word = some q) : (∃ a, nameAt l 3 = some a) ∧ hit l 4 word = true ∧ ∃ b, nameAt l 5 = some b := by
 unfold grantP at h
 cases hg : grantedP l 1 ahead with
 | none => rw [hg] at h; cases h
 | some g =>
  rw [hg] at h
  simp only [Option.bind_some] at h
  split at h
  ·rename_i hh
   refine ⟨granted_parts hg, hh, ?_⟩
   cases hn : nameAt l (1 + 4) with
   | none => rw [hn] at h; cases h
   | some s => exact ⟨s, rfl⟩
  ·cases h
theorem right_no (P : List UInt8) (x y z : Tok) (ahead word t r : List UInt8) (hP : toks P = some [x, y, z]) (hw : toks word = some [⟨1, word⟩]) (hres : nameG word = false)
  (hno : ¬ ∃ a b, toks t = some [⟨1, a⟩] ∧ nameG a = true ∧ toks r = some [⟨1, b⟩] ∧ nameG b = true) : parsedR (P ++ 32 :: (t ++ 32 :: (word ++ 32 :: r))) ahead word = none := by
 unfold parsedR
 rw [cutT_toks, toks_pre P _ hP]
 cases hm : toks (t ++ 32 :: (word ++ 32 :: r)) with
 | none => rfl
 | some m =>
  unfold lim
  simp only [Option.map_some, Option.bind_some]
  split
  ·simp only [Option.bind_some]
   cases hg : grantP ([x, y, z] ++ m) 1 ahead word with
   | none => rfl
   | some q =>
    simp only [Option.bind_some]
    split
    ·exfalso
     rename_i hl
     obtain ⟨⟨a, ha⟩, hh, b, hb⟩ := grant_parts hg
     obtain ⟨a1, a2⟩ := nameAt_of ha
     obtain ⟨b1, b2⟩ := nameAt_of hb
     have hl3 : m.length = 3 := by simp at hl; omega
     have a1' : m[0]? = some ⟨1, a⟩ := by simpa using a1
     have b1' : m[2]? = some ⟨1, b⟩ := by simpa using b1
     have h1 : ∀ u, m[1]? = some u → ¬ u.k = 3 := fun u hu => by
      have hu' : ([x, y, z] ++ m)[4]? = some u := by simpa using hu
      unfold hit at hh
      rw [hu'] at hh
      intro e
      simp [isB, e] at hh
     obtain ⟨e1, e2⟩ := split3 t word r hw hres m hm hl3 a b a1' h1 b1' a2 b2
     exact hno ⟨a, b, e1, a2, e2, b2⟩
    ·rfl
  ·rfl
theorem right_yes (P F K kl ahead word t r a b : List UInt8) (hP : toks P = some [⟨1, F⟩, ⟨1, K⟩, ⟨1, [79, 78]⟩]) (hK : (K = [82, 69, 65, 68] ∧ kl = [114, 101, 97, 100]) ∨ (K = [87, 82, 73, 84, 69] ∧ kl = [119, 114, 105, 116, 101])) (hw : toks word = some [⟨1, word⟩])
  (ht : toks t = some [⟨1, a⟩]) (ha : nameG a = true) (hr : toks r = some [⟨1, b⟩]) (hb : nameG b = true) (hm : mayS (grS (ahead ++ kl, a, b)) = true) : parsedR (P ++ 32 :: (t ++ 32 :: (word ++ 32 :: r))) ahead word = some (grS (ahead ++ kl, a, b)) := by
 unfold parsedR
 rw [cutT_toks, toks_pre P _ hP, join3 t word r _ _ _ hw ht hr]
 unfold lim
 have hg : grantP [⟨1, F⟩, ⟨1, K⟩, ⟨1, [79, 78]⟩, ⟨1, a⟩, ⟨1, word⟩, ⟨1, b⟩] 1 ahead word = some (ahead ++ kl, a, b) := by
  unfold grantP grantedP
  rw [hit_to (l := [⟨1, F⟩, ⟨1, K⟩, ⟨1, [79, 78]⟩, ⟨1, a⟩, ⟨1, word⟩, ⟨1, b⟩]) (i := 1) (a := K) _ rfl, hit_to (l := [⟨1, F⟩, ⟨1, K⟩, ⟨1, [79, 78]⟩, ⟨1, a⟩, ⟨1, word⟩, ⟨1, b⟩]) (i := 1) (a := K) _ rfl, hit_to (i := 1 + 1) (a := [79, 78]) _ rfl, nameAt_to (i := 1 + 2) (a := a) rfl ha, hit_to (i := 1 + 3) (a := word) _ rfl, nameAt_to (i := 1 + 4) (a := b) rfl hb]
  rcases hK with ⟨rfl, rfl⟩ | ⟨rfl, rfl⟩ <;> simp
 simp only [Option.map_some, Option.bind_some]
 show (if _ then some _ else none : Option (List Tok)).bind _ = _
 rw [if_pos (by simp)]
 simp only [Option.bind_some]
 show ((grantP [⟨1, F⟩, ⟨1, K⟩, ⟨1, [79, 78]⟩, ⟨1, a⟩, ⟨1, word⟩, ⟨1, b⟩] 1 ahead word).bind _).bind _ = _
 rw [hg]
 simp only [Option.bind_some]
 rw [if_pos (by rfl)]
 simp only [Option.bind_some]
 rw [if_pos hm]
theorem toks_name {a : List UInt8} (ha : nameG a = true) : toks a = some [⟨1, a⟩] := by
 have h : nameB a = true := by
  unfold nameG at ha
  simp only [Bool.and_eq_true] at ha
  exact ha.1
 have := toks_wr1 ⟨1, a⟩ (by unfold mayT; rw [if_neg (by simp), if_neg (by simp), if_pos rfl]; exact h)
 simpa [wrT] using this
theorem may_gr (op P word a b : List UInt8) (p : List Tok) (hP : toks P = some p) (hp : p.length = 3) (hw : toks word = some [⟨1, word⟩]) (ha : nameG a = true) (hb : nameG b = true)
  (h1 : partsS (grS (op, a, b)) = true) (h2 : textS (grS (op, a, b)) = P ++ 32 :: (a ++ 32 :: (word ++ 32 :: b))) : mayS (grS (op, a, b)) = true := by
 unfold mayS
 rw [h1, h2, cutT_toks, toks_pre P p hP, join3 a word b _ _ _ hw (toks_name ha) (toks_name hb)]
 simp [lim, hp]
theorem parts_gr (op a b : List UInt8) (ho : op = oRead ∨ op = oWrite ∨ op = oUnread ∨ op = oUnwrite) (ha : nameG a = true) (hb : nameG b = true) : partsS (grS (op, a, b)) = true := by
 rcases ho with rfl | rfl | rfl | rfl <;>
 ·show (nameG a && nameG b && emptyS _) = true
  rw [ha, hb]
  rfl
theorem may_len {t : Tok} (h : mayT t = true) : t.s.length ≤ 1000 := by
 unfold mayT at h
 split at h
 ·rw [mayB_rest] at h
  simp only [Bool.and_eq_true] at h
  have h2 := h.2
  unfold restB at h2
  rw [if_neg (by decide), if_neg (by decide), if_pos rfl] at h2
  simp only [Bool.and_eq_true, decide_eq_true_eq] at h2
  omega
 ·split at h
  ·obtain ⟨k, s⟩ := t
   dsimp only at h ⊢
   match s, h with
   | [c], _ => simp
   | [], h => cases h
   | a :: b :: r, h => cases h
  ·split at h
   ·unfold runB at h
    simp only [Bool.and_eq_true, decide_eq_true_eq] at h
    omega
   ·split at h
    ·unfold runB at h
     simp only [Bool.and_eq_true, decide_eq_true_eq] at h
     omega
    ·cases h
theorem cut_parts {s : List UInt8} {l : List Tok} (h : cutT s = some l) : l.length ≤ 400 ∧ ∀ t ∈ l, t.s.length ≤ 1000 := by
 rw [cutT_toks] at h
 unfold lim at h
 cases hq : toks s with
 | none => rw [hq] at h; cases h
 | some m =>
  rw [hq] at h
  simp only [Option.bind_some] at h
  split at h
  ·rename_i hm
   injection h with h
   subst h
   exact ⟨hm, fun t ht => may_len (toks_may _ s m (Nat.le_refl _) hq t ht)⟩
  ·cases h
theorem cut_first {P x : List UInt8} {a b c : Tok} {l : List Tok} (hP : toks P = some [a, b, c]) (h : cutT (P ++ 32 :: x) = some l) : l[0]? = some a := by
 rw [cutT_toks, toks_pre P _ hP] at h
 unfold lim at h
 cases hq : toks x with
 | none => rw [hq] at h; cases h
 | some m =>
  rw [hq] at h
  simp only [Option.map_some, Option.bind_some] at h
  split at h
  ·injection h with h
   rw [← h]
   rfl
  ·cases h
theorem rgrant_any (P x : List UInt8) (b c : Tok) (w : World) (hP : toks P = some [⟨1, [71, 82, 65, 78, 84]⟩, b, c]) (hs : (P ++ 32 :: x).length ≤ 1000) (hV : Env0 w) : Calls Tryz.prog 30 #[.string ⟨(P ++ 32 :: x).toArray⟩] w (RetPp (parsedR (P ++ 32 :: x) [] [84, 79]) w) := by
 cases hc : cutT (P ++ 32 :: x) with
 | none =>
  have : parsedR (P ++ 32 :: x) [] [84, 79] = none := by unfold parsedR; rw [hc]; rfl
  rw [this]
  exact pparse_none _ w (by omega) hc hV
 | some l =>
  obtain ⟨h1, h2⟩ := cut_parts hc
  have : parsedR (P ++ 32 :: x) [] [84, 79] = ((grantP l 1 [] [84, 79]).bind fun r => if l.length = 6 then some r else none).bind fun r => if mayS (grS r) then some (grS r) else none := by unfold parsedR; rw [hc]; rfl
  rw [this]
  exact pparse_grant _ l w (by omega) hc (by omega) (cut_first hP hc) h2 hV
theorem rrevoke_any (P x : List UInt8) (b c : Tok) (w : World) (hP : toks P = some [⟨1, [82, 69, 86, 79, 75, 69]⟩, b, c]) (hs : (P ++ 32 :: x).length ≤ 1000) (hV : Env0 w) : Calls Tryz.prog 30 #[.string ⟨(P ++ 32 :: x).toArray⟩] w (RetPp (parsedR (P ++ 32 :: x) [117, 110] [70, 82, 79, 77]) w) := by
 cases hc : cutT (P ++ 32 :: x) with
 | none =>
  have : parsedR (P ++ 32 :: x) [117, 110] [70, 82, 79, 77] = none := by unfold parsedR; rw [hc]; rfl
  rw [this]
  exact pparse_none _ w (by omega) hc hV
 | some l =>
  obtain ⟨h1, h2⟩ := cut_parts hc
  have : parsedR (P ++ 32 :: x) [117, 110] [70, 82, 79, 77] = ((grantP l 1 [117, 110] [70, 82, 79, 77]).bind fun r => if l.length = 6 then some r else none).bind fun r => if mayS (grS r) then some (grS r) else none := by unfold parsedR; rw [hc]; rfl
  rw [this]
  exact pparse_revoke _ l w (by omega) hc (by omega) (cut_first hP hc) h2 hV
inductive Four (o1 o2 o3 o4 : Option St) : Prop
 | no (h1 : o1 = none) (h2 : o2 = none) (h3 : o3 = none) (h4 : o4 = none) : Four o1 o2 o3 o4
 | yes (a b : List UInt8) (h1 : o1 = some (grS (oRead, a, b))) (h2 : o2 = some (grS (oUnread, a, b))) (h3 : o3 = some (grS (oWrite, a, b))) (h4 : o4 = some (grS (oUnwrite, a, b))) (ha : a.length ≤ 16) (hb : b.length ≤ 16) : Four o1 o2 o3 o4
def txG (P word t r : List UInt8) : List UInt8 := P ++ 32 :: (t ++ 32 :: (word ++ 32 :: r))
theorem four_any (t r : List UInt8) : Four (parsedR (txG [71, 82, 65, 78, 84, 32, 82, 69, 65, 68, 32, 79, 78] [84, 79] t r) [] [84, 79]) (parsedR (txG [82, 69, 86, 79, 75, 69, 32, 82, 69, 65, 68, 32, 79, 78] [70, 82, 79, 77] t r) [117, 110] [70, 82, 79, 77]) (parsedR (txG [71, 82, 65, 78, 84, 32, 87, 82, 73, 84, 69, 32, 79, 78] [84, 79] t r) [] [84, 79]) (parsedR (txG [82, 69, 86, 79, 75, 69, 32, 87, 82, 73, 84, 69, 32, 79, 78] [70, 82, 79, 77] t r) [117, 110] [70, 82, 79, 77]) := by
 have p1 : toks [71, 82, 65, 78, 84, 32, 82, 69, 65, 68, 32, 79, 78] = some [⟨1, [71, 82, 65, 78, 84]⟩, ⟨1, [82, 69, 65, 68]⟩, ⟨1, [79, 78]⟩] := by rfl
 have p2 : toks [82, 69, 86, 79, 75, 69, 32, 82, 69, 65, 68, 32, 79, 78] = some [⟨1, [82, 69, 86, 79, 75, 69]⟩, ⟨1, [82, 69, 65, 68]⟩, ⟨1, [79, 78]⟩] := by rfl
 have p3 : toks [71, 82, 65, 78, 84, 32, 87, 82, 73, 84, 69, 32, 79, 78] = some [⟨1, [71, 82, 65, 78, 84]⟩, ⟨1, [87, 82, 73, 84, 69]⟩, ⟨1, [79, 78]⟩] := by rfl
 have p4 : toks [82, 69, 86, 79, 75, 69, 32, 87, 82, 73, 84, 69, 32, 79, 78] = some [⟨1, [82, 69, 86, 79, 75, 69]⟩, ⟨1, [87, 82, 73, 84, 69]⟩, ⟨1, [79, 78]⟩] := by rfl
 have q1 : toks [84, 79] = some [⟨1, [84, 79]⟩] := by rfl
 have q2 : toks [70, 82, 79, 77] = some [⟨1, [70, 82, 79, 77]⟩] := by rfl
 have n1 : nameG [84, 79] = false := by decide +kernel
 have n2 : nameG [70, 82, 79, 77] = false := by decide +kernel
 by_cases h : ∃ a b, toks t = some [⟨1, a⟩] ∧ nameG a = true ∧ toks r = some [⟨1, b⟩] ∧ nameG b = true
 ·obtain ⟨a, b, ht, ha, hr, hb⟩ := h
  refine .yes a b ?_ ?_ ?_ ?_ (nameG_len ha) (nameG_len hb)
  ·exact right_yes _ [71, 82, 65, 78, 84] [82, 69, 65, 68] [114, 101, 97, 100] [] [84, 79] t r a b p1 (.inl ⟨rfl, rfl⟩) q1 ht ha hr hb (may_gr _ [71, 82, 65, 78, 84, 32, 82, 69, 65, 68, 32, 79, 78] [84, 79] a b _ p1 rfl q1 ha hb (parts_gr _ a b (.inl rfl) ha hb) (by show _ ++ a ++ _ ++ b = _; simp; rfl))
  ·exact right_yes _ [82, 69, 86, 79, 75, 69] [82, 69, 65, 68] [114, 101, 97, 100] [117, 110] [70, 82, 79, 77] t r a b p2 (.inl ⟨rfl, rfl⟩) q2 ht ha hr hb (may_gr _ [82, 69, 86, 79, 75, 69, 32, 82, 69, 65, 68, 32, 79, 78] [70, 82, 79, 77] a b _ p2 rfl q2 ha hb (parts_gr _ a b (.inr (.inr (.inl rfl))) ha hb) (by show _ ++ a ++ _ ++ b = _; simp; rfl))
  ·exact right_yes _ [71, 82, 65, 78, 84] [87, 82, 73, 84, 69] [119, 114, 105, 116, 101] [] [84, 79] t r a b p3 (.inr ⟨rfl, rfl⟩) q1 ht ha hr hb (may_gr _ [71, 82, 65, 78, 84, 32, 87, 82, 73, 84, 69, 32, 79, 78] [84, 79] a b _ p3 rfl q1 ha hb (parts_gr _ a b (.inr (.inl rfl)) ha hb) (by show _ ++ a ++ _ ++ b = _; simp; rfl))
  ·exact right_yes _ [82, 69, 86, 79, 75, 69] [87, 82, 73, 84, 69] [119, 114, 105, 116, 101] [117, 110] [70, 82, 79, 77] t r a b p4 (.inr ⟨rfl, rfl⟩) q2 ht ha hr hb (may_gr _ [82, 69, 86, 79, 75, 69, 32, 87, 82, 73, 84, 69, 32, 79, 78] [70, 82, 79, 77] a b _ p4 rfl q2 ha hb (parts_gr _ a b (.inr (.inr (.inr rfl))) ha hb) (by show _ ++ a ++ _ ++ b = _; simp; rfl))
 ·exact .no (right_no _ _ _ _ _ _ t r p1 q1 n1 h) (right_no _ _ _ _ _ _ t r p2 q2 n2 h) (right_no _ _ _ _ _ _ t r p3 q1 n1 h) (right_no _ _ _ _ _ _ t r p4 q2 n2 h)
end Go.Proofs.YtchilcchogcibaaGreatDoor
