/- caddislaw03.LexerBlanks answers true: blanks and ends of lines at either end, and between two tokens, change nothing; the tokens of two texts, one behind the other with a blank between, are those of both. Condition: the library's length lies there. -/
import Derived.Test.YtdoonajhplcmlaaDoorLex5
import Derived.Test.YtdoonajhplcmlaaDoorCutLaw
import Derived.Test.YtdoonajhplcmlaaDoorAppend
import Derived.IntWalk
namespace Go.Proofs.YtdoonajhplcmlaaDoor
open Go.RowKit

attribute [local go_sem] ByteArray.extract_mk ba_get ba_append
attribute [local go_sem ↓] Go.wp_at_zero Go.wp_at_succ run_eql_T run_neq_T

def blk : Nat → List UInt8
  | 0 => [32]
  | k + 1 => blk k ++ [10, 32]
theorem blk_len (k : Nat) : (blk k).length = 2 * k + 1 := by
  induction k with
  | zero => rfl
  | succ k ih => simp [blk, ih]; omega
theorem blk_blank (k : Nat) : ∀ b ∈ blk k, blankB b = true := by
  induction k with
  | zero => intro b hb; simp [blk] at hb; subst hb; decide
  | succ k ih =>
    intro b hb
    simp only [blk, List.mem_append, List.mem_cons, List.not_mem_nil, or_false] at hb
    rcases hb with hb | rfl | rfl
    · exact ih b hb
    · decide
    · decide
theorem blk_gap (k : Nat) (t : List UInt8) : Gap (blk k ++ t) := by
  have hl := blk_len k
  cases h : blk k with
  | nil => rw [h] at hl; simp at hl
  | cons b r => exact .inr ⟨b, r ++ t, rfl, blk_blank k b (by rw [h]; simp)⟩
theorem cut_around (k : Nat) (s : List UInt8) : cutT (blk k ++ (s ++ blk k)) = cutT s := by
  rw [cutT_toks, cutT_toks, toks_front _ _ (blk_blank k), toks_back _ _ (blk_blank k)]
theorem cutT_some {s : List UInt8} {a : List Tok} (h : cutT s = some a) : toks s = some a ∧ a.length ≤ 400 := by
  rw [cutT_toks] at h
  unfold lim at h
  cases ht : toks s with
  | none => rw [ht] at h; cases h
  | some t =>
    rw [ht] at h
    simp only [Option.bind_some] at h
    split at h
    · cases h; exact ⟨rfl, by assumption⟩
    · cases h
theorem cut_join (k : Nat) {s t : List UInt8} {a b : List Tok} (h1 : cutT s = some a) (h2 : cutT t = some b) (hl : a.length + b.length ≤ 400) : cutT (s ++ (blk k ++ t)) = some (a ++ b) := by
  rw [cutT_toks, toks_gap _ (blk_gap k t) _ s a (Nat.le_refl _) (cutT_some h1).1, toks_front _ _ (blk_blank k), (cutT_some h2).1]
  simp only [Option.map_some, lim, Option.bind_some]
  rw [if_pos (by rw [List.length_append]; exact hl)]
theorem cutRes_ok {o : Option (List Tok)} (h : (cutRes o).2 = 0) : o = some (cutRes o).1 := by
  cases o with
  | none => cases h
  | some l => rfl
theorem cutRes_len (s : List UInt8) : (cutRes (cutT s)).1.length ≤ 400 := by
  cases h : cutT s with
  | none => simp [cutRes]
  | some l => exact (cutT_some h).2

theorem TkS.reads {w : World} {B : Nat} {A : Option Addr} {l : List Tok} (h : TkS w B A l) : Reads w B 2 A l.length (l.flatMap Tok.cells) := by
  refine ⟨tk_len l, fun hn => ?_⟩
  obtain ⟨b, off, rfl, hb, hr⟩ := h hn
  refine ⟨⟨b, off, none⟩, rfl, hb, fun j u hu => ?_⟩
  have hj : j < (l.flatMap Tok.cells).length := by
    rcases Nat.lt_or_ge j (l.flatMap Tok.cells).length with h1 | h1
    · exact h1
    · rw [List.getElem?_eq_none h1] at hu; cases hu
  rw [tk_len] at hj
  have hi : j / 2 < l.length := by omega
  have hv : l[j / 2]? = some l[j / 2] := List.getElem?_eq_getElem hi
  have e : j = j / 2 * 2 + j % 2 := by omega
  have hc := tk_at l (j / 2) (j % 2) _ hv (Nat.mod_lt _ (by omega))
  rw [← e, hu] at hc
  obtain ⟨h0, h1⟩ := hr (j / 2) _ hv
  rw [add_mid]
  have hm : j % 2 = 0 ∨ j % 2 = 1 := by omega
  rcases hm with hm | hm
  · rw [hm] at hc
    have : u = .int .i64 (l[j / 2]).k := by simpa [Tok.cells] using hc
    rw [this, show off + j = off + j / 2 * 2 by omega]
    exact h0
  · rw [hm] at hc
    have : u = .string ⟨(l[j / 2]).s.toArray⟩ := by simpa [Tok.cells] using hc
    rw [this, show off + j = off + j / 2 * 2 + 1 by omega]
    exact h1

set_option maxRecDepth 100000 in
set_option maxHeartbeats 2000000 in
theorem lexerBlanks_walk (s t : List UInt8) (n : Nat) (w : World) (hs : s.length ≤ maxLen) (ht : t.length ≤ maxLen) (hn : n ≤ 255) (hM : MaxL w) : Calls Tryd.prog 13 #[.string ⟨s.toArray⟩, .string ⟨t.toArray⟩, .int .u8 (n : Int)] w (Ret (.bool true) w) := by
  obtain ⟨i0, hi0, zi0, zi1, zi2⟩ := info_parts infoTk
  have HM := Lib.hid hM
  clear hM
  go_enter Tryd.func13, Tryd.ntmps13
  go_wp2_with fail
  refine (few3_any s _ hs).mono ?_
  rintro e w1 ⟨rfl, rfl⟩
  have hS : (s.take 1200).length ≤ 1200 := by rw [List.length_take]; omega
  generalize s.take 1200 = S at *
  go_wp2_with fail
  refine (few3_any t _ ht).mono ?_
  rintro e w1 ⟨rfl, rfl⟩
  have hT : (t.take 1200).length ≤ 1200 := by rw [List.length_take]; omega
  generalize t.take 1200 = T at *
  clear hs ht
  go_wp2_with fail
  refine (cutT_any S _ (by omega) HM.out).mono ?_
  have hal := cutRes_len S
  obtain ⟨P, hP⟩ : ∃ P, cutRes (cutT S) = P := ⟨_, rfl⟩
  rw [hP] at hal ⊢
  have HP := Lib.hid hP
  clear hP
  rintro e w2 ⟨A2, c2, rfl, _, _, hv2, hb2⟩
  go_wp2_with fail
  refine (cutT_any T _ (by omega) (HM.out.below hb2 rfl)).mono ?_
  have hbl := cutRes_len T
  obtain ⟨Q, hQ⟩ : ∃ Q, cutRes (cutT T) = Q := ⟨_, rfl⟩
  rw [hQ] at hbl ⊢
  have HQ := Lib.hid hQ
  clear hQ
  rintro e w3 ⟨A3, c3, rfl, _, _, hv3, hb3⟩
  have hbw3 := hb2.trans (hb3.mono hb2.size)
  have hv2' := ((hv2.vs (Nat.le_refl _)).below hb3).more hb3.size
  have hv3' := hv3.vs (Nat.le_refl _)
  clear hv2 hv3
  obtain ⟨K, hK⟩ : ∃ K, n % 5 = K := ⟨_, rfl⟩
  have hK5 : K < 5 := by omega
  have i1 : Int.tmod (n : Int) 5 = (K : Int) := by rw [Int.tmod_eq_emod_of_nonneg (by omega)]; omega
  have i2 : (n : Int) % 5 = (K : Int) := by omega
  clear hK
  go_wp2_with fail
  go_loop [11, 12] (fun b i => ∃ k : Nat, k ≤ K ∧ i = .int .i64 k ∧ b = .string ⟨(blk k).toArray⟩) (fun _ i => K - (intOf i).toNat)
  case atStart => exact ⟨0, by omega, rfl, rfl⟩
  case round =>
    obtain ⟨k, hk, rfl, rfl⟩ := hrel
    by_cases hlt : k < K
    · have b0 : (k : Int) < (K : Int) := by omega
      have hlen := blk_len k
      have hbk : (blk k).length ≤ 11 := by omega
      clear hlen
      go_wp2_with fail
      go_round
      case rel => exact ⟨k + 1, by omega, by go_num, rfl⟩
      case measure => simp [intOf]; omega
    · obtain rfl : k = K := by omega
      have b0 : ¬ (k : Int) < (k : Int) := by omega
      have hlen := blk_len k
      have hbk : (blk k).length ≤ 11 := by omega
      have hca := cut_around k S
      have hcj := fun a b => @cut_join k S T a b
      have HCA := Lib.hid hca
      have HCJ := Lib.hid hcj
      clear hlen hca hcj
      generalize blk k = B at *
      go_wp2_with fail
      refine (cutT_any (B ++ (S ++ B)) _ (by simp; omega) (HM.out.below hbw3 rfl)).mono ?_
      rw [HCA.out, HP.out]
      rintro e w4 ⟨A4, c4, rfl, _, _, hv4, hb4⟩
      have hbw4 := hbw3.trans (hb4.mono hbw3.size)
      have v2 := (hv2'.below hb4).more hb4.size
      have v4 := hv4.vs (Nat.le_refl _)
      have v3 := (hv3'.below hb4).more hb4.size
      clear hv2' hv3' hv4 i1 i2
      go_wp2_with fail
      refine (same3_any A2 A4 c2 c4 P.1 P.1 _ (by unfold maxLen; omega) (by unfold maxLen; omega) v2 v4).mono ?_
      rw [tokSame_self]
      rintro e w5 ⟨rfl, hb5⟩
      have hbw5 := hbw4.trans (hb5.mono hbw4.size)
      have v25 := (v2.below hb5).more hb5.size
      have v35 := (v3.below hb5).more hb5.size
      have hz5 := hbw5.size
      clear v2 v3 v4
      by_cases hp : P.2 = 0
      · by_cases hq : Q.2 = 0
        · have hSa := cutRes_ok (o := cutT S) (by rw [HP.out]; exact hp)
          have hTb := cutRes_ok (o := cutT T) (by rw [HQ.out]; exact hq)
          rw [HP.out] at hSa
          rw [HQ.out] at hTb
          obtain ⟨a, pe⟩ := P
          obtain ⟨b, qe⟩ := Q
          simp only at hp hq hSa hTb hal hbl v25 v35
          subst hp hq
          have HSa := Lib.hid hSa
          have HTb := Lib.hid hTb
          clear hSa hTb HP HQ
          by_cases h400 : a.length + b.length ≤ 400
          · have b1 : ¬ (400 : Int) < (a.length : Int) + (b.length : Int) := by omega
            have hj := HCJ.out a b HSa.out HTb.out h400
            have hll : (a ++ b).length ≤ 400 := by rw [List.length_append]; exact h400
            obtain ⟨L, hL⟩ : ∃ L, a ++ b = L := ⟨_, rfl⟩
            rw [hL] at hj hll
            have HLL := Lib.hid hL
            have HJ := Lib.hid hj
            clear hj HCJ hL
            go_wp2_with fail
            refine (cutT_any (S ++ (B ++ T)) _ (by simp; omega) (HM.out.below hbw5 rfl)).mono ?_
            rw [HJ.out]
            rintro e w6 ⟨A6, c6, rfl, _, _, hv6, hb6⟩
            have hbw6 := hbw5.trans (hb6.mono hbw5.size)
            have v26 := (v25.below hb6).more hb6.size
            have v36 := (v35.below hb6).more hb6.size
            have v66 := hv6.vs (Nat.le_refl _)
            clear hv6 v25 v35
            dsimp only [cutRes]
            dsimp only [cutRes] at v66
            have hown0 : (w6.alloc (.cells #[] 51)).ownsRow w6.heap.size 51 2 (.slice (some ⟨w6.heap.size, 0, none⟩) 0 0) 0 [] := World.ownsRow_made w6 #[] 0 (Nat.le_refl _) (Nat.zero_le _) rfl
            have hba : Below w6.heap.size w6 (w6.alloc (.cells #[] 51)) := (Below.refl _ _).alloc (Nat.le_refl _) _
            have hva := ((v26.below hba).reads)
            go_wp2_with (at_builtin; refine wpList_append_any _ rfl (.tmp 83) (.tmp 84) 44 rfl w6.heap.size 51 i0 _ 2 24 Tryd.underlying44 hi0 zi0 zi1 zi2 rfl (by decide) _ _ _ rfl hown0 w6.heap.size A2 a.length c2 _ rfl hva (tk_one a) ?c1 ?c2 ?c3 ?_)
            case c1 => unfold maxLen; omega
            case c2 => omega
            case c3 => simp
            intro v7 w7 hown7 hg7 hat7
            have hb7 : Below w6.heap.size w6 w7 := hba.grown hg7 (by simp) (by simp [Value.ownBlock])
            have hz7 := hb7.size
            have hub := (v36.below hb7).reads
            have hl7 := hown7.lt
            go_wp2_with (at_builtin; refine wpList_append_any _ rfl (.tmp 85) (.tmp 86) 44 rfl w6.heap.size 51 i0 _ 2 24 Tryd.underlying44 hi0 zi0 zi1 zi2 rfl (by decide) _ _ _ rfl hown7 w6.heap.size A3 b.length c3 _ rfl hub (tk_one b) ?d1 ?d2 ?d3 ?_)
            case d1 => unfold maxLen; omega
            case d2 => omega
            case d3 => omega
            intro v8 w8 hown8 hg8 hat8
            have hb8 : Below w6.heap.size w6 w8 := hb7.grown hg8 hz7 (fun k hk => (hl7 k hk).1)
            rw [← List.flatMap_append, HLL.out] at hown8
            obtain ⟨A8, c8, rfl, _, _, hv8⟩ := TkS.own hown8
            have vs8 := hv8.vs (Nat.le_refl _)
            have vs6 := (v66.below hb8).more hb8.size
            have hbw8 := hbw6.trans (hb8.mono hbw6.size)
            have hab : L.length ≤ maxLen := by unfold maxLen; omega
            have HAB := Lib.hid hab
            clear hown7 hown8 hg7 hg8 hat7 hat8 hl7 hva hub hown0 hba hb7 hab
            clear hv8 HJ
            go_wp2_with fail
            refine (same3_any A6 A8 c6 c8 L L _ HAB.out HAB.out vs6 vs8).mono ?_
            rw [tokSame_self]
            rintro e w9 ⟨rfl, hb9⟩
            have hbw9 := hbw8.trans (hb9.mono hbw8.size)
            go_wp2_with fail
            refine (awake3_any _ (HM.out.below hbw9 rfl)).mono ?_
            rintro e w10 ⟨rfl, hb10⟩
            go_wp2_with fail
            go_ret
            exact ⟨rfl, hbw9.trans (hb10.mono hbw9.size)⟩
          · have b1 : (400 : Int) < (a.length : Int) + (b.length : Int) := by omega
            go_wp2_with fail
            refine (awake3_any _ (HM.out.below hbw5 rfl)).mono ?_
            rintro e w6 ⟨rfl, hb6⟩
            go_wp2_with fail
            go_ret
            exact ⟨rfl, hbw5.trans (hb6.mono hz5)⟩
        · have q1 : (Q.2 != 0) = true := by simpa using hq
          have p1 : (P.2 != 0) = false := by simpa using hp
          clear hq hp
          go_wp2_with fail
          refine (awake3_any _ (HM.out.below hbw5 rfl)).mono ?_
          rintro e w6 ⟨rfl, hb6⟩
          go_wp2_with fail
          go_ret
          exact ⟨rfl, hbw5.trans (hb6.mono hz5)⟩
      · have p1 : (P.2 != 0) = true := by simpa using hp
        clear hp
        go_wp2_with fail
        refine (awake3_any _ (HM.out.below hbw5 rfl)).mono ?_
        rintro e w6 ⟨rfl, hb6⟩
        go_wp2_with fail
        go_ret
        exact ⟨rfl, hbw5.trans (hb6.mono hz5)⟩

end Go.Proofs.YtdoonajhplcmlaaDoor
