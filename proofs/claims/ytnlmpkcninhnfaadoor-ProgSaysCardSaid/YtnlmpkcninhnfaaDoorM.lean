/-
  Plain laws on programs' texts: what is written is read as it was. No program, no memory.
-/
import Derived.Lib.ItoaNum
import Derived.Lib.Join
import Derived.Lib.AtoiAll
import Derived.Lib.ParseIntB
import Derived.Lib.Split
import Derived.Lib.IndexMore
import Derived.Lib.IndexBytes
namespace Go.Proofs.YtnlmpkcninhnfaaDoor
open Go

/-! ### digits -/
theorem dec_digit : ∀ (u : Nat), ∀ c ∈ Lib.decDigits u, 48 ≤ c.toNat ∧ c.toNat ≤ 57 := by
  intro u
  induction u using Nat.strongRecOn with
  | ind u ih =>
    intro c hc
    rw [Lib.decDigits] at hc
    split at hc
    · rename_i h
      rw [List.mem_singleton] at hc
      subst hc
      rw [UInt8.toNat_ofNat']
      omega
    · rename_i h
      rw [List.mem_append, List.mem_singleton] at hc
      rcases hc with hc | rfl
      · exact ih (u / 10) (by omega) c hc
      · rw [UInt8.toNat_ofNat']
        omega
theorem dec_ne_nil (u : Nat) : Lib.decDigits u ≠ [] := by
  intro h
  have h1 := Lib.decDigits_length u
  have h2 := Lib.nDigits_pos u
  rw [h] at h1
  simp at h1
  omega
theorem parse_append : ∀ (l r : List UInt8) (acc v : Nat), Lib.parseUint10 acc l = .ok v → Lib.parseUint10 acc (l ++ r) = Lib.parseUint10 v r
  | [], r, acc, v, h => by
    simp only [Lib.parseUint10] at h
    injection h with h
    subst h
    rfl
  | c :: l, r, acc, v, h => by
    simp only [Lib.parseUint10, List.cons_append] at h ⊢
    split at h
    · rename_i h1
      rw [if_pos h1]
      split at h
      · cases h
      · rename_i h2
        rw [if_neg h2]
        split at h
        · cases h
        · rename_i h3
          rw [if_neg h3]
          exact parse_append l r _ v h
    · cases h
theorem parseM_append (M : Nat) : ∀ (l r : List UInt8) (acc v : Nat), Lib.parseUintM M acc l = .ok v → Lib.parseUintM M acc (l ++ r) = Lib.parseUintM M v r
  | [], r, acc, v, h => by
    simp only [Lib.parseUintM] at h
    injection h with h
    subst h
    rfl
  | c :: l, r, acc, v, h => by
    simp only [Lib.parseUintM, List.cons_append] at h ⊢
    split at h
    · rename_i h1
      rw [if_pos h1]
      split at h
      · cases h
      · rename_i h2
        rw [if_neg h2]
        split at h
        · cases h
        · rename_i h3
          rw [if_neg h3]
          exact parseM_append M l r _ v h
    · cases h
theorem parse_dec (u : Nat) (hu : u < 4611686018427387904) : Lib.parseUint10 0 (Lib.decDigits u) = .ok u := by
  induction u using Nat.strongRecOn with
  | ind u ih =>
    rw [Lib.decDigits]
    split
    · rename_i h
      have e : (UInt8.ofNat (48 + u)).toNat = 48 + u := by rw [UInt8.toNat_ofNat']; omega
      simp only [Lib.parseUint10, e]
      rw [if_pos (by omega), if_neg (by omega), if_neg (by omega)]
      congr 1
      omega
    · rename_i h
      rw [parse_append _ _ _ _ (ih (u / 10) (by omega) (by omega))]
      have e : (UInt8.ofNat (48 + u % 10)).toNat = 48 + u % 10 := by rw [UInt8.toNat_ofNat']; omega
      simp only [Lib.parseUint10, e]
      rw [if_pos (by omega), if_neg (by omega), if_neg (by omega)]
      congr 1
      omega
theorem parseM_dec (M u : Nat) (hM : u ≤ M) (hu : u < 4611686018427387904) : Lib.parseUintM M 0 (Lib.decDigits u) = .ok u := by
  induction u using Nat.strongRecOn with
  | ind u ih =>
    rw [Lib.decDigits]
    split
    · rename_i h
      have e : (UInt8.ofNat (48 + u)).toNat = 48 + u := by rw [UInt8.toNat_ofNat']; omega
      simp only [Lib.parseUintM, e]
      rw [if_pos (by omega), if_neg (by omega), if_neg (by omega)]
      congr 1
      omega
    · rename_i h
      rw [parseM_append M _ _ _ _ (ih (u / 10) (by omega) (by omega) (by omega))]
      have e : (UInt8.ofNat (48 + u % 10)).toNat = 48 + u % 10 := by rw [UInt8.toNat_ofNat']; omega
      simp only [Lib.parseUintM, e]
      rw [if_pos (by omega), if_neg (by omega), if_neg (by omega)]
      congr 1
      omega
theorem dec_head (u : Nat) : ∃ c r, Lib.decDigits u = c :: r ∧ 48 ≤ c.toNat ∧ c.toNat ≤ 57 := by
  cases h : Lib.decDigits u with
  | nil => exact absurd h (dec_ne_nil u)
  | cons c r => exact ⟨c, r, rfl, dec_digit u c (by rw [h]; simp)⟩
theorem itoa_dec {n : Int} (h : 0 ≤ n) : Lib.itoa n = Lib.decDigits n.toNat := by unfold Lib.itoa; rw [if_neg (by omega)]
theorem atoi_itoa {n : Int} (h0 : 0 ≤ n) (h1 : n < 4611686018427387904) : Lib.atoiAll (Lib.itoa n) = .ok n := by
  rw [itoa_dec h0]
  have hp := parse_dec n.toNat (by omega)
  obtain ⟨c, r, e, hc1, hc2⟩ := dec_head n.toNat
  rw [e] at hp ⊢
  simp only [Lib.atoiAll]
  rw [if_neg (by omega)]
  simp only [Lib.parseMag]
  rw [if_neg (by simp), hp]
  simp only
  rw [if_neg (by omega), if_neg (by omega), if_neg (by omega)]
  congr 1
  omega
theorem parseInt_itoa {n : Int} (h0 : 0 ≤ n) (h1 : n < 4611686018427387904) : Lib.parseIntB 64 (Lib.itoa n) = .ok n := by
  rw [itoa_dec h0]
  have hp := parseM_dec (2 ^ 64 - 1) n.toNat (by omega) (by omega)
  obtain ⟨c, r, e, hc1, hc2⟩ := dec_head n.toNat
  rw [e] at hp ⊢
  simp only [Lib.parseIntB]
  rw [if_neg (by omega)]
  simp only [Lib.parseUintB]
  rw [if_neg (by simp), hp]
  simp only
  rw [if_neg (by omega), if_neg (by omega), if_neg (by omega)]
  congr 1
  omega

/-! ### cutting at one byte -/
theorem idx_miss (c : UInt8) : ∀ (x : List UInt8), c ∉ x → Lib.indexByte x c = -1
  | [], _ => rfl
  | b :: x, h => by
    have h1 : (b == c) = false := by rw [beq_eq_false_iff_ne]; rintro rfl; exact h (by simp)
    have h2 := idx_miss c x (fun hx => h (by simp [hx]))
    simp only [Lib.indexByte, h1, h2]
    rfl
theorem idx_hit (c : UInt8) (r : List UInt8) : ∀ (x : List UInt8), c ∉ x → Lib.indexByte (x ++ c :: r) c = x.length
  | [], _ => by simp [Lib.indexByte]
  | b :: x, h => by
    have h1 : (b == c) = false := by rw [beq_eq_false_iff_ne]; rintro rfl; exact h (by simp)
    have h2 := idx_hit c r x (fun hx => h (by simp [hx]))
    have h3 : (((x.length : Nat) : Int) == -1) = false := by rw [beq_eq_false_iff_ne]; omega
    simp only [List.cons_append, Lib.indexByte, h1, h2, h3, List.length_cons]
    simp
theorem cut_miss {c : UInt8} {x : List UInt8} (h : c ∉ x) : Lib.cut x [c] = (x, [], false) := by
  unfold Lib.cut
  rw [Lib.index_one, idx_miss c x h, if_neg (by omega)]
theorem cut_hit {c : UInt8} {x : List UInt8} (r : List UInt8) (h : c ∉ x) : Lib.cut (x ++ c :: r) [c] = (x, r, true) := by
  unfold Lib.cut
  rw [Lib.index_one, idx_hit c r x h, if_pos (by omega)]
  simp
theorem split_join (c : UInt8) : ∀ (k : Nat) (x : List UInt8) (xs : List (List UInt8)), xs.length ≤ k → (∀ y ∈ x :: xs, c ∉ y) → Lib.splitK [c] 0 k (Lib.join (x :: xs) [c]) = x :: xs
  | 0, x, xs, hk, _ => by
    obtain rfl : xs = [] := List.eq_nil_of_length_eq_zero (by omega)
    rw [Lib.join_one]
    rfl
  | k + 1, x, [], _, h => by
    rw [Lib.join_one, Lib.splitK, Lib.index_one, idx_miss c x (h x (by simp))]
    rfl
  | k + 1, x, y :: ys, hk, h => by
    have ih := split_join c k y ys (by simpa using hk) (fun z hz => h z (List.mem_cons_of_mem _ hz))
    have e : Lib.join (x :: y :: ys) [c] = x ++ c :: Lib.join (y :: ys) [c] := by simp [Lib.join_cons, Lib.joinTail]
    have h3 : (((x.length : Nat) : Int) == -1) = false := by rw [beq_eq_false_iff_ne]; omega
    rw [e, Lib.splitK, Lib.index_one, idx_hit c _ x (h x (by simp)), h3]
    simp only [Int.toNat_natCast, List.length_singleton]
    rw [show (x ++ c :: Lib.join (y :: ys) [c]).drop (x.length + 1) = Lib.join (y :: ys) [c] by simp, ih]
    simp

/-! ### a program's text -/
def odd (s t : Int) : Bool := decide (s < 0) || decide (8 < s) || decide (t < 1) || decide (2147483648 < t)
def anyOdd (l : List (Int × Int)) : Bool := l.any fun x => odd x.1 x.2
def good (l : List (Int × Int)) : Bool := decide (1 ≤ l.length) && decide (l.length ≤ 8) && !anyOdd l
theorem good_parts {l : List (Int × Int)} (h : good l = true) : 1 ≤ l.length ∧ l.length ≤ 8 ∧ ∀ (j : Nat) x, l[j]? = some x → 0 ≤ x.1 ∧ x.1 ≤ 8 ∧ 1 ≤ x.2 ∧ x.2 ≤ 2147483648 := by
  simp only [good, Bool.and_eq_true, decide_eq_true_eq, Bool.not_eq_true', anyOdd, List.any_eq_false] at h
  refine ⟨h.1.1, h.1.2, fun j x hx => ?_⟩
  have := h.2 x (List.mem_of_getElem? hx)
  simp [odd] at this
  omega
theorem good_mem {l : List (Int × Int)} (h : good l = true) {x : Int × Int} (hx : x ∈ l) : 0 ≤ x.1 ∧ x.1 ≤ 8 ∧ 1 ≤ x.2 ∧ x.2 ≤ 2147483648 := by
  obtain ⟨j, hj, rfl⟩ := List.getElem_of_mem hx
  exact (good_parts h).2.2 j _ (List.getElem?_eq_getElem hj)

def stepB (x : Int × Int) : List UInt8 := Lib.itoa x.2 ++ if 0 < x.1 then 64 :: Lib.itoa x.1 else []
def textL (l : List (Int × Int)) : List UInt8 := Lib.join (l.map stepB) [43]
def textG (l : List (Int × Int)) : List UInt8 := if good l = true then textL l else []
theorem itoa_digit {n : Int} (h : 0 ≤ n) : ∀ c ∈ Lib.itoa n, 48 ≤ c.toNat ∧ c.toNat ≤ 57 := by
  rw [itoa_dec h]; exact dec_digit _
theorem not_mem_itoa {n : Int} (h : 0 ≤ n) {c : UInt8} (hc : c.toNat < 48 ∨ 57 < c.toNat) : c ∉ Lib.itoa n := fun hm => by
  have := itoa_digit h c hm
  omega
theorem itoa_ne_nil {n : Int} (h : 0 ≤ n) : Lib.itoa n ≠ [] := by rw [itoa_dec h]; exact dec_ne_nil _
theorem plus_not_step {x : Int × Int} (h1 : 0 ≤ x.1) (h2 : 0 ≤ x.2) : (43 : UInt8) ∉ stepB x := by
  unfold stepB
  rw [List.mem_append]
  rintro (h | h)
  · exact not_mem_itoa h2 (by decide) h
  · split at h
    · rw [List.mem_cons] at h
      rcases h with h | h
      · exact absurd h (by decide)
      · exact not_mem_itoa h1 (by decide) h
    · cases h

/-- what Parse makes of one piece -/
def semV (l : List UInt8) : Int := match Lib.atoiAll l with
  | .ok v => v
  | .range => Lib.atoiSat l
  | _ => 0
def pieceF (t : List UInt8) : Option (Int × Int) := match Lib.parseIntB 64 (Lib.cut t [64]).1 with
  | .ok v => some (if (Lib.cut t [64]).2.2 = true then semV (Lib.cut t [64]).2.1 else 0, v)
  | _ => none
def collect : List (List UInt8) → Option (List (Int × Int))
  | [] => some []
  | t :: r => match pieceF t, collect r with
    | some x, some l => some (x :: l)
    | _, _ => none
def pieces (s : List UInt8) : List (List UInt8) := Lib.splitK [43] 0 (min 9 (s.length + 1) - 1) s
/-- what Parse answers -/
def parseG (s : List UInt8) : Option (List (Int × Int)) := match collect (pieces s) with
  | none => none
  | some p => if s = [] ∨ textG p ≠ s then none else some p

theorem piece_step {x : Int × Int} (h1 : 0 ≤ x.1) (h1' : x.1 ≤ 8) (h2 : 0 ≤ x.2) (h2' : x.2 ≤ 2147483648) : pieceF (stepB x) = some x := by
  obtain ⟨s, t⟩ := x
  simp only at h1 h1' h2 h2'
  have hn : (64 : UInt8) ∉ Lib.itoa t := not_mem_itoa h2 (by decide)
  by_cases hs : 0 < s
  · have e : stepB (s, t) = Lib.itoa t ++ 64 :: Lib.itoa s := by simp [stepB, hs]
    rw [e, pieceF, cut_hit _ hn]
    simp only [parseInt_itoa h2 (by omega), if_true, semV, atoi_itoa h1 (by omega)]
  · have e : stepB (s, t) = Lib.itoa t := by simp [stepB, hs]
    have hs0 : s = 0 := by omega
    rw [e, pieceF, cut_miss hn]
    simp only [parseInt_itoa h2 (by omega)]
    simp [hs0]
theorem collect_steps : ∀ (l : List (Int × Int)), (∀ x ∈ l, 0 ≤ x.1 ∧ x.1 ≤ 8 ∧ 1 ≤ x.2 ∧ x.2 ≤ 2147483648) → collect (l.map stepB) = some l
  | [], _ => rfl
  | x :: l, h => by
    have hx := h x (by simp)
    rw [List.map_cons, collect, piece_step hx.1 hx.2.1 (by omega) hx.2.2.2, collect_steps l fun y hy => h y (List.mem_cons_of_mem _ hy)]
theorem textL_size : ∀ (l : List (Int × Int)), (∀ x ∈ l, 0 ≤ x.2) → l.length ≤ (textL l).length
  | [], _ => by simp
  | [x], h => by
    have := List.length_pos_iff.2 (itoa_ne_nil (h x (by simp)))
    simp only [textL, List.map_cons, List.map_nil, Lib.join_one, stepB, List.length_append, List.length_cons, List.length_nil]
    omega
  | x :: y :: l, h => by
    have ih := textL_size (y :: l) fun z hz => h z (List.mem_cons_of_mem _ hz)
    have e : textL (x :: y :: l) = stepB x ++ 43 :: textL (y :: l) := by simp [textL, Lib.join_cons, Lib.joinTail]
    rw [e]
    simp only [List.length_append, List.length_cons] at ih ⊢
    omega
theorem pieces_text {l : List (Int × Int)} (h : good l = true) : pieces (textL l) = l.map stepB := by
  obtain ⟨h1, h8, _⟩ := good_parts h
  have hsz := textL_size l fun x hx => by have := good_mem h hx; omega
  unfold pieces textL
  cases l with
  | nil => simp at h1
  | cons x l =>
    rw [List.map_cons]
    have hsz' : (x :: l).length ≤ (Lib.join (stepB x :: l.map stepB) [43]).length := by simpa [textL] using hsz
    refine split_join 43 _ _ _ ?_ ?_
    · simp only [List.length_map, List.length_cons] at hsz' h8 ⊢
      omega
    · intro y hy
      rw [← List.map_cons, List.mem_map] at hy
      obtain ⟨z, hz, rfl⟩ := hy
      have := good_mem h hz
      exact plus_not_step (by omega) (by omega)
theorem collect_text {l : List (Int × Int)} (h : good l = true) : collect (pieces (textL l)) = some l := by
  rw [pieces_text h, collect_steps l fun x hx => good_mem h hx]
theorem textL_inj {p q : List (Int × Int)} (hp : good p = true) (hq : good q = true) (h : textL p = textL q) : p = q := by
  have h1 := collect_text hp
  have h2 := collect_text hq
  rw [h, h2] at h1
  injection h1 with h1
  exact h1.symm
theorem textL_ne_nil {l : List (Int × Int)} (h : good l = true) : textL l ≠ [] := by
  have hsz := textL_size l fun x hx => by have := good_mem h hx; omega
  obtain ⟨h1, _⟩ := good_parts h
  intro e
  rw [e, List.length_nil] at hsz
  omega
theorem parseG_some {s : List UInt8} {p : List (Int × Int)} : parseG s = some p ↔ good p = true ∧ textL p = s := by
  constructor
  · intro h
    unfold parseG at h
    split at h
    · cases h
    · split at h
      · cases h
      · rename_i hn
        injection h with h
        subst h
        have hn' := not_or.1 hn
        have ht := Classical.not_not.1 hn'.2
        unfold textG at ht
        split at ht
        · exact ⟨by assumption, ht⟩
        · exact absurd ht.symm hn'.1
  · rintro ⟨hg, rfl⟩
    unfold parseG
    rw [collect_text hg]
    simp only
    rw [if_neg]
    rintro (h | h)
    · exact textL_ne_nil hg h
    · exact h (by unfold textG; rw [if_pos hg])

theorem collect_none : ∀ (l : List (List UInt8)) (i : Nat) (t : List UInt8), l[i]? = some t → pieceF t = none → collect l = none
  | [], i, t, h, _ => by simp at h
  | x :: l, 0, t, h, hn => by
    obtain rfl : x = t := by simpa using h
    rw [collect, hn]
  | x :: l, i + 1, t, h, hn => by
    have := collect_none l i t (by simpa using h) hn
    rw [collect, this]
    cases pieceF x <;> rfl
theorem collect_snoc : ∀ (l : List (List UInt8)) (t : List UInt8) (d : List (Int × Int)) (x : Int × Int), collect l = some d → pieceF t = some x → collect (l ++ [t]) = some (d ++ [x])
  | [], t, d, x, h, hx => by
    obtain rfl : [] = d := by simpa [collect] using h
    simp [collect, hx]
  | y :: l, t, d, x, h, hx => by
    rw [collect] at h
    cases hy : pieceF y with
    | none => rw [hy] at h; simp at h
    | some z =>
      cases hl : collect l with
      | none => rw [hy, hl] at h; simp at h
      | some d' =>
        rw [hy, hl] at h
        obtain rfl : z :: d' = d := by simpa using h
        rw [List.cons_append, collect, hy, collect_snoc l t d' x hl hx]
        rfl
theorem collect_take {l : List (List UInt8)} {i : Nat} {t : List UInt8} {d : List (Int × Int)} {x : Int × Int} (h : collect (l.take i) = some d) (ht : l[i]? = some t) (hx : pieceF t = some x) : collect (l.take (i + 1)) = some (d ++ [x]) := by
  rw [List.take_add_one, ht]
  exact collect_snoc _ _ _ _ h hx
theorem collect_length : ∀ (l : List (List UInt8)) (d : List (Int × Int)), collect l = some d → d.length = l.length
  | [], d, h => by
    obtain rfl : [] = d := by simpa [collect] using h
    rfl
  | y :: l, d, h => by
    rw [collect] at h
    cases hy : pieceF y with
    | none => rw [hy] at h; simp at h
    | some z =>
      cases hl : collect l with
      | none => rw [hy, hl] at h; simp at h
      | some d' =>
        rw [hy, hl] at h
        obtain rfl : z :: d' = d := by simpa using h
        simp [collect_length l d' hl]
end Go.Proofs.YtnlmpkcninhnfaaDoor
