/-
  Plain laws on Events' texts: what is written is read as it was. No program, no memory.
-/
import Derived.Lib.ItoaNum
import Derived.Lib.Join
import Derived.Lib.AtoiAll
import Derived.Lib.ParseIntB
import Derived.Lib.Split
import Derived.Lib.SplitLaws
import Derived.Lib.IndexMore
import Derived.Lib.IndexBytes
namespace Go.Proofs.YtommmfncaadbeaaDoor
open Go

/-! ### digits -/
theorem dec_digit : ∀ (u : Nat), ∀ c ∈ Lib.decDigits u, 48 ≤ c.toNat ∧ c.toNat ≤ 57 := by
  intro u
  induction u using Nat.strongRecOn with
  | ind u ih =>
    intro c hc
    rw [Lib.decDigits] at hc
    split at hc
    · rename_i h
      rw [List.mem_singleton] at hc
      subst hc
      rw [UInt8.toNat_ofNat']
      omega
    · rename_i h
      rw [List.mem_append, List.mem_singleton] at hc
      rcases hc with hc | rfl
      · exact ih (u / 10) (by omega) c hc
      · rw [UInt8.toNat_ofNat']
        omega
theorem dec_ne_nil (u : Nat) : Lib.decDigits u ≠ [] := by
  intro h
  have h1 := Lib.decDigits_length u
  have h2 := Lib.nDigits_pos u
  rw [h] at h1
  simp at h1
  omega
theorem parse_append : ∀ (l r : List UInt8) (acc v : Nat), Lib.parseUint10 acc l = .ok v → Lib.parseUint10 acc (l ++ r) = Lib.parseUint10 v r
  | [], r, acc, v, h => by
    simp only [Lib.parseUint10] at h
    injection h with h
    subst h
    rfl
  | c :: l, r, acc, v, h => by
    simp only [Lib.parseUint10, List.cons_append] at h ⊢
    split at h
    · rename_i h1
      rw [if_pos h1]
      split at h
      · cases h
      · rename_i h2
        rw [if_neg h2]
        split at h
        · cases h
        · rename_i h3
          rw [if_neg h3]
          exact parse_append l r _ v h
    · cases h
theorem parseM_append (M : Nat) : ∀ (l r : List UInt8) (acc v : Nat), Lib.parseUintM M acc l = .ok v → Lib.parseUintM M acc (l ++ r) = Lib.parseUintM M v r
  | [], r, acc, v, h => by
    simp only [Lib.parseUintM] at h
    injection h with h
    subst h
    rfl
  | c :: l, r, acc, v, h => by
    simp only [Lib.parseUintM, List.cons_append] at h ⊢
    split at h
    · rename_i h1
      rw [if_pos h1]
      split at h
      · cases h
      · rename_i h2
        rw [if_neg h2]
        split at h
        · cases h
        · rename_i h3
          rw [if_neg h3]
          exact parseM_append M l r _ v h
    · cases h
theorem parse_dec (u : Nat) (hu : u < 9223372036854775808) : Lib.parseUint10 0 (Lib.decDigits u) = .ok u := by
  induction u using Nat.strongRecOn with
  | ind u ih =>
    rw [Lib.decDigits]
    split
    · rename_i h
      have e : (UInt8.ofNat (48 + u)).toNat = 48 + u := by rw [UInt8.toNat_ofNat']; omega
      simp only [Lib.parseUint10, e]
      rw [if_pos (by omega), if_neg (by omega), if_neg (by omega)]
      congr 1
      omega
    · rename_i h
      rw [parse_append _ _ _ _ (ih (u / 10) (by omega) (by omega))]
      have e : (UInt8.ofNat (48 + u % 10)).toNat = 48 + u % 10 := by rw [UInt8.toNat_ofNat']; omega
      simp only [Lib.parseUint10, e]
      rw [if_pos (by omega), if_neg (by omega), if_neg (by omega)]
      congr 1
      omega
theorem parseM_dec (M u : Nat) (hM : u ≤ M) (hu : u < 9223372036854775808) : Lib.parseUintM M 0 (Lib.decDigits u) = .ok u := by
  induction u using Nat.strongRecOn with
  | ind u ih =>
    rw [Lib.decDigits]
    split
    · rename_i h
      have e : (UInt8.ofNat (48 + u)).toNat = 48 + u := by rw [UInt8.toNat_ofNat']; omega
      simp only [Lib.parseUintM, e]
      rw [if_pos (by omega), if_neg (by omega), if_neg (by omega)]
      congr 1
      omega
    · rename_i h
      rw [parseM_append M _ _ _ _ (ih (u / 10) (by omega) (by omega) (by omega))]
      have e : (UInt8.ofNat (48 + u % 10)).toNat = 48 + u % 10 := by rw [UInt8.toNat_ofNat']; omega
      simp only [Lib.parseUintM, e]
      rw [if_pos (by omega), if_neg (by omega), if_neg (by omega)]
      congr 1
      omega
theorem dec_head (u : Nat) : ∃ c r, Lib.decDigits u = c :: r ∧ 48 ≤ c.toNat ∧ c.toNat ≤ 57 := by
  cases h : Lib.decDigits u with
  | nil => exact absurd h (dec_ne_nil u)
  | cons c r => exact ⟨c, r, rfl, dec_digit u c (by rw [h]; simp)⟩
theorem itoa_dec {n : Int} (h : 0 ≤ n) : Lib.itoa n = Lib.decDigits n.toNat := by unfold Lib.itoa; rw [if_neg (by omega)]
theorem atoi_itoa {n : Int} (h0 : 0 ≤ n) (h1 : n < 9223372036854775808) : Lib.atoiAll (Lib.itoa n) = .ok n := by
  rw [itoa_dec h0]
  have hp := parse_dec n.toNat (by omega)
  obtain ⟨c, r, e, hc1, hc2⟩ := dec_head n.toNat
  rw [e] at hp ⊢
  simp only [Lib.atoiAll]
  rw [if_neg (by omega)]
  simp only [Lib.parseMag]
  rw [if_neg (by simp), hp]
  simp only
  rw [if_neg (by omega), if_neg (by omega), if_neg (by omega)]
  congr 1
  omega
theorem parseInt_itoa {n : Int} (h0 : 0 ≤ n) (h1 : n < 9223372036854775808) : Lib.parseIntB 64 (Lib.itoa n) = .ok n := by
  rw [itoa_dec h0]
  have hp := parseM_dec (2 ^ 64 - 1) n.toNat (by omega) (by omega)
  obtain ⟨c, r, e, hc1, hc2⟩ := dec_head n.toNat
  rw [e] at hp ⊢
  simp only [Lib.parseIntB]
  rw [if_neg (by omega)]
  simp only [Lib.parseUintB]
  rw [if_neg (by simp), hp]
  simp only
  rw [if_neg (by omega), if_neg (by omega), if_neg (by omega)]
  congr 1
  omega

/-! ### cutting at one byte -/
theorem idx_miss (c : UInt8) : ∀ (x : List UInt8), c ∉ x → Lib.indexByte x c = -1
  | [], _ => rfl
  | b :: x, h => by
    have h1 : (b == c) = false := by rw [beq_eq_false_iff_ne]; rintro rfl; exact h (by simp)
    have h2 := idx_miss c x (fun hx => h (by simp [hx]))
    simp only [Lib.indexByte, h1, h2]
    rfl
theorem idx_hit (c : UInt8) (r : List UInt8) : ∀ (x : List UInt8), c ∉ x → Lib.indexByte (x ++ c :: r) c = x.length
  | [], _ => by simp [Lib.indexByte]
  | b :: x, h => by
    have h1 : (b == c) = false := by rw [beq_eq_false_iff_ne]; rintro rfl; exact h (by simp)
    have h2 := idx_hit c r x (fun hx => h (by simp [hx]))
    have h3 : (((x.length : Nat) : Int) == -1) = false := by rw [beq_eq_false_iff_ne]; omega
    simp only [List.cons_append, Lib.indexByte, h1, h2, h3, List.length_cons]
    simp
theorem cut_miss {c : UInt8} {x : List UInt8} (h : c ∉ x) : Lib.cut x [c] = (x, [], false) := by
  unfold Lib.cut
  rw [Lib.index_one, idx_miss c x h, if_neg (by omega)]
theorem cut_hit {c : UInt8} {x : List UInt8} (r : List UInt8) (h : c ∉ x) : Lib.cut (x ++ c :: r) [c] = (x, r, true) := by
  unfold Lib.cut
  rw [Lib.index_one, idx_hit c r x h, if_pos (by omega)]
  simp
theorem split_join (c : UInt8) : ∀ (k : Nat) (x : List UInt8) (xs : List (List UInt8)), xs.length ≤ k → (∀ y ∈ x :: xs, c ∉ y) → Lib.splitK [c] 0 k (Lib.join (x :: xs) [c]) = x :: xs
  | 0, x, xs, hk, _ => by
    obtain rfl : xs = [] := List.eq_nil_of_length_eq_zero (by omega)
    rw [Lib.join_one]
    rfl
  | k + 1, x, [], _, h => by
    rw [Lib.join_one, Lib.splitK, Lib.index_one, idx_miss c x (h x (by simp))]
    rfl
  | k + 1, x, y :: ys, hk, h => by
    have ih := split_join c k y ys (by simpa using hk) (fun z hz => h z (List.mem_cons_of_mem _ hz))
    have e : Lib.join (x :: y :: ys) [c] = x ++ c :: Lib.join (y :: ys) [c] := by simp [Lib.join_cons, Lib.joinTail]
    have h3 : (((x.length : Nat) : Int) == -1) = false := by rw [beq_eq_false_iff_ne]; omega
    rw [e, Lib.splitK, Lib.index_one, idx_hit c _ x (h x (by simp)), h3]
    simp only [Int.toNat_natCast, List.length_singleton]
    rw [show (x ++ c :: Lib.join (y :: ys) [c]).drop (x.length + 1) = Lib.join (y :: ys) [c] by simp, ih]
    simp

theorem itoa_digit {n : Int} (h : 0 ≤ n) : ∀ c ∈ Lib.itoa n, 48 ≤ c.toNat ∧ c.toNat ≤ 57 := by
  rw [itoa_dec h]; exact dec_digit _
theorem not_mem_itoa {n : Int} (h : 0 ≤ n) {c : UInt8} (hc : c.toNat < 48 ∨ 57 < c.toNat) : c ∉ Lib.itoa n := fun hm => by
  have := itoa_digit h c hm
  omega
theorem itoa_ne_nil {n : Int} (h : 0 ≤ n) : Lib.itoa n ≠ [] := by rw [itoa_dec h]; exact dec_ne_nil _
def semV (l : List UInt8) : Int := match Lib.atoiAll l with
  | .ok v => v
  | .range => Lib.atoiSat l
  | _ => 0
/-- the number that ParseInt answers -/
def semP (l : List UInt8) : Int := match Lib.parseIntB 64 l with
  | .ok v => v
  | .range => Lib.intSat 64 l
  | _ => 0
/-! ### an Event's text -/
structure Ev where
  at_ : Int
  kind : Int
  who : Int
  n : Int
deriving DecidableEq
structure Ev.Ok (e : Ev) : Prop where
  at_ : (Lit.int .i64 e.at_).wf = true
  kind : (Lit.int .i64 e.kind).wf = true
  who : (Lit.int .i64 e.who).wf = true
  n : (Lit.int .i64 e.n).wf = true
/-- the words of the Kinds, a blank behind those that tell N -/
def wordsB : List (List UInt8) := [[], [114, 101, 108, 101, 97, 115, 101, 32], [100, 111, 110, 101, 32], [97, 98, 111, 114, 116, 32], [119, 97, 105, 116], [116, 117, 114, 110], [103, 114, 97, 110, 116, 32], [100, 101, 97, 100], [103, 97, 116, 101, 32], [119, 97, 107, 101], [105, 100, 108, 101]]
def bare (x : List UInt8) : List UInt8 := Lib.trimSuffix x [32]
def wordB (k : Nat) : List UInt8 := bare (wordsB.getD k [])
def numbered (k : Nat) : Bool := Lib.hasSuffix (wordsB.getD k []) [32]
def Ev.valid (e : Ev) : Bool := decide (1 ≤ e.kind) && decide (e.kind ≤ 10) && decide (0 ≤ e.at_) && decide (0 ≤ e.who) && decide (0 ≤ e.n)
theorem Ev.valid_iff {e : Ev} : e.valid = true ↔ 1 ≤ e.kind ∧ e.kind ≤ 10 ∧ 0 ≤ e.at_ ∧ 0 ≤ e.who ∧ 0 ≤ e.n := by
  simp [Ev.valid, and_assoc]
def parts (e : Ev) : List (List UInt8) := [Lib.itoa e.at_, wordB e.kind.toNat, Lib.itoa e.who] ++ if numbered e.kind.toNat = true then [Lib.itoa e.n] else []
def textL (e : Ev) : List UInt8 := Lib.join (parts e) [32]
def textE (e : Ev) : List UInt8 := if e.valid = true then textL e else []
/-- the Event without the number that its Kind has not -/
def canon (e : Ev) : Ev := if numbered e.kind.toNat = true then e else { e with n := 0 }
/-- where a word is -/
def kindOf (w : List UInt8) : Int := match wordsB.findIdx? (fun x => !x.isEmpty && bare x == w) with
  | some i => i
  | none => -1
theorem kindOf_word (k : Nat) (h1 : 1 ≤ k) (h2 : k ≤ 10) : kindOf (wordB k) = k := by
  have : k = 1 ∨ k = 2 ∨ k = 3 ∨ k = 4 ∨ k = 5 ∨ k = 6 ∨ k = 7 ∨ k = 8 ∨ k = 9 ∨ k = 10 := by omega
  rcases this with rfl | rfl | rfl | rfl | rfl | rfl | rfl | rfl | rfl | rfl <;> decide
theorem blank_not_word (k : Nat) (h1 : 1 ≤ k) (h2 : k ≤ 10) : (32 : UInt8) ∉ wordB k := by
  have : k = 1 ∨ k = 2 ∨ k = 3 ∨ k = 4 ∨ k = 5 ∨ k = 6 ∨ k = 7 ∨ k = 8 ∨ k = 9 ∨ k = 10 := by omega
  rcases this with rfl | rfl | rfl | rfl | rfl | rfl | rfl | rfl | rfl | rfl <;> decide
theorem blank_not_part {e : Ev} (h : e.valid = true) : ∀ y ∈ parts e, (32 : UInt8) ∉ y := by
  obtain ⟨h1, h2, h3, h4, h5⟩ := Ev.valid_iff.1 h
  intro y hy
  have hc : (32 : UInt8).toNat < 48 ∨ 57 < (32 : UInt8).toNat := by decide
  unfold parts at hy
  rw [List.mem_append] at hy
  rcases hy with hy | hy
  · simp only [List.mem_cons, List.not_mem_nil, or_false] at hy
    rcases hy with rfl | rfl | rfl
    · exact not_mem_itoa h3 hc
    · exact blank_not_word _ (by omega) (by omega)
    · exact not_mem_itoa h4 hc
  · split at hy
    · rw [List.mem_singleton] at hy
      rw [hy]
      exact not_mem_itoa h5 hc
    · cases hy
/-- an Event out of the parts of a text -/
def evOf (l : List (List UInt8)) : Option Ev := match l with
  | a :: w :: c :: r => some { at_ := semP a, kind := kindOf w, who := semV c, n := match r with | d :: _ => semP d | [] => 0 }
  | _ => none
def splitS (s : List UInt8) : List (List UInt8) := Lib.split s [32]
/-- what Parse tells -/
def parseE (s : List UInt8) : Option Ev := match evOf (splitS s) with
  | some e => if textE e = s then some e else none
  | none => none
theorem evOf_parts {e : Ev} (h : e.valid = true) (h1 : e.at_ < 9223372036854775808) (h2 : e.who < 9223372036854775808) (h3 : e.n < 9223372036854775808) : evOf (parts e) = some (canon e) := by
  obtain ⟨k1, k2, k3, k4, k5⟩ := Ev.valid_iff.1 h
  have a1 : semP (Lib.itoa e.at_) = e.at_ := by simp [semP, parseInt_itoa k3 h1]
  have a2 : semV (Lib.itoa e.who) = e.who := by simp [semV, atoi_itoa k4 h2]
  have a3 : semP (Lib.itoa e.n) = e.n := by simp [semP, parseInt_itoa k5 h3]
  have a4 : kindOf (wordB e.kind.toNat) = e.kind := by rw [kindOf_word _ (by omega) (by omega)]; omega
  unfold parts canon
  split
  · simp only [List.cons_append, List.nil_append, evOf, a1, a2, a3, a4]
  · simp only [List.cons_append, List.nil_append, evOf, a1, a2, a4]
theorem count_join (c : UInt8) : ∀ (x : List UInt8) (xs : List (List UInt8)), (∀ y ∈ x :: xs, c ∉ y) → (Lib.join (x :: xs) [c]).count c = xs.length
  | x, [], h => by rw [Lib.join_one]; exact List.count_eq_zero.2 (h x (by simp))
  | x, y :: ys, h => by
    have ih := count_join c y ys (fun z hz => h z (List.mem_cons_of_mem _ hz))
    have e : Lib.join (x :: y :: ys) [c] = x ++ c :: Lib.join (y :: ys) [c] := by simp [Lib.join_cons, Lib.joinTail]
    rw [e, List.count_append, List.count_cons_self, ih, List.count_eq_zero.2 (h x (by simp))]
    simp
theorem splitS_text {e : Ev} (h : e.valid = true) : splitS (textL e) = parts e := by
  obtain ⟨x, xs, hx⟩ : ∃ x xs, parts e = x :: xs := ⟨_, _, rfl⟩
  have h2 := blank_not_part h
  unfold splitS textL Lib.split at *
  rw [hx] at h2 ⊢
  rw [Lib.count_one, count_join 32 x xs h2]
  exact split_join 32 _ x xs (Nat.le_refl _) h2
theorem canon_valid {e : Ev} : (canon e).valid = true ↔ (1 ≤ e.kind ∧ e.kind ≤ 10 ∧ 0 ≤ e.at_ ∧ 0 ≤ e.who ∧ (numbered e.kind.toNat = true → 0 ≤ e.n)) := by
  rw [Ev.valid_iff]
  unfold canon
  split
  · rename_i h; simp [h]
  · rename_i h; simp [h]
theorem parts_canon (e : Ev) : parts (canon e) = parts e := by
  unfold canon
  split
  · rfl
  · rename_i h; simp [parts, h]
theorem textE_canon {e : Ev} (h : e.valid = true) : textE (canon e) = textL e := by
  have h1 : (canon e).valid = true := by
    rw [canon_valid]
    obtain ⟨k1, k2, k3, k4, k5⟩ := Ev.valid_iff.1 h
    exact ⟨k1, k2, k3, k4, fun _ => k5⟩
  unfold textE textL
  rw [if_pos h1, parts_canon]
theorem parse_text {e : Ev} (h : e.valid = true) (h1 : e.at_ < 9223372036854775808) (h2 : e.who < 9223372036854775808) (h3 : e.n < 9223372036854775808) : parseE (textL e) = some (canon e) := by
  unfold parseE
  rw [splitS_text h, evOf_parts h h1 h2 h3]
  simp only
  rw [if_pos (textE_canon h)]
theorem textE_valid {e : Ev} (h : textE e ≠ []) : e.valid = true := by
  unfold textE at h
  split at h
  · assumption
  · exact absurd rfl h
theorem textL_ne (e : Ev) (h : e.valid = true) : textL e ≠ [] := by
  obtain ⟨k1, k2, k3, k4, k5⟩ := Ev.valid_iff.1 h
  obtain ⟨x, hx⟩ : ∃ x, textL e = Lib.itoa e.at_ ++ x := by
    unfold textL parts
    rw [List.cons_append, Lib.join_cons]
    exact ⟨_, rfl⟩
  rw [hx]
  intro h0
  exact itoa_ne_nil k3 (List.append_eq_nil_iff.1 h0).1
example : parseE [54, 32, 100, 111, 110, 101, 32, 49] = none := by decide +kernel
end Go.Proofs.YtommmfncaadbeaaDoor
