/-
  The document's own parser, in plain Lean: it reads what the program's parser reads.
-/
import Derived.Test.YtnlmpkcninhnfaaDoorP9
namespace Go.Proofs.YtnlmpkcninhnfaaDoor

structure St where
  d : List (Int × Int)
  s : Int
  n : Int
  at_ : Bool
def St.all (st : St) : List (Int × Int) := st.d ++ [(st.s, st.n)]
def stp (b : UInt8) (st : St) : Option St :=
  if b.toNat = 43 then some ⟨st.all, 0, 0, false⟩
  else if b.toNat = 64 then some { st with at_ := true }
  else if b.toNat < 48 ∨ 57 < b.toNat ∨ 1099511627776 < st.n ∨ 1000 < st.s then none
  else if st.at_ then some { st with s := 10 * st.s + ((b.toNat : Int) - 48) }
  else some { st with n := 10 * st.n + ((b.toNat : Int) - 48) }
def runS : List UInt8 → St → Option St
  | [], st => some st
  | b :: r, st => if st.d.length + 1 ≤ 9 then (stp b st).bind (runS r) else some st
def st0 : St := ⟨[], 0, 0, false⟩
def refParse (s : List UInt8) : Option (List (Int × Int)) := match runS s st0 with
  | some st => if good st.all = true ∧ textL st.all = s then some st.all else none
  | none => none

theorem run_digits_n (d : List (Int × Int)) (r : List UInt8) (hd : d.length + 1 ≤ 9) : ∀ (u : Nat), u ≤ 2147483648 → runS (Lib.decDigits u ++ r) ⟨d, 0, 0, false⟩ = runS r ⟨d, 0, u, false⟩ := by
  intro u
  induction u using Nat.strongRecOn generalizing r with
  | ind u ih =>
    intro hu
    by_cases h : u < 10
    · rw [Lib.decDigits_one h]
      have hb : (UInt8.ofNat (48 + u)).toNat = 48 + u := by simp; omega
      simp only [List.cons_append, List.nil_append, runS, if_pos hd, stp, hb]
      rw [if_neg (by omega), if_neg (by omega), if_neg (by omega)]
      simp
      congr 2
      omega
    · rw [Lib.decDigits, dif_neg h, List.append_assoc, ih (u / 10) (by omega) _ (by omega)]
      have hb : (UInt8.ofNat (48 + u % 10)).toNat = 48 + u % 10 := by simp; omega
      simp only [List.cons_append, List.nil_append, runS, if_pos hd, stp, hb]
      rw [if_neg (by omega), if_neg (by omega), if_neg (by omega)]
      simp
      congr 2
      omega
theorem run_digits_s (d : List (Int × Int)) (n : Int) (hn : n ≤ 2147483648) (r : List UInt8) (hd : d.length + 1 ≤ 9) {u : Nat} (hu : u ≤ 8) : runS (Lib.decDigits u ++ r) ⟨d, 0, n, true⟩ = runS r ⟨d, u, n, true⟩ := by
  rw [Lib.decDigits_one (by omega)]
  have hb : (UInt8.ofNat (48 + u)).toNat = 48 + u := by simp; omega
  simp only [List.cons_append, List.nil_append, runS, if_pos hd, stp, hb]
  rw [if_neg (by omega), if_neg (by omega), if_neg (by omega)]
  simp
  congr 2
  omega
theorem run_step (d : List (Int × Int)) (x : Int × Int) (h1 : 0 ≤ x.1) (h2 : x.1 ≤ 8) (h3 : 1 ≤ x.2) (h4 : x.2 ≤ 2147483648) (r : List UInt8) (hd : d.length + 1 ≤ 9) :
    ∃ a, runS (stepB x ++ r) ⟨d, 0, 0, false⟩ = runS r ⟨d, x.1, x.2, a⟩ := by
  obtain ⟨s, n⟩ := x
  simp only at h1 h2 h3 h4
  have en : ((n.toNat : Nat) : Int) = n := by omega
  have es : ((s.toNat : Nat) : Int) = s := by omega
  by_cases hs : 0 < s
  · refine ⟨true, ?_⟩
    simp only [stepB, if_pos hs, List.append_assoc, List.cons_append]
    rw [itoa_dec (by omega), run_digits_n d _ hd _ (by omega), en]
    have hb : (64 : UInt8).toNat = 64 := rfl
    simp only [runS, if_pos hd, stp, hb]
    rw [if_neg (by omega)]
    simp only [if_true, Option.bind_some]
    rw [itoa_dec (by omega), run_digits_s d n h4 r hd (by omega), es]
  · refine ⟨false, ?_⟩
    have e0 : s = 0 := by omega
    subst e0
    simp only [stepB, Int.lt_irrefl, if_false, List.append_nil]
    rw [itoa_dec (by omega), run_digits_n d _ hd _ (by omega), en]
theorem run_text : ∀ (l : List (Int × Int)) (d : List (Int × Int)) (x : Int × Int), (∀ y ∈ x :: l, 0 ≤ y.1 ∧ y.1 ≤ 8 ∧ 1 ≤ y.2 ∧ y.2 ≤ 2147483648) → d.length + (x :: l).length ≤ 8 →
    ∃ st, runS (textL (x :: l)) ⟨d, 0, 0, false⟩ = some st ∧ st.all = d ++ x :: l
  | [], d, x, h, hd => by
    have hx := h x (by simp)
    simp only [List.length_cons, List.length_nil] at hd
    obtain ⟨a, e⟩ := run_step d x hx.1 hx.2.1 hx.2.2.1 hx.2.2.2 [] (by omega)
    refine ⟨⟨d, x.1, x.2, a⟩, ?_, rfl⟩
    rw [show textL [x] = stepB x ++ [] by simp [textL, Lib.join_one], e]
    rfl
  | y :: l, d, x, h, hd => by
    have hx := h x (by simp)
    simp only [List.length_cons] at hd
    obtain ⟨a, e⟩ := run_step d x hx.1 hx.2.1 hx.2.2.1 hx.2.2.2 (43 :: textL (y :: l)) (by omega)
    obtain ⟨st, e2, e3⟩ := run_text l (d ++ [x]) y (fun z hz => h z (List.mem_cons_of_mem _ hz)) (by simp; omega)
    refine ⟨st, ?_, by rw [e3]; simp⟩
    rw [show textL (x :: y :: l) = stepB x ++ 43 :: textL (y :: l) by simp [textL, Lib.join_cons, Lib.joinTail], e]
    have hb : (43 : UInt8).toNat = 43 := rfl
    simp only [runS, stp, hb, if_true, Option.bind_some]
    rw [if_pos (by omega)]
    exact e2
theorem refParse_eq (s : List UInt8) : refParse s = parseG s := by
  cases hp : parseG s with
  | some p =>
    obtain ⟨hg, ht⟩ := parseG_some.1 hp
    cases p with
    | nil => simp [good] at hg
    | cons x l =>
      have hl := (good_parts hg).2.1
      obtain ⟨st, e1, e2⟩ := run_text l [] x (fun y hy => good_mem hg hy) (by simpa using hl)
      rw [ht] at e1
      simp only [List.nil_append] at e2
      have e1' : runS s st0 = some st := e1
      simp only [refParse, e1', e2]
      rw [if_pos ⟨hg, ht⟩]
  | none =>
    unfold refParse
    cases hr : runS s st0 with
    | none => rfl
    | some st =>
      simp only
      by_cases h : good st.all = true ∧ textL st.all = s
      · have := parseG_some.2 h
        rw [hp] at this
        cases this
      · rw [if_neg h]
end Go.Proofs.YtnlmpkcninhnfaaDoor
