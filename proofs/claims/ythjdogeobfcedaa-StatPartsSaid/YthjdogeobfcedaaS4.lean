/-
  put of one Event, whole; what stays true of one.
-/
import Derived.Test.YthjdogeobfcedaaS3
import Derived.Maps.Views
import Derived.OpenShut
namespace Go.Proofs.Ythjdogeobfcedaa
open Go.RowKit Go.Maps

theorem at_put (x : Own) (num at_ : Int) (hm : Maps.IsMap x.since) : ∀ m, ({ x with since := x.since.put (.int .i64 num) (.lit (.int .i64 at_)) } : Own).at_ m = if m = num then some at_ else x.at_ m := by
  intro m
  by_cases e : m = num
  · subst e
    rw [if_pos rfl]
    simp only [Own.at_]
    rw [has_put_same hm (by trivial), atKey_put_same hm (by trivial)]
    rfl
  · rw [if_neg e]
    simp only [Own.at_]
    rw [has_put_other (by intro h; injection h with _ h; exact e h), atKey_put_other (by intro h; injection h with _ h; exact e h)]

theorem Own.fine_fin {m : Int} {x : Own} {z : Int} (h : x.Fine m) (hz : 0 ≤ z) (hl : (x.times.length : Int) + 1 ≤ m) : (x.fin z).Fine m := by
  have h11 := h.wo; have h12 := h.su
  refine ⟨h.r, h.d, h.a, h.wa, h.t, h.gr, h.de, h.ga, h.wk, h.op, ?_, ?_, ?_, h.since, h.isMap⟩ <;> simp only [Own.fin]
  · omega
  · split <;> omega
  · simp; omega
theorem Own.fine_done {m : Int} {x : Own} (at_ num : Int) (h : x.Fine m) (hl : (x.times.length : Int) + 1 ≤ m) : (x.done at_ num).Fine m := by
  unfold Own.done
  split
  · split
    · exact h
    · exact Own.fine_fin h (by omega) hl
  · exact h
theorem Own.fine_put {m : Int} {x : Own} (h : x.Fine m) (at_ k num : Int) (hm : 0 ≤ m) (ha : 0 ≤ at_) : (x.put at_ k num).Fine (m + 1) := by
  have h1 := h.r; have h2 := h.d; have h3 := h.a; have h4 := h.wa; have h5 := h.t; have h6 := h.gr; have h7 := h.de; have h8 := h.ga; have h9 := h.wk; have h10 := h.op; have h11 := h.wo; have h12 := h.su; have h13 := h.len
  unfold Own.put
  split
  · refine ⟨?_, ?_, ?_, ?_, ?_, ?_, ?_, ?_, ?_, ?_, ?_, ?_, ?_, ?_, h.isMap.put _ _⟩
    all_goals first | (dsimp only; omega) | skip
    intro n c e
    rw [at_put { x with r := x.r + 1, op := x.op + 1 } num at_ h.isMap] at e
    split at e
    · cases e; exact ha
    · exact h.since n c e
  split
  · refine Own.fine_done at_ num ⟨?_, ?_, ?_, ?_, ?_, ?_, ?_, ?_, ?_, ?_, ?_, ?_, ?_, h.since, h.isMap⟩ (by dsimp only; omega)
    all_goals (dsimp only; omega)
  repeat' split
  all_goals
    refine ⟨?_, ?_, ?_, ?_, ?_, ?_, ?_, ?_, ?_, ?_, ?_, ?_, ?_, h.since, h.isMap⟩
    all_goals (first | omega | (dsimp only; omega))
theorem put_any (w : World) (g bs : Nat) (tv : Value) (n : Nat) (x : Own) (at_ k who num m : Int) (h : OwnAt w g bs tv n x) (hf : x.Fine m) (hm : m ≤ 1000000) (hn : (n : Int) ≤ m) (hw : (Lit.int .i64 num).wf = true) (hwa : (Lit.int .i64 at_).wf = true) (hm2 : m < 1000000) :
    Calls Try.prog 11 #[.pointer (some ⟨g, 0, none⟩), .agg #[.int .i64 at_, .int .i64 k, .int .i64 who, .int .i64 num]] w fun e w' => e = .returned (.tuple #[]) ∧
      ∃ tv' n', n' ≤ n + 1 ∧ OwnAt w' g bs tv' n' (x.put at_ k num) ∧ (tv'.ownBlock = tv.ownBlock ∨ ∃ j, tv'.ownBlock = some j ∧ w.heap.size ≤ j) ∧ Turn (fun j => j = g ∨ j = bs ∨ tv.ownBlock = some j) w w' := by
  have plain : ∀ (x' : Own) e w', (e = Ending.returned (.tuple #[]) ∧ OwnAt w' g bs tv n x' ∧ Turn (fun j => j = g) w w') → x.put at_ k num = x' → e = .returned (.tuple #[]) ∧
      ∃ tv' n', n' ≤ n + 1 ∧ OwnAt w' g bs tv' n' (x.put at_ k num) ∧ (tv'.ownBlock = tv.ownBlock ∨ ∃ j, tv'.ownBlock = some j ∧ w.heap.size ≤ j) ∧ Turn (fun j => j = g ∨ j = bs ∨ tv.ownBlock = some j) w w' := by
    rintro x' e w' ⟨h1, h2, h3⟩ rfl
    exact ⟨h1, tv, n, by omega, h2, .inl rfl, h3.mono fun i _ h => .inl h⟩
  have h1 := hf.r; have h2 := hf.d; have h3 := hf.a; have h4 := hf.wa; have h5 := hf.t; have h6 := hf.gr; have h7 := hf.de; have h8 := hf.ga; have h9 := hf.wk; have h10 := hf.op; have h11 := hf.wo; have h12 := hf.su; have h13 := hf.len
  by_cases e1 : k = 1
  · subst e1
    refine (put_release w g bs tv n x at_ who num h (by omega) (by omega) (by omega) (by omega) (by omega) hw hwa).mono ?_
    rintro e w' ⟨h1, h2, h3⟩
    exact ⟨h1, tv, n + 1, by omega, h2, .inl rfl, h3.mono fun i _ h => h.elim .inl fun h => .inr (.inl h)⟩
  by_cases e2 : k = 2
  · subst e2
    refine (put_done w g bs tv n x at_ who num h (by omega) (by omega) (by omega) (by omega) hw hf.since (by have := bounds_i64 hwa; omega) (by omega) (by omega) (by omega)).mono ?_
    rintro e w' ⟨h1, tv', h2, h3, h4⟩
    exact ⟨h1, tv', n, by omega, h2, h3, h4.mono fun i _ h => h.elim .inl fun h => .inr (.inr h)⟩
  by_cases e3 : k = 3
  · subst e3
    exact (put_abort w g bs tv n x at_ who num h (by omega) (by omega) (by omega) (by omega)).mono fun e w' hh => plain _ e w' hh (by simp [Own.put])
  by_cases e4 : k = 4
  · subst e4
    exact (put_wait w g bs tv n x at_ who num h (by omega) (by omega)).mono fun e w' hh => plain _ e w' hh (by simp [Own.put])
  by_cases e5 : k = 5
  · subst e5
    exact (put_turn w g bs tv n x at_ who num h (by omega) (by omega)).mono fun e w' hh => plain _ e w' hh (by simp [Own.put])
  by_cases e6 : k = 6
  · subst e6
    exact (put_grant w g bs tv n x at_ who num h (by omega) (by omega)).mono fun e w' hh => plain _ e w' hh (by simp [Own.put])
  by_cases e7 : k = 7
  · subst e7
    exact (put_dead w g bs tv n x at_ who num h (by omega) (by omega)).mono fun e w' hh => plain _ e w' hh (by simp [Own.put])
  by_cases e8 : k = 8
  · subst e8
    exact (put_gate w g bs tv n x at_ who num h (by omega) (by omega)).mono fun e w' hh => plain _ e w' hh (by simp [Own.put])
  by_cases e9 : k = 9
  · subst e9
    exact (put_wake w g bs tv n x at_ who num h (by omega) (by omega)).mono fun e w' hh => plain _ e w' hh (by simp [Own.put])
  · exact (put_other w g at_ k who num (by omega)).mono fun e w' hh => plain x e w' ⟨hh.1, h.keep hh.2, (Turn.refl _ w).below hh.2⟩ (by simp [Own.put, *])
end Go.Proofs.Ythjdogeobfcedaa
