/-
  ProgTexts, walked.
-/
import Derived.Test.YtnlmpkcninhnfaaDoorP5
namespace Go.Proofs.YtnlmpkcninhnfaaDoor
open Go.RowKit

set_option maxRecDepth 100000 in
theorem texts_off (A A' : Option Addr) (l l' : List (Int × Int)) (c c' : Nat) (w : World) (h : 20 < l.length ∨ l.length ≤ 20 ∧ 20 < l'.length) (ht : HT w) :
    Calls Tryd.prog 4 #[.slice A l.length c, .slice A' l'.length c'] w fun e w' => e = .returned (.bool true) ∧ Below w.heap.size w w' := by
  have Ht := Lib.hid ht
  clear ht
  rcases h with h | ⟨h, h'⟩
  · have d1 : decide (20 < (l.length : Int)) = true := by simp; omega
    go_enter Tryd.func4, Tryd.ntmps4
    go_wp2_with fail
    refine (awake_any _ Ht.out).mono ?_
    rintro e w1 ⟨rfl, hb1⟩
    go_wp2
    go_ret
    exact ⟨rfl, hb1⟩
  · have d1 : decide (20 < (l.length : Int)) = false := by simp; omega
    have d2 : decide (20 < (l'.length : Int)) = true := by simp; omega
    go_enter Tryd.func4, Tryd.ntmps4
    go_wp2_with fail
    refine (awake_any _ Ht.out).mono ?_
    rintro e w1 ⟨rfl, hb1⟩
    go_wp2
    go_ret
    exact ⟨rfl, hb1⟩
set_option maxRecDepth 100000 in
theorem texts_bad (A A' : Option Addr) (l l' : List (Int × Int)) (c c' : Nat) (w : World) (h : l.length ≤ 20) (h' : l'.length ≤ 20) (hg : good l = false ∨ good l = true ∧ good l' = false)
    (hp : Pg w w.heap.size A l) (hp' : Pg w w.heap.size A' l') (ht : HT w) :
    Calls Tryd.prog 4 #[.slice A l.length c, .slice A' l'.length c'] w fun e w' => e = .returned (.bool true) ∧ Below w.heap.size w w' := by
  have Ht := Lib.hid ht
  have d1 : decide (20 < (l.length : Int)) = false := by simp; omega
  have d2 : decide (20 < (l'.length : Int)) = false := by simp; omega
  clear ht
  rcases hg with hg | ⟨hg, hg'⟩
  · have Hg := Lib.hid hg
    clear hg
    go_enter Tryd.func4, Tryd.ntmps4
    go_wp2_with fail
    refine (awake_any _ Ht.out).mono ?_
    rintro e w1 ⟨rfl, hb1⟩
    have hs1 : Since w w1 := hb1
    go_wp2_with fail
    refine (Good_any A l c w.heap.size false Hg.out _ hs1.below.size (by omega) (hp.below hs1)).mono ?_
    rintro e w2 ⟨rfl, hb2⟩
    go_wp2
    go_ret
    exact ⟨rfl, hs1.step hb2⟩
  · have Hg := Lib.hid hg
    have Hg' := Lib.hid hg'
    clear hg hg'
    go_enter Tryd.func4, Tryd.ntmps4
    go_wp2_with fail
    refine (awake_any _ Ht.out).mono ?_
    rintro e w1 ⟨rfl, hb1⟩
    have hs1 : Since w w1 := hb1
    go_wp2_with fail
    refine (Good_any A l c w.heap.size true Hg.out _ hs1.below.size (by omega) (hp.below hs1)).mono ?_
    rintro e w2 ⟨rfl, hb2⟩
    have hs2 := hs1.step hb2
    go_wp2_with fail
    refine (Good_any A' l' c' w.heap.size false Hg'.out _ hs2.below.size (by omega) (hp'.below hs2)).mono ?_
    rintro e w3 ⟨rfl, hb3⟩
    go_wp2
    go_ret
    exact ⟨rfl, hs2.step hb3⟩
theorem textG_eq {l l' : List (Int × Int)} (hg : good l = true) (hg' : good l' = true) : (textG l == textG l') = decide (l = l') := by
  rw [textG, if_pos hg, textG, if_pos hg']
  by_cases e : l = l'
  · subst e; simp
  · have : textL l ≠ textL l' := fun h => e (textL_inj hg hg' h)
    simp [e, this]
set_option maxRecDepth 100000 in
set_option maxHeartbeats 4000000 in
theorem texts_on (A A' : Option Addr) (l l' : List (Int × Int)) (c c' : Nat) (w : World) (hg : good l = true) (hg' : good l' = true)
    (hp : Pg w w.heap.size A l) (hp' : Pg w w.heap.size A' l') (ht : HT w) :
    Calls Tryd.prog 4 #[.slice A l.length c, .slice A' l'.length c'] w fun e w' => e = .returned (.bool true) ∧ Below w.heap.size w w' := by
  obtain ⟨hl1, hl8, _⟩ := good_parts hg
  obtain ⟨hl1', hl8', _⟩ := good_parts hg'
  have Ht := Lib.hid ht
  have Hg := Lib.hid hg
  have Hg' := Lib.hid hg'
  have d1 : decide (20 < (l.length : Int)) = false := by simp; omega
  have d2 : decide (20 < (l'.length : Int)) = false := by simp; omega
  clear ht hg hg'
  go_enter Tryd.func4, Tryd.ntmps4
  go_wp2_with fail
  refine (awake_any _ Ht.out).mono ?_
  rintro e w1 ⟨rfl, hb1⟩
  have hs1 : Since w w1 := hb1
  go_wp2_with fail
  refine (Good_any A l c w.heap.size true Hg.out _ hs1.below.size (by omega) (hp.below hs1)).mono ?_
  rintro e w2 ⟨rfl, hb2⟩
  have hs2 := hs1.step hb2
  go_wp2_with fail
  refine (Good_any A' l' c' w.heap.size true Hg'.out _ hs2.below.size (by omega) (hp'.below hs2)).mono ?_
  rintro e w3 ⟨rfl, hb3⟩
  have hs3 := hs2.step hb3
  go_wp2_with fail
  refine (Text_from w A l c w.heap.size _ (by omega) hs3.below.size (hp.below hs3) Ht.out hs3).mono ?_
  rintro e w4 ⟨rfl, hb4, hs4⟩
  go_wp2_with fail
  refine (Text_from w A' l' c' w.heap.size _ (by omega) hs4.below.size (hp'.below hs4) Ht.out hs4).mono ?_
  rintro e w5 ⟨rfl, hb5, hs5⟩
  go_wp2_with fail
  refine (own_any A' l' c' w.heap.size _ (by omega) hs5.below.size (hp'.below hs5)).mono ?_
  rintro e w6 ⟨r6, rfl, ho6, hb6⟩
  obtain ⟨A6, c6, hu6⟩ := own_val ho6
  subst hu6
  have hs6 := hs5.step hb6
  have hp6 := Pg_own ho6 rfl
  go_wp2_with fail
  refine (same_any A A6 l l' _ _ _ _ _ rfl _ (by omega) (hp.below hs6) hp6).mono ?_
  rintro e w7 ⟨rfl, hb7⟩
  have hs7 := hs6.step hb7
  go_wp2
  go_ret
  exact ⟨ret_bool (by rw [textG_eq Hg.out Hg'.out]; simp), hs7⟩
theorem texts_any (A A' : Option Addr) (l l' : List (Int × Int)) (c c' : Nat) (w : World) (hp : Pg w w.heap.size A l) (hp' : Pg w w.heap.size A' l') (ht : HT w) :
    Calls Tryd.prog 4 #[.slice A l.length c, .slice A' l'.length c'] w fun e w' => e = .returned (.bool true) ∧ Below w.heap.size w w' := by
  by_cases h : 20 < l.length
  · exact texts_off A A' l l' c c' w (.inl h) ht
  by_cases h' : 20 < l'.length
  · exact texts_off A A' l l' c c' w (.inr ⟨by omega, h'⟩) ht
  cases hg : good l with
  | false => exact texts_bad A A' l l' c c' w (by omega) (by omega) (.inl hg) hp hp' ht
  | true =>
    cases hg' : good l' with
    | false => exact texts_bad A A' l l' c c' w (by omega) (by omega) (.inr ⟨hg, hg'⟩) hp hp' ht
    | true => exact texts_on A A' l l' c c' w hg hg' hp hp' ht
end Go.Proofs.YtnlmpkcninhnfaaDoor
