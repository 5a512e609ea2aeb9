/-
  awake.
-/
import Derived.Test.YthjdogeobfcedaaS7
import Derived.Laws.StructEq
namespace Go.Proofs.Ythjdogeobfcedaa
open Go.RowKit Go.Maps

theorem evs_new (w : World) (l : List Ev) (hl : 0 < l.length) : Evs (w.alloc (.cells (flatE l).toArray 35)) (w.heap.size + 1) (some ⟨w.heap.size, 0, none⟩) l := by
  refine ⟨flatE_length l, fun _ => ⟨_, rfl, by simp, fun j u hu => ?_⟩⟩
  have h := (Blk.new w 35 (flatE l).toArray).cell j
  have e : (⟨w.heap.size, 0, none⟩ : Addr).add j = ⟨w.heap.size, j, none⟩ := by
    unfold Addr.add
    split
    · rename_i e; rw [e]
    · simp
  rw [e, h]
  simpa using hu
def evA : Ev := { at_ := 0, kind := 1, who := 1, n := 1 }
def evB : Ev := { at_ := 6, kind := 2, who := 1, n := 1 }
theorem awake_known : (Known.all (fun _ => none) [evA, evB]) 1 = some { r := 1, d := 1, a := 0, wa := 0, t := 0, gr := 0, de := 0, ga := 0, wk := 0, op := 0, wo := 6, su := 6, since := (DataW.map []).put (.int .i64 1) (.lit (.int .i64 0)), times := [6] } := by
  rfl
theorem newWorld_size (w : World) : (newWorld w).heap.size = w.heap.size + 1 + 1 := by simp [newWorld]
theorem newWorld_below (w : World) : Below w.heap.size w (newWorld w) := ((Below.refl _ _).alloc (Nat.le_refl _) _).alloc (by simp) _
theorem ownNew_no {n j : Nat} (h : n + 1 < j) : ownNew n j = none := if_neg (by omega)
theorem ownNew_some {n j : Nat} (h : ownNew n j ≠ none) : n ≤ j := by
  rcases Nat.lt_or_ge j n with h1 | h1
  · exact absurd (if_neg (by omega)) h
  · exact h1
theorem awake_any (w : World) : Calls Try.prog 5 #[] w fun e w' => e = .returned (.bool true) ∧ Below w.heap.size w w' := by
  go_enter Try.func5, Try.ntmps5
  go_wp2_with fail
  refine (New_any w).mono ?_
  rintro e w1 ⟨rfl, rfl⟩
  go_wp2_with fail
  have hs := (stats_new w).below ((Below.refl _ _).alloc (Nat.le_refl _) (.cells (flatE [evA, evB]).toArray 35))
  refine (Put_any _ _ _ _ _ _ _ _ (some ⟨(newWorld w).heap.size, 0, none⟩) [evA, evB] 2 hs ((evs_new (newWorld w) [evA, evB] (by decide)).more (by simp)) ?_ (by decide) ?_).mono ?_
  · intro _ ad e
    cases e
    exact ownNew_no (show w.heap.size + 1 < (newWorld w).heap.size by rw [newWorld_size]; omega)
  · intro e he
    simp at he
    rcases he with rfl | rfl <;> exact ⟨by decide, by decide, by decide, by decide⟩
  rintro e w2 ⟨rfl, own', nm', D', h2, _, ht⟩
  have hb2 : Below w.heap.size w w2 := by
    have hb1 : Below w.heap.size w ((newWorld w).alloc (.cells (flatE [evA, evB]).toArray 35)) := (newWorld_below w).alloc (by rw [newWorld_size]; omega) _
    exact (((Turn.refl (fun j => w.heap.size ≤ j) w).below hb1).trans ht fun i _ h => ownNew_some h).toBelow (Nat.le_refl _) (fun i hi => by omega)
  have H2 := Lib.hid h2
  have Hb2 := Lib.hid hb2
  clear hs h2 hb2 ht
  go_wp2_with fail
  refine (Of_some _ _ _ _ _ _ _ _ H2.out 1 (by decide) _ awake_known).mono ?_
  rintro e w3 ⟨rfl, hb3⟩
  have Hb3 := Lib.hid hb3
  clear hb3
  go_wp2_with fail
  go_ret
  exact ⟨rfl, (Hb2.out.trans (Hb3.out.mono Hb2.out.size)).alloc (Nat.le_trans Hb2.out.size Hb3.out.size) _⟩
end Go.Proofs.Ythjdogeobfcedaa
