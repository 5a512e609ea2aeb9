/-
  prog.Fits, walked.
-/
import Derived.Test.YtnlmpkcninhnfaaDoorP9
namespace Go.Proofs.YtnlmpkcninhnfaaDoor
open Go.RowKit

def BIdxRel (m : Int) (l : List (Int × Int)) (w : World) (k : Nat) (s8 : Value) (wr : World) : Prop :=
  ∃ i : Nat, k = l.length - i ∧ i ≤ l.length ∧ s8 = .int .i64 i ∧ (∀ (j : Nat) x, j < i → l[j]? = some x → decide (m < x.1) = false) ∧ Below w.heap.size w wr
theorem cell_far {w w' : World} {B g : Nat} {v : Value} (hc : w.cell? ⟨g, 0, none⟩ = some v) (hg : g < B) (hb : Below B w w') : w'.cell? ⟨g, 0, none⟩ = some v := (hb.cell hg).trans hc
set_option maxHeartbeats 1000000 in
theorem index_big (A S : Option Addr) (l : List (Int × Int)) (c n cs g B : Nat) (w : World) (hB : B ≤ w.heap.size) (hl : l.length ≤ 4611686018427387904) (hp : Pg w B A l) (hg : g < w.heap.size) (hcl : w.cell? ⟨g, 0, none⟩ = some (.slice S n cs)) :
    Calls Tryd.prog 33 #[.slice A l.length c, .func (.func 32) #[] #[.pointer (some ⟨g, 0, none⟩)]] w fun e w' => ∃ r : Int, e = .returned (.int .i64 r) ∧ decide (0 ≤ r) = anyBig n l ∧ Below w.heap.size w w' := by
  go_enter Tryd.func33, Tryd.ntmps33
  go_wp2
  go_loopg [8] l.length (fun k s8 wr => BIdxRel n l w k s8 wr)
  case atStart => exact ⟨0, rfl, Nat.zero_le _, rfl, fun j x hj => by omega, Below.refl _ _⟩
  case round =>
    obtain ⟨i, hk, hil, rfl, hno, hbel⟩ := hrel
    have Hk := Lib.hid hk
    have Hno := Lib.hid hno
    clear hk hno
    by_cases hlt : i < l.length
    · obtain ⟨ad, s, t, rfl, hadb, hx, hc1, hc2⟩ := (hp.below (hbel.mono hB)).at_ hlt
      have Hx := Lib.hid hx
      clear hx
      have hclw := cell_far hcl hg hbel
      have hgw : g < wr.heap.size := Nat.lt_of_lt_of_le hg hbel.size
      have Hclw := Lib.hid hclw
      clear hclw
      cases ho : decide ((n : Int) < s)
      · have Ho := Lib.hid ho
        clear ho
        go_wp2_with (go_at_call 32; refine (big_any s t S n cs g false Ho.out _ hgw Hclw.out).mono ?_; rintro e w1 ⟨rfl, hb1⟩)
        go_roundg (l.length - (i + 1))
        case measure => rw [Hk.out]; omega
        case rel =>
          refine ⟨i + 1, rfl, hlt, by go_num, fun j x hj hx => ?_, hbel.trans (hb1.mono hbel.size)⟩
          rcases Nat.lt_or_ge j i with h | h
          · exact Hno.out j x h hx
          · obtain rfl : j = i := by omega
            rw [Hx.out] at hx
            injection hx with hx
            subst hx
            exact Ho.out
      · have Ho := Lib.hid ho
        clear ho
        go_wp2_with (go_at_call 32; refine (big_any s t S n cs g true Ho.out _ hgw Hclw.out).mono ?_; rintro e w1 ⟨rfl, hb1⟩)
        go_ret
        exact ⟨_, rfl, by rw [anyBig_hit Hx.out (by simpa using Ho.out)]; simp, hbel.trans (hb1.mono hbel.size)⟩
    · have hile : i = l.length := by omega
      go_wp2
      go_ret
      exact ⟨_, rfl, by rw [anyBig_none (fun j x hj hx => Hno.out j x (by omega) hx)]; rfl, hbel⟩
theorem contains_big (A S : Option Addr) (l : List (Int × Int)) (c n cs g B : Nat) (b : Bool) (hb : anyBig n l = b) (w : World) (hB : B ≤ w.heap.size) (hl : l.length ≤ 4611686018427387904) (hp : Pg w B A l) (hg : g < w.heap.size) (hcl : w.cell? ⟨g, 0, none⟩ = some (.slice S n cs)) :
    Calls Tryd.prog 23 #[.slice A l.length c, .func (.func 32) #[] #[.pointer (some ⟨g, 0, none⟩)]] w fun e w' => e = .returned (.bool b) ∧ Below w.heap.size w w' := by
  have Hb := Lib.hid hb
  clear hb
  go_enter Tryd.func23, Tryd.ntmps23
  go_wp2_with (go_at_call 33; refine (index_big A S l c n cs g B _ hB hl hp hg hcl).mono ?_; rintro e w1 ⟨r, rfl, hr, hb1⟩; have Hr := Lib.hid hr; clear hr)
  go_ret
  exact ⟨ret_bool (by rw [← Hb.out]; exact Hr.out), hb1⟩
theorem Fits_any (A S : Option Addr) (l : List (Int × Int)) (c n cs B : Nat) (b : Bool) (hb : fits l n = b) (w : World) (hB : B ≤ w.heap.size) (hl : l.length ≤ 4611686018427387904) (hp : Pg w B A l) :
    Calls Tryd.prog 20 #[.slice A l.length c, .slice S n cs] w fun e w' => e = .returned (.bool b) ∧ Below w.heap.size w w' := by
  have Hb := Lib.hid hb
  clear hb
  have hb0 : Below w.heap.size w (w.alloc (.cells #[.slice S n cs] 37)) := (Below.refl _ _).alloc (Nat.le_refl _) _
  have hk0 := Blk.new w 37 #[.slice S n cs] |>.cell 0
  go_enter Tryd.func20, Tryd.ntmps20
  go_wp2_with fail
  obtain ⟨W0, hW0⟩ : ∃ W0 : World, w.alloc (.cells #[.slice S n cs] 37) = W0 := ⟨_, rfl⟩
  rw [hW0] at hb0 hk0 ⊢
  have hg0 : w.heap.size < W0.heap.size := by rw [← hW0]; simp
  clear hW0
  have hB0 : B ≤ W0.heap.size := Nat.le_trans hB hb0.size
  have hp0 := hp.below (hb0.mono hB)
  cases hg : good l
  · have Hg := Lib.hid hg
    clear hg
    refine (Good_any A l c B false Hg.out _ hB0 hl hp0).mono ?_
    rintro e w1 ⟨rfl, hb1⟩
    go_wp2
    go_ret
    exact ⟨ret_bool (by rw [← Hb.out, fits, Hg.out]; rfl), hb0.trans (hb1.mono hb0.size)⟩
  · have Hg := Lib.hid hg
    clear hg
    refine (Good_any A l c B true Hg.out _ hB0 hl hp0).mono ?_
    rintro e w1 ⟨rfl, hb1⟩
    have hk1 := cell_far hk0 hg0 hb1
    have hg1 := Nat.lt_of_lt_of_le hg0 hb1.size
    go_wp2_with fail
    refine (contains_big A S l c n cs w.heap.size B _ rfl _ (Nat.le_trans hB0 hb1.size) hl (hp0.below (hb1.mono hB0)) hg1 hk1).mono ?_
    rintro e w2 ⟨rfl, hb2⟩
    go_wp2
    go_ret
    have hb01 : Below w.heap.size w w1 := hb0.trans (hb1.mono hb0.size)
    exact ⟨ret_bool (by rw [← Hb.out, fits, Hg.out]; rfl), hb01.trans (hb2.mono hb01.size)⟩
end Go.Proofs.YtnlmpkcninhnfaaDoor
