/-
  The document's own GoodProg, Total, Holds, ProgFits; prog's Fits.
-/
import Derived.Test.YtnlmpkcninhnfaaDoorP7
namespace Go.Proofs.YtnlmpkcninhnfaaDoor
open Go.RowKit

theorem anyOdd_take {l : List (Int × Int)} {i : Nat} {s t : Int} (h : l[i]? = some (s, t)) : anyOdd (l.take (i + 1)) = (anyOdd (l.take i) || odd s t) := by
  rw [List.take_add_one, h]; simp [anyOdd]
theorem anyOdd_hit {l : List (Int × Int)} {i : Nat} {s t : Int} (h : l[i]? = some (s, t)) (ho : odd s t = true) : good l = false := by
  have : anyOdd l = true := List.any_eq_true.2 ⟨_, List.mem_of_getElem? h, ho⟩
  simp [good, this]
def GoodRel (l : List (Int × Int)) (w : World) (k : Nat) (s3 : Value) (wr : World) : Prop :=
  ∃ i : Nat, k = l.length - i ∧ i ≤ l.length ∧ s3 = .int .i64 i ∧ anyOdd (l.take i) = false ∧ Below w.heap.size w wr
set_option maxRecDepth 100000 in
set_option maxHeartbeats 1000000 in
theorem GoodProg_any (A : Option Addr) (l : List (Int × Int)) (c B : Nat) (b : Bool) (hb : good l = b) (w : World) (hl : l.length ≤ 100000) (hB : B ≤ w.heap.size) (hp : Pg w B A l) :
    Calls Tryd.prog 16 #[.slice A l.length c] w fun e w' => e = .returned (.bool b) ∧ Below w.heap.size w w' := by
  have Hb := Lib.hid hb
  clear hb
  go_enter Tryd.func16, Tryd.ntmps16
  go_wp2_with fail
  go_loopg [3] l.length (fun k s3 wr => GoodRel l w k s3 wr)
  case atStart => exact ⟨0, rfl, Nat.zero_le _, rfl, by simp [anyOdd], Below.refl _ _⟩
  case round =>
    obtain ⟨i, hk, hil, rfl, hno, hbel⟩ := hrel
    have Hk := Lib.hid hk
    have Hno := Lib.hid hno
    clear hk hno
    by_cases hlt : i < l.length
    · obtain ⟨ad, s, t, rfl, hadb, hx, hc1, hc2⟩ := (hp.below (hbel.mono hB)).at_ hlt
      have Hx := Lib.hid hx
      clear hx
      by_cases h1 : s < 0
      · have d1 : decide (s < 0) = true := by simp [h1]
        go_wp2
        go_ret
        exact ⟨ret_bool (by rw [← Hb.out]; exact (anyOdd_hit Hx.out (by simp [odd, h1])).symm), hbel⟩
      by_cases h2 : 8 < s
      · have d1 : decide (s < 0) = false := by simp [h1]
        have d2 : decide (8 < s) = true := by simp [h2]
        go_wp2
        go_ret
        exact ⟨ret_bool (by rw [← Hb.out]; exact (anyOdd_hit Hx.out (by simp [odd, h2])).symm), hbel⟩
      by_cases h3 : t < 1
      · have d1 : decide (s < 0) = false := by simp [h1]
        have d2 : decide (8 < s) = false := by simp [h2]
        have d3 : decide (t < 1) = true := by simp [h3]
        go_wp2
        go_ret
        exact ⟨ret_bool (by rw [← Hb.out]; exact (anyOdd_hit Hx.out (by simp [odd, h3])).symm), hbel⟩
      by_cases h4 : 2147483648 < t
      · have d1 : decide (s < 0) = false := by simp [h1]
        have d2 : decide (8 < s) = false := by simp [h2]
        have d3 : decide (t < 1) = false := by simp [h3]
        have d4 : decide (2147483648 < t) = true := by simp [h4]
        go_wp2
        go_ret
        exact ⟨ret_bool (by rw [← Hb.out]; exact (anyOdd_hit Hx.out (by simp [odd, h4])).symm), hbel⟩
      have d1 : decide (s < 0) = false := by simp [h1]
      have d2 : decide (8 < s) = false := by simp [h2]
      have d3 : decide (t < 1) = false := by simp [h3]
      have d4 : decide (2147483648 < t) = false := by simp [h4]
      have Ho := Lib.hid (show odd s t = false by simp [odd, d1, d2, d3, d4])
      clear h1 h2 h3 h4
      go_wp2
      go_roundg (l.length - (i + 1))
      case measure => rw [Hk.out]; omega
      case rel =>
        refine ⟨i + 1, rfl, hlt, by go_num, ?_, hbel⟩
        rw [anyOdd_take Hx.out, Hno.out, Ho.out]
        rfl
    · have hile : i = l.length := by omega
      have hno := Hno.out
      rw [hile, List.take_of_length_le (Nat.le_refl _)] at hno
      have Hno2 := Lib.hid hno
      clear hno
      by_cases g1 : 1 ≤ l.length
      · go_wp2
        go_ret
        refine ⟨ret_bool ?_, hbel⟩
        rw [← Hb.out, good, Hno2.out]
        simp [g1]
        omega
      · go_wp2
        go_ret
        refine ⟨ret_bool ?_, hbel⟩
        rw [← Hb.out, good, Hno2.out]
        simp [g1]

theorem good_nil {l : List (Int × Int)} (h : l.length = 0) : good l = false := by simp [good, h]
set_option maxRecDepth 100000 in
theorem RTotal_bad (A : Option Addr) (l : List (Int × Int)) (c B : Nat) (w : World) (hg : good l = false) (hl : l.length ≤ 100000) (hB : B ≤ w.heap.size) (hp : Pg w B A l) :
    Calls Tryd.prog 17 #[.slice A l.length c] w fun e w' => e = .returned (.int .i64 0) ∧ Below w.heap.size w w' := by
  have Hg := Lib.hid hg
  clear hg
  go_enter Tryd.func17, Tryd.ntmps17
  go_wp2_with fail
  go_loopg [3, 4] 1 (fun k s3 s4 wr => s3 = .int .i64 0 ∧ s4 = .int .i64 0 ∧ Below w.heap.size w wr)
  case atStart => exact ⟨rfl, rfl, Below.refl _ _⟩
  case round =>
    obtain ⟨rfl, rfl, hbel⟩ := hrel
    by_cases h0 : 0 < l.length
    · go_wp2_with fail
      refine (GoodProg_any A l c B false Hg.out _ hl (Nat.le_trans hB hbel.size) (hp.below (hbel.mono hB))).mono ?_
      rintro e w1 ⟨rfl, hb1⟩
      go_wp2
      go_ret
      exact ⟨rfl, hbel.trans (hb1.mono hbel.size)⟩
    · go_wp2
      go_ret
      exact ⟨rfl, hbel⟩
set_option maxRecDepth 100000 in
theorem RTotal_good (A : Option Addr) (l : List (Int × Int)) (c B : Nat) (w : World) (hg : good l = true) (hB : B ≤ w.heap.size) (hp : Pg w B A l) :
    Calls Tryd.prog 17 #[.slice A l.length c] w fun e w' => e = .returned (.int .i64 (sumN l)) ∧ Below w.heap.size w w' := by
  obtain ⟨hl1, hl8, hall⟩ := good_parts hg
  have hsum := sumN_bound hg
  have Hsum := Lib.hid hsum
  have Hall := Lib.hid hall
  have Hg := Lib.hid hg
  clear hall hg hsum
  go_enter Tryd.func17, Tryd.ntmps17
  go_wp2_with fail
  go_loopg [3, 4] l.length (fun k s3 s4 wr => TotRel l w k s3 s4 wr)
  case atStart => exact ⟨0, rfl, Nat.zero_le _, rfl, by simp [sumN], Below.refl _ _⟩
  case round =>
    obtain ⟨i, hk, hil, rfl, rfl, hbel⟩ := hrel
    have Hk := Lib.hid hk
    clear hk
    by_cases hlt : i < l.length
    · have hpw := hp.below (hbel.mono hB)
      have hBw : B ≤ wr.heap.size := Nat.le_trans hB hbel.size
      obtain ⟨ad, s, t, rfl, hadb, hx, hc1, hc2⟩ := hpw.at_ hlt
      have hst := Hall.out i _ hx
      have hs1 := Hsum.out i hil
      have Hx := Lib.hid hx
      clear hx hc1 hc2
      go_wp2_with fail
      refine (GoodProg_any _ l c B true Hg.out _ (by omega) hBw hpw).mono ?_
      rintro e w1 ⟨rfl, hb1⟩
      have hbel1 : Below w.heap.size w w1 := hbel.trans (hb1.mono hbel.size)
      obtain ⟨ad', s', t', e, hadb', hx', hc1, hc2⟩ := (hp.below (hbel1.mono hB)).at_ hlt
      cases e
      obtain ⟨rfl, rfl⟩ : s' = s ∧ t' = t := by have := Hx.out.symm.trans hx'; simpa [eq_comm] using this
      clear hx'
      go_wp2
      go_roundg (l.length - (i + 1))
      case measure => rw [Hk.out]; omega
      case rel =>
        refine ⟨i + 1, rfl, hlt, by go_num, ?_, hbel1⟩
        rw [sumN_snoc l i _ Hx.out]
    · have hile : i = l.length := by omega
      go_wp2
      go_ret
      exact ⟨ret_int (by rw [hile, List.take_of_length_le (Nat.le_refl _)]), hbel⟩
set_option maxRecDepth 100000 in
theorem RHolds_bad (A : Option Addr) (l : List (Int × Int)) (c B : Nat) (w : World) (hg : good l = false) (hl : l.length ≤ 100000) (hB : B ≤ w.heap.size) (hp : Pg w B A l) :
    Calls Tryd.prog 18 #[.slice A l.length c] w fun e w' => e = .returned (.int .i64 0) ∧ Below w.heap.size w w' := by
  have Hg := Lib.hid hg
  clear hg
  go_enter Tryd.func18, Tryd.ntmps18
  go_wp2_with fail
  go_loopg [3, 4] 1 (fun k s3 s4 wr => s3 = .int .i64 0 ∧ s4 = .int .i64 0 ∧ Below w.heap.size w wr)
  case atStart => exact ⟨rfl, rfl, Below.refl _ _⟩
  case round =>
    obtain ⟨rfl, rfl, hbel⟩ := hrel
    by_cases h0 : 0 < l.length
    · go_wp2_with fail
      refine (GoodProg_any A l c B false Hg.out _ hl (Nat.le_trans hB hbel.size) (hp.below (hbel.mono hB))).mono ?_
      rintro e w1 ⟨rfl, hb1⟩
      go_wp2
      go_ret
      exact ⟨rfl, hbel.trans (hb1.mono hbel.size)⟩
    · go_wp2
      go_ret
      exact ⟨rfl, hbel⟩
set_option maxRecDepth 100000 in
theorem RHolds_good (A : Option Addr) (l : List (Int × Int)) (c B : Nat) (w : World) (hg : good l = true) (hB : B ≤ w.heap.size) (hp : Pg w B A l) :
    Calls Tryd.prog 18 #[.slice A l.length c] w fun e w' => e = .returned (.int .i64 (holdsN l)) ∧ Below w.heap.size w w' := by
  obtain ⟨hl1, hl8, hall⟩ := good_parts hg
  have Hg := Lib.hid hg
  clear hall hg
  go_enter Tryd.func18, Tryd.ntmps18
  go_wp2_with fail
  go_loopg [3, 4] l.length (fun k s3 s4 wr => HolRel l w k s3 s4 wr)
  case atStart => exact ⟨0, rfl, Nat.zero_le _, rfl, by simp [holdsN], Below.refl _ _⟩
  case round =>
    obtain ⟨i, hk, hil, rfl, rfl, hbel⟩ := hrel
    have Hk := Lib.hid hk
    clear hk
    by_cases hlt : i < l.length
    · have hpw := hp.below (hbel.mono hB)
      have hBw : B ≤ wr.heap.size := Nat.le_trans hB hbel.size
      obtain ⟨ad, s, t, rfl, hadb, hx, hc1, hc2⟩ := hpw.at_ hlt
      have hs1 := holdsN_bound l i
      have Hx := Lib.hid hx
      clear hx hc1 hc2
      go_wp2_with fail
      refine (GoodProg_any _ l c B true Hg.out _ (by omega) hBw hpw).mono ?_
      rintro e w1 ⟨rfl, hb1⟩
      have hbel1 : Below w.heap.size w w1 := hbel.trans (hb1.mono hbel.size)
      obtain ⟨ad', s', t', e, hadb', hx', hc1, hc2⟩ := (hp.below (hbel1.mono hB)).at_ hlt
      cases e
      obtain ⟨rfl, rfl⟩ : s' = s ∧ t' = t := by have := Hx.out.symm.trans hx'; simpa [eq_comm] using this
      clear hx'
      by_cases h0 : 0 < s'
      · have d0 : decide (0 < s') = true := by simpa using h0
        go_wp2
        go_roundg (l.length - (i + 1))
        case measure => rw [Hk.out]; omega
        case rel =>
          refine ⟨i + 1, rfl, hlt, by go_num, ?_, hbel1⟩
          rw [holdsN_snoc l i _ Hx.out, if_pos h0]
      · have d0 : decide (0 < s') = false := by simpa using h0
        go_wp2
        go_roundg (l.length - (i + 1))
        case measure => rw [Hk.out]; omega
        case rel =>
          refine ⟨i + 1, rfl, hlt, by go_num, ?_, hbel1⟩
          rw [holdsN_snoc l i _ Hx.out, if_neg (by omega)]
          simp
    · have hile : i = l.length := by omega
      go_wp2
      go_ret
      exact ⟨ret_int (by rw [hile, List.take_of_length_le (Nat.le_refl _)]), hbel⟩

def anyBig (m : Int) (l : List (Int × Int)) : Bool := l.any fun x => decide (m < x.1)
def fits (l : List (Int × Int)) (m : Int) : Bool := good l && !anyBig m l
theorem anyBig_take {m : Int} {l : List (Int × Int)} {i : Nat} {s t : Int} (h : l[i]? = some (s, t)) : anyBig m (l.take (i + 1)) = (anyBig m (l.take i) || decide (m < s)) := by
  rw [List.take_add_one, h]; simp [anyBig]
theorem anyBig_hit {m : Int} {l : List (Int × Int)} {i : Nat} {s t : Int} (h : l[i]? = some (s, t)) (ho : m < s) : anyBig m l = true :=
  List.any_eq_true.2 ⟨_, List.mem_of_getElem? h, by simpa using ho⟩
def BigRel (m : Int) (l : List (Int × Int)) (w : World) (k : Nat) (s3 : Value) (wr : World) : Prop :=
  ∃ i : Nat, k = l.length - i ∧ i ≤ l.length ∧ s3 = .int .i64 i ∧ anyBig m (l.take i) = false ∧ Below w.heap.size w wr
set_option maxRecDepth 100000 in
theorem ProgFits_any (m : Int) (A : Option Addr) (l : List (Int × Int)) (c B : Nat) (b : Bool) (hb : fits l m = b) (w : World) (hl : l.length ≤ 100000) (hB : B ≤ w.heap.size) (hp : Pg w B A l) :
    Calls Tryd.prog 21 #[.slice A l.length c, .int .i64 m] w fun e w' => e = .returned (.bool b) ∧ Below w.heap.size w w' := by
  have Hb := Lib.hid hb
  clear hb
  go_enter Tryd.func21, Tryd.ntmps21
  go_wp2_with fail
  go_loopg [5] l.length (fun k s3 wr => BigRel m l w k s3 wr)
  case atStart => exact ⟨0, rfl, Nat.zero_le _, rfl, by simp [anyBig], Below.refl _ _⟩
  case round =>
    obtain ⟨i, hk, hil, rfl, hno, hbel⟩ := hrel
    have Hk := Lib.hid hk
    have Hno := Lib.hid hno
    clear hk hno
    have hpw := hp.below (hbel.mono hB)
    have hBw : B ≤ wr.heap.size := Nat.le_trans hB hbel.size
    by_cases hlt : i < l.length
    · obtain ⟨ad, s, t, rfl, hadb, hx, hc1, hc2⟩ := hpw.at_ hlt
      have Hx := Lib.hid hx
      clear hx
      by_cases h1 : m < s
      · have d1 : decide (m < s) = true := by simp [h1]
        go_wp2
        go_ret
        exact ⟨ret_bool (by rw [← Hb.out, fits, anyBig_hit Hx.out h1]; simp), hbel⟩
      have d1 : decide (m < s) = false := by simp [h1]
      have Ho := Lib.hid d1
      go_wp2
      go_roundg (l.length - (i + 1))
      case measure => rw [Hk.out]; omega
      case rel =>
        refine ⟨i + 1, rfl, hlt, by go_num, ?_, hbel⟩
        rw [anyBig_take Hx.out, Hno.out, Ho.out]
        rfl
    · have hile : i = l.length := by omega
      have hno := Hno.out
      rw [hile, List.take_of_length_le (Nat.le_refl _)] at hno
      have Hno2 := Lib.hid hno
      clear hno
      go_wp2_with fail
      refine (GoodProg_any A l c B _ rfl _ hl hBw hpw).mono ?_
      rintro e w1 ⟨rfl, hb1⟩
      go_wp2
      go_ret
      exact ⟨ret_bool (by rw [← Hb.out, fits, Hno2.out]; simp), hbel.trans (hb1.mono hbel.size)⟩

/-! ### prog.Fits -/
theorem big_any (s t : Int) (S : Option Addr) (n cs g : Nat) (b : Bool) (hb : decide ((n : Int) < s) = b) (w : World) (hg : g < w.heap.size) (hc : w.cell? ⟨g, 0, none⟩ = some (.slice S n cs)) :
    Calls Tryd.prog 32 #[.agg #[.int .i64 s, .int .i64 t], .pointer (some ⟨g, 0, none⟩)] w fun e w' => e = .returned (.bool b) ∧ Below w.heap.size w w' := by
  have hbel : Below w.heap.size w (w.alloc (.cells #[.int .i64 s, .int .i64 t] 48)) := (Below.refl _ _).alloc (Nat.le_refl _) _
  have hc' := cell_kept hc hbel
  have Hb := Lib.hid hb
  clear hb
  go_enter Tryd.func32, Tryd.ntmps32
  go_wp2
  go_ret
  exact ⟨ret_bool Hb.out, hbel⟩
theorem anyBig_none {m : Int} {l : List (Int × Int)} (h : ∀ (j : Nat) x, j < l.length → l[j]? = some x → decide (m < x.1) = false) : anyBig m l = false := by
  rw [anyBig, List.any_eq_false]
  intro x hx
  obtain ⟨j, hj, rfl⟩ := List.getElem_of_mem hx
  rw [h j _ hj (List.getElem?_eq_getElem hj)]
  simp
end Go.Proofs.YtnlmpkcninhnfaaDoor
