/-
  prog's Good, Total and Holds, on a program in memory, as contracts.
-/
import Derived.Test.YtnlmpkcninhnfaaDoorWd
import Derived.Test.YtnlmpkcninhnfaaDoorM
import Derived.Deep.LoopGhost
namespace Go.Proofs.YtnlmpkcninhnfaaDoor
open Go.RowKit

/-- steps (Sem, N) as cells -/
def flat (l : List (Int × Int)) : List Value := l.flatMap fun s => [.int .i64 s.1, .int .i64 s.2]
theorem flat_length (l : List (Int × Int)) : (flat l).length = l.length * 2 := by
  induction l with
  | nil => rfl
  | cons x l ih => simp only [flat, List.flatMap_cons, List.length_append, List.length_cons, List.length_nil] at ih ⊢; omega
theorem flat_get : ∀ (l : List (Int × Int)) (k : Nat) (s : Int × Int), l[k]? = some s → (flat l)[k * 2]? = some (.int .i64 s.1) ∧ (flat l)[k * 2 + 1]? = some (.int .i64 s.2)
  | [], k, s, h => by simp at h
  | x :: l, 0, s, h => by
    obtain rfl : x = s := by simpa using h
    simp [flat]
  | x :: l, k + 1, s, h => by
    have := flat_get l k s (by simpa using h)
    have e1 : (k + 1) * 2 = k * 2 + 2 := by omega
    rw [e1]
    simpa [flat] using this

theorem add_one' (a : Addr) : a.add 1 = ⟨a.block, a.off + 1, none⟩ := by simp [Addr.add]
/-- a program in memory: the slice '.slice A n c' reads as the steps l -/
def Pg (w : World) (B : Nat) (A : Option Addr) (l : List (Int × Int)) : Prop := Reads w B 2 A l.length (flat l)
theorem Pg.below {w w' : World} {B : Nat} {A : Option Addr} {l : List (Int × Int)} (h : Pg w B A l) (hb : Below B w w') : Pg w' B A l := Reads.below h hb
theorem Pg.at_ {w : World} {B : Nat} {A : Option Addr} {l : List (Int × Int)} {k : Nat} (h : Pg w B A l) (hk : k < l.length) :
    ∃ ad s t, A = some ad ∧ ad.block < B ∧ l[k]? = some (s, t) ∧ w.cell? (ad.add (k * 2)) = some (.int .i64 s) ∧ w.cell? ⟨(ad.add (k * 2)).block, (ad.add (k * 2)).off + 1, none⟩ = some (.int .i64 t) := by
  obtain ⟨ad, e, hb, hc⟩ := h.2 (by omega)
  have hl : l[k]? = some (l[k].1, l[k].2) := List.getElem?_eq_getElem hk
  have := flat_get l k _ hl
  exact ⟨ad, _, _, e, hb, hl, hc _ _ this.1, by rw [← add_one', add_of_add]; exact hc _ _ this.2⟩


theorem ret_bool {a b : Bool} (h : a = b) : Ending.returned (.bool a) = .returned (.bool b) := by rw [h]
theorem ret_int {k : IntKind} {a b : Int} (h : a = b) : Ending.returned (.int k a) = .returned (.int k b) := by rw [h]
theorem odd_any (s t : Int) (b : Bool) (hb : odd s t = b) (w : World) :
    Calls Tryd.prog 22 #[.agg #[.int .i64 s, .int .i64 t]] w fun e w' => e = .returned (.bool b) ∧ Below w.heap.size w w' := by
  have hbel : Below w.heap.size w (w.alloc (.cells #[.int .i64 s, .int .i64 t] 48)) := (Below.refl _ _).alloc (Nat.le_refl _) _
  have Hb := Lib.hid hb
  clear hb
  by_cases h1 : s < 0
  · have d1 : decide (s < 0) = true := by simp [h1]
    go_enter Tryd.func22, Tryd.ntmps22
    go_wp2
    go_ret
    exact ⟨ret_bool (by rw [← Hb.out]; simp [odd, *]), hbel⟩
  have d1 : decide (s < 0) = false := by simp [h1]
  by_cases h2 : 8 < s
  · have d2 : decide (8 < s) = true := by simp [h2]
    go_enter Tryd.func22, Tryd.ntmps22
    go_wp2
    go_ret
    exact ⟨ret_bool (by rw [← Hb.out]; simp [odd, *]), hbel⟩
  have d2 : decide (8 < s) = false := by simp [h2]
  by_cases h3 : t < 1
  · have d3 : decide (t < 1) = true := by simp [h3]
    go_enter Tryd.func22, Tryd.ntmps22
    go_wp2
    go_ret
    exact ⟨ret_bool (by rw [← Hb.out]; simp [odd, *]), hbel⟩
  have d3 : decide (t < 1) = false := by simp [h3]
  go_enter Tryd.func22, Tryd.ntmps22
  go_wp2
  go_ret
  exact ⟨ret_bool (by rw [← Hb.out]; simp [odd, d1, d2, d3]), hbel⟩

/-- what IndexFunc tells of the first odd step -/
def firstOdd : List (Int × Int) → Option Nat
  | [] => none
  | x :: l => if odd x.1 x.2 = true then some 0 else (firstOdd l).map (· + 1)

def IdxRel (l : List (Int × Int)) (w : World) (k : Nat) (s8 : Value) (wr : World) : Prop :=
  ∃ i : Nat, k = l.length - i ∧ i ≤ l.length ∧ s8 = .int .i64 i ∧ (∀ j x, j < i → l[j]? = some x → odd x.1 x.2 = false) ∧ Below w.heap.size w wr
theorem anyOdd_none {l : List (Int × Int)} (h : ∀ j x, j < l.length → l[j]? = some x → odd x.1 x.2 = false) : anyOdd l = false := by
  rw [anyOdd, List.any_eq_false]
  intro x hx
  obtain ⟨j, hj, rfl⟩ := List.getElem_of_mem hx
  simp [h j _ hj (List.getElem?_eq_getElem hj)]
theorem anyOdd_some {l : List (Int × Int)} {j : Nat} {x : Int × Int} (h : l[j]? = some x) (ho : odd x.1 x.2 = true) : anyOdd l = true := by
  rw [anyOdd, List.any_eq_true]
  exact ⟨x, List.mem_of_getElem? h, ho⟩

set_option maxHeartbeats 1000000 in
theorem index_odd (A : Option Addr) (l : List (Int × Int)) (c B : Nat) (w : World) (hB : B ≤ w.heap.size) (hl : l.length ≤ 4611686018427387904) (hp : Pg w B A l) :
    Calls Tryd.prog 33 #[.slice A l.length c, .func (.func 22) #[] #[]] w fun e w' => ∃ r : Int, e = .returned (.int .i64 r) ∧ decide (0 ≤ r) = anyOdd l ∧ Below w.heap.size w w' := by
  go_enter Tryd.func33, Tryd.ntmps33
  go_wp2
  go_loopg [8] l.length (fun k s8 wr => IdxRel l w k s8 wr)
  case atStart => exact ⟨0, rfl, Nat.zero_le _, rfl, fun j x hj => by omega, Below.refl _ _⟩
  case round =>
    obtain ⟨i, hk, hil, rfl, hno, hbel⟩ := hrel
    have Hk := Lib.hid hk
    have Hno := Lib.hid hno
    clear hk hno
    by_cases hlt : i < l.length
    · obtain ⟨ad, s, t, rfl, hadb, hx, hc1, hc2⟩ := (hp.below (hbel.mono hB)).at_ hlt
      have Hx := Lib.hid hx
      clear hx
      cases ho : odd s t
      · have Ho := Lib.hid ho
        clear ho
        go_wp2_with (go_at_call 22; refine (odd_any s t false Ho.out _).mono ?_; rintro e w1 ⟨rfl, hb1⟩)
        go_roundg (l.length - (i + 1))
        case measure => rw [Hk.out]; omega
        case rel =>
          refine ⟨i + 1, rfl, hlt, by go_num, fun j x hj hx => ?_, hbel.trans (hb1.mono hbel.size)⟩
          rcases Nat.lt_or_ge j i with h | h
          · exact Hno.out j x h hx
          · obtain rfl : j = i := by omega
            rw [Hx.out] at hx
            injection hx with hx
            subst hx
            exact Ho.out
      · have Ho := Lib.hid ho
        clear ho
        go_wp2_with (go_at_call 22; refine (odd_any s t true Ho.out _).mono ?_; rintro e w1 ⟨rfl, hb1⟩)
        go_ret
        exact ⟨_, rfl, by rw [anyOdd_some Hx.out Ho.out]; simp, hbel.trans (hb1.mono hbel.size)⟩
    · have hile : i = l.length := by omega
      go_wp2
      go_ret
      exact ⟨_, rfl, by rw [anyOdd_none (fun j x hj hx => Hno.out j x (by omega) hx)]; rfl, hbel⟩

theorem contains_odd (A : Option Addr) (l : List (Int × Int)) (c B : Nat) (b : Bool) (hb : anyOdd l = b) (w : World) (hB : B ≤ w.heap.size) (hl : l.length ≤ 4611686018427387904) (hp : Pg w B A l) :
    Calls Tryd.prog 23 #[.slice A l.length c, .func (.func 22) #[] #[]] w fun e w' => e = .returned (.bool b) ∧ Below w.heap.size w w' := by
  have Hb := Lib.hid hb
  clear hb
  go_enter Tryd.func23, Tryd.ntmps23
  go_wp2_with (go_at_call 33; refine (index_odd A l c B _ hB hl hp).mono ?_; rintro e w1 ⟨r, rfl, hr, hb1⟩; have Hr := Lib.hid hr; clear hr)
  go_ret
  exact ⟨ret_bool (by rw [← Hb.out]; exact Hr.out), hb1⟩

theorem Good_any (A : Option Addr) (l : List (Int × Int)) (c B : Nat) (b : Bool) (hb : good l = b) (w : World) (hB : B ≤ w.heap.size) (hl : l.length ≤ 4611686018427387904) (hp : Pg w B A l) :
    Calls Tryd.prog 8 #[.slice A l.length c] w fun e w' => e = .returned (.bool b) ∧ Below w.heap.size w w' := by
  have Hb := Lib.hid hb
  clear hb
  by_cases h1 : 1 ≤ l.length
  · by_cases h2 : l.length ≤ 8
    · have d1 : decide (1 ≤ (l.length : Int)) = true := by simp; omega
      have d2 : decide ((l.length : Int) ≤ 8) = true := by simp; omega
      have d1' : decide (1 ≤ l.length) = true := by simp; omega
      have d2' : decide (l.length ≤ 8) = true := by simp; omega
      cases ha : anyOdd l
      · have Ha := Lib.hid ha
        clear ha
        go_enter Tryd.func8, Tryd.ntmps8
        go_wp2_with (go_at_call 23; refine (contains_odd A l c B false Ha.out _ hB hl hp).mono ?_; rintro e w1 ⟨rfl, hb1⟩)
        go_ret
        exact ⟨ret_bool (by rw [← Hb.out, good, d1', d2', Ha.out]; rfl), hb1⟩
      · have Ha := Lib.hid ha
        clear ha
        go_enter Tryd.func8, Tryd.ntmps8
        go_wp2_with (go_at_call 23; refine (contains_odd A l c B true Ha.out _ hB hl hp).mono ?_; rintro e w1 ⟨rfl, hb1⟩)
        go_ret
        exact ⟨ret_bool (by rw [← Hb.out, good, d1', d2', Ha.out]; rfl), hb1⟩
    · have d1 : decide (1 ≤ (l.length : Int)) = true := by simp; omega
      have d2 : decide ((l.length : Int) ≤ 8) = false := by simp; omega
      go_enter Tryd.func8, Tryd.ntmps8
      go_wp2
      go_ret
      exact ⟨ret_bool (by rw [← Hb.out]; simp [good]; omega), Below.refl _ _⟩
  · have d1 : decide (1 ≤ (l.length : Int)) = false := by simp; omega
    go_enter Tryd.func8, Tryd.ntmps8
    go_wp2
    go_ret
    exact ⟨ret_bool (by rw [← Hb.out]; simp [good]; omega), Below.refl _ _⟩

def sumN (l : List (Int × Int)) : Int := (l.map (·.2)).sum
def holdsN (l : List (Int × Int)) : Int := ((l.filter fun x => decide (0 < x.1)).length : Int)
theorem sumN_snoc (l : List (Int × Int)) (i : Nat) (x : Int × Int) (h : l[i]? = some x) : sumN (l.take (i + 1)) = sumN (l.take i) + x.2 := by
  rw [List.take_add_one, h]; simp [sumN]
theorem holdsN_snoc (l : List (Int × Int)) (i : Nat) (x : Int × Int) (h : l[i]? = some x) : holdsN (l.take (i + 1)) = holdsN (l.take i) + if 0 < x.1 then 1 else 0 := by
  rw [List.take_add_one, h]
  by_cases hx : 0 < x.1 <;> simp [holdsN, List.filter_append, hx]
theorem sumN_bound {l : List (Int × Int)} (h : good l = true) (i : Nat) (hi : i ≤ l.length) : 0 ≤ sumN (l.take i) ∧ sumN (l.take i) ≤ i * 2147483648 := by
  obtain ⟨_, _, hall⟩ := good_parts h
  induction i with
  | zero => simp [sumN]
  | succ i ih =>
    have hx : l[i]? = some l[i] := List.getElem?_eq_getElem (by omega)
    have := hall i _ hx
    have ih' := ih (by omega)
    rw [sumN_snoc l i _ hx]
    omega
theorem holdsN_bound (l : List (Int × Int)) (i : Nat) : 0 ≤ holdsN (l.take i) ∧ holdsN (l.take i) ≤ i := by
  have h1 := List.length_filter_le (fun x : Int × Int => decide (0 < x.1)) (l.take i)
  have h2 := List.length_take_le i l
  unfold holdsN
  omega

def TotRel (l : List (Int × Int)) (w : World) (k : Nat) (s3 s11 : Value) (wr : World) : Prop :=
  ∃ i : Nat, k = l.length - i ∧ i ≤ l.length ∧ s11 = .int .i64 i ∧ s3 = .int .i64 (sumN (l.take i)) ∧ Below w.heap.size w wr
set_option maxHeartbeats 1000000 in
theorem Total_good (A : Option Addr) (l : List (Int × Int)) (c B : Nat) (w : World) (hg : good l = true) (hB : B ≤ w.heap.size) (hp : Pg w B A l) :
    Calls Tryd.prog 13 #[.slice A l.length c] w fun e w' => e = .returned (.int .i64 (sumN l)) ∧ Below w.heap.size w w' := by
  obtain ⟨hl1, hl8, hall⟩ := good_parts hg
  have hsum := sumN_bound hg
  have Hsum := Lib.hid hsum
  have Hall := Lib.hid hall
  have Hg := Lib.hid hg
  clear hall hg hsum
  go_enter Tryd.func13, Tryd.ntmps13
  go_wp2_with (go_at_call 8; refine (Good_any A l c B true Hg.out _ hB (by omega) hp).mono ?_; rintro e w1 ⟨rfl, hb1⟩)
  go_loopg [3, 11] l.length (fun k s3 s11 wr => TotRel l w k s3 s11 wr)
  case atStart => exact ⟨0, rfl, Nat.zero_le _, rfl, by simp [sumN], hb1⟩
  case round =>
    obtain ⟨i, hk, hil, rfl, rfl, hbel⟩ := hrel
    have Hk := Lib.hid hk
    clear hk
    by_cases hlt : i < l.length
    · obtain ⟨ad, s, t, rfl, hadb, hx, hc1, hc2⟩ := (hp.below (hbel.mono hB)).at_ hlt
      have hst := Hall.out i _ hx
      have hs1 := Hsum.out i hil
      have Hx := Lib.hid hx
      clear hx
      go_wp2
      go_roundg (l.length - (i + 1))
      case measure => rw [Hk.out]; omega
      case rel =>
        refine ⟨i + 1, rfl, hlt, by go_num, ?_, hbel.alloc hbel.size _⟩
        rw [sumN_snoc l i _ Hx.out]
    · have hile : i = l.length := by omega
      go_wp2
      go_ret
      exact ⟨ret_int (by rw [hile, List.take_of_length_le (Nat.le_refl _)]), hbel⟩
end Go.Proofs.YtnlmpkcninhnfaaDoor
