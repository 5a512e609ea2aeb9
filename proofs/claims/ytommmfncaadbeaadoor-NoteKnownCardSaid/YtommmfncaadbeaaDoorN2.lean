/-
  note's Text of an Event that may be told.
-/
import Derived.Test.YtommmfncaadbeaaDoorN1
import Derived.Deep.RegionHeld3
import Derived.OpenShut
namespace Go.Proofs.YtommmfncaadbeaaDoor
open Go.RowKit
attribute [local go_sem ↓] Go.wp_at_zero Go.wp_at_succ

theorem ret_str {a b : ByteArray} (h : a = b) : Ending.returned (.string a) = .returned (.string b) := by rw [h]
def Since (W w : World) : Prop := Below W.heap.size W w
theorem Since.step {W w w' : World} (h : Since W w) (k : Below w.heap.size w w') : Since W w' := Below.trans h (k.mono h.size)
theorem Format_from (W : World) (n : Int) (w : World) (h0 : 0 ≤ n) (h1 : n ≤ 9223372036854775807) (ht : HT W) (hs : Since W w) :
    Calls Tryd.prog 18 #[.int .i64 n, .int .i64 10] w fun e w' => e = .returned (.string ⟨(Lib.itoa n).toArray⟩) ∧ Since W w' :=
  (Format_any n w h0 h1 (ht.below hs)).mono fun _ _ h => ⟨h.1, hs.step h.2⟩
theorem Itoa_from (W : World) (n : Int) (w : World) (h0 : 0 ≤ n) (h1 : n ≤ 9223372036854775807) (ht : HT W) (hs : Since W w) :
    Calls Tryd.prog 19 #[.int .i64 n] w fun e w' => e = .returned (.string ⟨(Lib.itoa n).toArray⟩) ∧ Since W w' :=
  (Itoa_any n w h0 h1 (ht.below hs)).mono fun _ _ h => ⟨h.1, hs.step h.2⟩
theorem nDigits_le : ∀ (k u : Nat), u < 10 ^ (k + 1) → Lib.nDigits u ≤ k + 1
  | 0, u, h => by rw [Lib.nDigits_small (by simpa using h)]; omega
  | k + 1, u, h => by
    by_cases h1 : u < 10
    · rw [Lib.nDigits_small h1]; omega
    · rw [Lib.nDigits_big h1]
      have := nDigits_le k (u / 10) (by rw [Nat.pow_succ] at h; omega)
      omega
theorem itoa_len {n : Int} (h0 : 0 ≤ n) (h1 : n ≤ 9223372036854775807) : (Lib.itoa n).length ≤ 19 := by
  rw [itoa_dec h0, Lib.decDigits_length]
  exact nDigits_le 18 n.toNat (by omega)
/-- two strings joined, under one name -/
theorem add_named (a b : List UInt8) (A B : ByteArray) (hA : A = ⟨a.toArray⟩) (hB : B = ⟨b.toArray⟩) (hl : a.length + b.length ≤ 1000) :
    ∃ c : ByteArray, c = ⟨(a ++ b).toArray⟩ ∧ ∀ W, (Op.stringOp .add A B).run Tryd.prog W = .ok (.string c) W := by
  subst hA
  subst hB
  exact ⟨_, rfl, fun W => run_string_add_lists W a b (by omega) (by omega)⟩
theorem word_len (k : Nat) (hk : k ≤ 10) : (wordsB.getD k []).length ≤ 10 ∧ (wordB k).length ≤ 10 := by
  have : k = 0 ∨ k = 1 ∨ k = 2 ∨ k = 3 ∨ k = 4 ∨ k = 5 ∨ k = 6 ∨ k = 7 ∨ k = 8 ∨ k = 9 ∨ k = 10 := by omega
  rcases this with rfl | rfl | rfl | rfl | rfl | rfl | rfl | rfl | rfl | rfl | rfl <;> decide
set_option maxRecDepth 100000 in
set_option maxHeartbeats 1000000 in
theorem Text_good (at_ who n : Int) (k : Nat) (w : World) (k1 : 1 ≤ k) (k2 : k ≤ 10) (a1 : 0 ≤ at_) (w1 : 0 ≤ who) (n1 : 0 ≤ n) (a2 : at_ ≤ 9223372036854775807) (w2 : who ≤ 9223372036854775807) (n2 : n ≤ 9223372036854775807) (ht : HT w) :
    Calls Tryd.prog 6 #[.agg #[.int .i64 at_, .int .i64 k, .int .i64 who, .int .i64 n]] w fun r w' => r = .returned (.string ⟨(textL ⟨at_, k, who, n⟩).toArray⟩) ∧ Below w.heap.size w w' := by
  have Ht := Lib.hid ht
  clear ht
  obtain ⟨b, hb⟩ : ∃ b, numbered k = b := ⟨_, rfl⟩
  have Hcut := Lib.hid (fun W => Cut_any (wordsB.getD k []) W (by have := (word_len k k2).1; omega) (wordB k) b rfl hb)
  have Hb := Lib.hid hb
  clear hb
  have hwl := (word_len k k2).2
  have hb0 : Below w.heap.size w ((w.alloc (.cells #[.int .i64 at_, .int .i64 k, .int .i64 who, .int .i64 n] 23)).alloc (.cells wordsC 9)) := ((Below.refl _ _).alloc (Nat.le_refl _) _).alloc (by simp) _
  have hE := (Blk.new w 23 #[.int .i64 at_, .int .i64 k, .int .i64 who, .int .i64 n]).alloc (.cells wordsC 9)
  have hW := Blk.new (w.alloc (.cells #[.int .i64 at_, .int .i64 k, .int .i64 who, .int .i64 n] 23)) 9 wordsC
  simp only [World.size_alloc] at hW
  have hcell := hW.cell k
  rw [wordsC_get k k2] at hcell
  have e0 := hE.cell 0
  have e1 := hE.cell 1
  have e2 := hE.cell 2
  have e3 := hE.cell 3
  simp only [List.getElem?_toArray, List.getElem?_cons_zero, List.getElem?_cons_succ] at e0 e1 e2 e3
  obtain ⟨W, hWd⟩ : ∃ W, (w.alloc (.cells #[.int .i64 at_, .int .i64 k, .int .i64 who, .int .i64 n] 23)).alloc (.cells wordsC 9) = W := ⟨_, rfl⟩
  have Hd := Lib.hid hWd
  rw [hWd] at hb0 hcell e0 e1 e2 e3
  have Hb0 := Lib.hid hb0
  clear hWd hE hW hb0
  generalize wordsB.getD k [] = x at *
  generalize hy : wordB k = y at *
  have Hy := Lib.hid hy
  clear hy
  go_enter Tryd.func6, Tryd.ntmps6
  go_wp2_with fail
  refine (words_any _).mono ?_
  rintro r w' ⟨rfl, rfl⟩
  rw [Hd.out]
  go_wp2_with fail
  refine (Hcut.out _).mono ?_
  rintro r w' ⟨rfl, rfl⟩
  go_wp2_with fail
  have HtW := Lib.hid (Ht.out.below Hb0.out)
  have hwl0 : w.heap.size < W.heap.size := cell_lt e0
  have hkeep : Hid (∀ w', Since W w' → w'.cell? ⟨w.heap.size, 0, none⟩ = some (.int .i64 at_) ∧ w'.cell? ⟨w.heap.size, 2, none⟩ = some (.int .i64 who) ∧ Since W w') :=
    Lib.hid fun w' h => ⟨below_cell h hwl0 e0, below_cell h hwl0 e2, h⟩
  have hs0 : Since W W := Below.refl _ _
  have l1 := itoa_len a1 a2
  have l2 := itoa_len w1 w2
  have l3 := itoa_len n1 n2
  obtain ⟨s1, hs1, q1⟩ := add_named (Lib.itoa at_) [32] _ ⟨#[32]⟩ rfl rfl (by simp; omega)
  obtain ⟨s2, hs2, q2⟩ := add_named _ y s1 _ hs1 rfl (by simp; omega)
  obtain ⟨s3, hs3, q3⟩ := add_named _ [32] s2 ⟨#[32]⟩ hs2 rfl (by simp; omega)
  obtain ⟨s4, hs4, q4⟩ := add_named _ (Lib.itoa who) s3 _ hs3 rfl (by simp; omega)
  have Hs4 := Lib.hid hs4
  clear hs1 hs2 hs3 hs4
  go_region_held3 (fun w' => w'.cell? ⟨w.heap.size, 0, none⟩ = some (.int .i64 at_) ∧ w'.cell? ⟨w.heap.size, 2, none⟩ = some (.int .i64 who) ∧ Since W w')
    (refine hkeep.out _ ?_ <;> first | assumption | exact Below.refl _ _ | exact (Below.refl _ _).drew)
    (first | (go_at_call 18; (with_reducible refine (Format_from W at_ _ a1 a2 HtW.out ?_).mono ?_); (first | assumption | exact Below.refl _ _ | exact (Below.refl _ _).drew); rintro e wb ⟨rfl, hb⟩) | (go_at_call 19; (with_reducible refine (Itoa_from W who _ w1 w2 HtW.out ?_).mono ?_); (first | assumption | exact Below.refl _ _ | exact (Below.refl _ _).drew); rintro e wb ⟨rfl, hb⟩))
  have hbe : Since W _ := hb
  cases b with
  | false =>
    go_wp2
    go_ret
    refine ⟨ret_str ?_, Hb0.out.trans (Below.mono hbe Hb0.out.size)⟩
    rw [Hs4.out, ← Hy.out]
    simp [textL, parts, Hb.out, Lib.join_cons, Lib.joinTail]
  | true =>
    have c3 := below_cell hbe hwl0 e3
    have Hbe := Lib.hid hbe
    have Hkeep := hkeep
    clear hbe hb hkeep hs0 e0 e1 e2 e3
    go_wp2_with fail
    refine (Format_from W n _ n1 n2 HtW.out Hbe.out).mono ?_
    rintro r w5 ⟨rfl, hb5⟩
    obtain ⟨s5, hs5, q5⟩ := add_named [32] (Lib.itoa n) ⟨#[32]⟩ _ rfl rfl (by simp; omega)
    obtain ⟨s6, hs6, q6⟩ := add_named _ _ s4 s5 Hs4.out hs5 (by simp; omega)
    have Hs6 := Lib.hid hs6
    clear hs5 hs6
    go_wp2
    go_ret
    refine ⟨ret_str ?_, Hb0.out.trans (Below.mono hb5 Hb0.out.size)⟩
    rw [Hs6.out, ← Hy.out]
    simp [textL, parts, Hb.out, Lib.join_cons, Lib.joinTail]
theorem Text_any (e : Ev) (he : e.Ok) (w : World) (ht : HT w) :
    Calls Tryd.prog 6 #[.agg #[.int .i64 e.at_, .int .i64 e.kind, .int .i64 e.who, .int .i64 e.n]] w fun r w' => r = .returned (.string ⟨(textE e).toArray⟩) ∧ Below w.heap.size w w' := by
  cases h : e.valid with
  | false =>
    refine (Text_bad e w h).mono fun r w' hh => ⟨hh.1.trans (ret_str ?_), hh.2⟩
    simp [textE, h]
  | true =>
    obtain ⟨k1, k2, k3, k4, k5⟩ := Ev.valid_iff.1 h
    have b1 := bounds_i64 he.at_
    have b2 := bounds_i64 he.who
    have b3 := bounds_i64 he.n
    obtain ⟨at_, kind, who, n⟩ := e
    dsimp only at k1 k2 k3 k4 k5 b1 b2 b3
    obtain ⟨k, rfl⟩ := Int.eq_ofNat_of_zero_le (a := kind) (by omega)
    refine (Text_good at_ who n k w (by omega) (by omega) k3 k4 k5 b1.2 b2.2 b3.2 ht).mono fun r w' hh => ⟨hh.1.trans (ret_str ?_), hh.2⟩
    simp [textE, h]
end Go.Proofs.YtommmfncaadbeaaDoor
