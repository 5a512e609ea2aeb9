/-
  The laws' awake and ProgBack, walked.
-/
import Derived.Test.YtnlmpkcninhnfaaDoorP4
namespace Go.Proofs.YtnlmpkcninhnfaaDoor
open Go.RowKit

/-! ### contracts from a world W on -/
def Since (W w : World) : Prop := Below W.heap.size W w
theorem Since.refl (W : World) : Since W W := Below.refl _ _
theorem Since.step {W w w' : World} (h : Since W w) (k : Below w.heap.size w w') : Since W w' := Below.trans h (k.mono h.size)
theorem Since.below {W w : World} (h : Since W w) : Below W.heap.size W w := h

theorem Pg_blk {w : World} {g : Nat} {l : List (Int × Int)} {cs : Array Value} (h : Blk w g 48 cs) (hc : cs.toList = flat l) : Pg w w.heap.size (some ⟨g, 0, none⟩) l := by
  refine ⟨by rw [flat_length], fun _ => ⟨_, rfl, h.lt, fun j u hu => ?_⟩⟩
  rw [← hc] at hu
  have e : (⟨g, 0, none⟩ : Addr).add j = ⟨g, j, none⟩ := by unfold Addr.add; split <;> simp_all
  rw [e, h.cell j]
  simpa using hu
theorem Pg_own {w : World} {base n : Nat} {e : TypeId} {A : Option Addr} {c : Nat} {l : List (Int × Int)} (h : w.ownsRow base e 2 (.slice A n c) n (flat l)) (hn : n = l.length) : Pg w w.heap.size A l := by
  subst hn
  exact Reads.of_own h
theorem Parse_from (W : World) (s : ByteArray) (p : List (Int × Int)) (w : World) (hs : s.size < 4294967281) (ht : HT W) (hw : Since W w) (h : parseG s.data.toList = some p) :
    Calls Tryd.prog 9 #[.string s] w fun e w' => ∃ A c, e = .returned (.tuple #[.slice A p.length c, .bool true]) ∧ Pg w' w'.heap.size A p ∧ p.length ≤ 9 ∧ Below w.heap.size w w' ∧ Since W w' :=
  (Parse_any s w hs (ht.below hw)).mono fun e w' hh => by
    obtain ⟨hb, hm⟩ := hh
    rw [h] at hm
    obtain ⟨A, c, he, hp, hl⟩ := hm
    exact ⟨A, c, he, hp, hl, hb, hw.step hb⟩
theorem Text_from (W : World) (A : Option Addr) (l : List (Int × Int)) (c B : Nat) (w : World) (hl : l.length ≤ 4611686018427387904) (hB : B ≤ w.heap.size) (hp : Pg w B A l) (ht : HT W) (hw : Since W w) :
    Calls Tryd.prog 10 #[.slice A l.length c] w fun e w' => e = .returned (.string ⟨(textG l).toArray⟩) ∧ Below w.heap.size w w' ∧ Since W w' :=
  (Text_any A l c B w hl hB hp (ht.below hw)).mono fun _ _ h => ⟨h.1, h.2, hw.step h.2⟩
def demo : List (Int × Int) := [(0, 3), (1, 2)]
theorem demo_text : (⟨(textL demo).toArray⟩ : ByteArray) = ⟨#[51, 43, 50, 64, 49]⟩ := by
  simp [demo, textL, stepB, Lib.join_cons, Lib.joinTail, Lib.itoa, Lib.decDigits]
theorem demo_good : good demo = true := by decide +kernel
theorem demo_parse : parseG (⟨#[51, 43, 50, 64, 49]⟩ : ByteArray).data.toList = some demo := by
  rw [parseG_some]
  refine ⟨demo_good, ?_⟩
  have h := demo_text
  have h2 := congrArg (fun b : ByteArray => b.data.toList) h
  simpa using h2

set_option maxRecDepth 100000 in
set_option maxHeartbeats 4000000 in
theorem awake_any (w : World) (ht : HT w) : Calls Tryd.prog 7 #[] w fun e w' => e = .returned (.bool true) ∧ Below w.heap.size w w' := by
  have Ht := Lib.hid ht
  clear ht
  have hk := Blk.new w 48 #[.int .i64 0, .int .i64 3, .int .i64 1, .int .i64 2]
  have hb0 : Below w.heap.size w (w.alloc (.cells #[.int .i64 0, .int .i64 3, .int .i64 1, .int .i64 2] 48)) := (Below.refl _ _).alloc (Nat.le_refl _) _
  go_enter Tryd.func7, Tryd.ntmps7
  go_wp2_with fail
  obtain ⟨W0, hW0⟩ : ∃ W0 : World, w.alloc (.cells #[.int .i64 0, .int .i64 3, .int .i64 1, .int .i64 2] 48) = W0 := ⟨_, rfl⟩
  rw [hW0] at hk hb0 ⊢
  clear hW0
  have hp := Pg_blk (l := demo) hk rfl
  have H0 := Lib.hid (Ht.out.below hb0)
  clear hk
  refine (Parse_from W0 _ demo _ (by decide) H0.out (Since.refl _) demo_parse).mono ?_
  rintro e w1 ⟨A1, c1, rfl, hp1, -, hb1, hs1⟩
  have hpw1 := hp.below hb1
  go_wp2_with fail
  refine (Text_from W0 _ demo _ W0.heap.size _ (by decide) hb1.size hpw1 H0.out hs1).mono ?_
  rintro e w2 ⟨rfl, hb2, hs2⟩
  rw [show (⟨(textG demo).toArray⟩ : ByteArray) = ⟨#[51, 43, 50, 64, 49]⟩ by rw [textG, demo_good, if_pos rfl, demo_text]]
  go_wp2_with fail
  have hpw2 := hp.below hs2
  refine (own_any _ demo _ W0.heap.size _ (by decide) hs2.below.size hpw2).mono ?_
  rintro e w3 ⟨r3, rfl, ho3, hb3⟩
  obtain ⟨A3, c3, hu3⟩ := own_val ho3
  subst hu3
  have hs3 := hs2.step hb3
  have hp3 := Pg_own ho3 rfl
  have hp13 := Pg.below (Reads.more (Reads.below hp1 hb2) hb2.size : Pg w2 w2.heap.size A1 demo) hb3
  go_wp2_with fail
  refine (same_any A1 A3 demo demo _ _ _ _ true (by decide) _ (by decide) hp13 hp3).mono ?_
  rintro e w4 ⟨rfl, hb4⟩
  have hs4 := hs3.step hb4
  go_wp2_with fail
  refine (Good_any _ demo _ W0.heap.size true demo_good _ hs4.below.size (by decide) (hp.below hs4)).mono ?_
  rintro e w5 ⟨rfl, hb5⟩
  have hs5 := hs4.step hb5
  go_wp2_with fail
  refine (Total_good _ demo _ W0.heap.size _ demo_good hs5.below.size (hp.below hs5)).mono ?_
  rintro e w6 ⟨rfl, hb6⟩
  have hs6 := hs5.step hb6
  rw [show sumN demo = 5 by decide]
  go_wp2
  go_ret
  exact ⟨rfl, hb0.trans (hs6.below.mono hb0.size)⟩

theorem sumN_ge : ∀ (l : List (Int × Int)), (∀ x ∈ l, 1 ≤ x.2) → (l.length : Int) ≤ sumN l
  | [], _ => by simp [sumN]
  | x :: l, h => by
    have ih := sumN_ge l fun y hy => h y (List.mem_cons_of_mem _ hy)
    have hx := h x (by simp)
    simp only [sumN, List.map_cons, List.sum_cons, List.length_cons] at ih ⊢
    omega
theorem parse_text {l : List (Int × Int)} (hg : good l = true) : parseG (⟨(textG l).toArray⟩ : ByteArray).data.toList = some l := by
  rw [parseG_some]
  refine ⟨hg, ?_⟩
  rw [textG, if_pos hg]
theorem text_size {l : List (Int × Int)} (hg : good l = true) : (⟨(textG l).toArray⟩ : ByteArray).size < 4294967281 := by
  rw [size_mk, textG, if_pos hg]
  have h := text_len l fun x hx => good_mem hg hx
  have h8 := (good_parts hg).2.1
  omega

set_option maxRecDepth 100000 in
set_option maxHeartbeats 4000000 in
theorem back_yes (A : Option Addr) (l : List (Int × Int)) (c : Nat) (w : World) (hg : good l = true) (hp : Pg w w.heap.size A l) (ht : HT w) :
    Calls Tryd.prog 3 #[.slice A l.length c] w fun e w' => e = .returned (.bool true) ∧ Below w.heap.size w w' := by
  obtain ⟨hl1, hl8, _⟩ := good_parts hg
  have Ht := Lib.hid ht
  have Hg := Lib.hid hg
  have hsum := sumN_ge l fun x hx => (good_mem hg hx).2.2.1
  have d1 : decide (20 < (l.length : Int)) = false := by simp; omega
  have d2 : (sumN l == sumN l) = true := by simp
  have d3 : decide ((l.length : Int) ≤ sumN l) = true := by simpa using hsum
  clear ht hg
  go_enter Tryd.func3, Tryd.ntmps3
  go_wp2_with fail
  refine (awake_any _ Ht.out).mono ?_
  rintro e w1 ⟨rfl, hb1⟩
  have hs1 : Since w w1 := hb1
  go_wp2_with fail
  refine (Good_any A l c w.heap.size true Hg.out _ hs1.below.size (by omega) (hp.below hs1)).mono ?_
  rintro e w2 ⟨rfl, hb2⟩
  have hs2 := hs1.step hb2
  go_wp2_with fail
  refine (Text_from w A l c w.heap.size _ (by omega) hs2.below.size (hp.below hs2) Ht.out hs2).mono ?_
  rintro e w3 ⟨rfl, hb3, hs3⟩
  go_wp2_with fail
  refine (Parse_from w _ l _ (text_size Hg.out) Ht.out hs3 (parse_text Hg.out)).mono ?_
  rintro e w4 ⟨A4, c4, rfl, hp4, -, hb4, hs4⟩
  go_wp2_with fail
  refine (own_any A l c w.heap.size _ (by omega) hs4.below.size (hp.below hs4)).mono ?_
  rintro e w5 ⟨r5, rfl, ho5, hb5⟩
  obtain ⟨A5, c5, hu5⟩ := own_val ho5
  subst hu5
  have hs5 := hs4.step hb5
  have hp5 := Pg_own ho5 rfl
  have hp45 := hp4.below hb5
  go_wp2_with fail
  refine (same_any A4 A5 l l _ _ _ _ true (by simp) _ (by omega) hp45 hp5).mono ?_
  rintro e w6 ⟨rfl, hb6⟩
  have hs6 := hs5.step hb6
  have hp46 := Pg.below (Reads.more hp45 hb5.size : Pg w5 w5.heap.size A4 l) hb6
  go_wp2_with fail
  refine (Total_good A4 l c4 w5.heap.size _ Hg.out hb6.size hp46).mono ?_
  rintro e w7 ⟨rfl, hb7⟩
  have hs7 := hs6.step hb7
  go_wp2_with fail
  refine (Total_good A l c w.heap.size _ Hg.out hs7.below.size (hp.below hs7)).mono ?_
  rintro e w8 ⟨rfl, hb8⟩
  have hs8 := hs7.step hb8
  go_wp2_with fail
  refine (Total_good A l c w.heap.size _ Hg.out hs8.below.size (hp.below hs8)).mono ?_
  rintro e w9 ⟨rfl, hb9⟩
  have hs9 := hs8.step hb9
  go_wp2
  go_ret
  exact ⟨rfl, hs9⟩
set_option maxRecDepth 100000 in
theorem back_no (A : Option Addr) (l : List (Int × Int)) (c : Nat) (w : World) (hg : good l = false) (hl : l.length ≤ 4611686018427387904) (hp : Pg w w.heap.size A l) (ht : HT w) :
    Calls Tryd.prog 3 #[.slice A l.length c] w fun e w' => e = .returned (.bool true) ∧ Below w.heap.size w w' := by
  have Ht := Lib.hid ht
  have Hg := Lib.hid hg
  clear ht hg
  by_cases h20 : 20 < l.length
  · have d1 : decide (20 < (l.length : Int)) = true := by simp; omega
    go_enter Tryd.func3, Tryd.ntmps3
    go_wp2_with fail
    refine (awake_any _ Ht.out).mono ?_
    rintro e w1 ⟨rfl, hb1⟩
    go_wp2
    go_ret
    exact ⟨rfl, hb1⟩
  · have d1 : decide (20 < (l.length : Int)) = false := by simp; omega
    go_enter Tryd.func3, Tryd.ntmps3
    go_wp2_with fail
    refine (awake_any _ Ht.out).mono ?_
    rintro e w1 ⟨rfl, hb1⟩
    have hs1 : Since w w1 := hb1
    go_wp2_with fail
    refine (Good_any A l c w.heap.size false Hg.out _ hs1.below.size hl (hp.below hs1)).mono ?_
    rintro e w2 ⟨rfl, hb2⟩
    go_wp2
    go_ret
    exact ⟨rfl, hs1.step hb2⟩
theorem back_any (A : Option Addr) (l : List (Int × Int)) (c : Nat) (w : World) (hl : l.length ≤ 4611686018427387904) (hp : Pg w w.heap.size A l) (ht : HT w) :
    Calls Tryd.prog 3 #[.slice A l.length c] w fun e w' => e = .returned (.bool true) ∧ Below w.heap.size w w' := by
  cases hg : good l
  · exact back_no A l c w hg hl hp ht
  · exact back_yes A l c w hg hp ht
end Go.Proofs.YtnlmpkcninhnfaaDoor
