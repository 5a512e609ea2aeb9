/-
  NoteApart, walked.
-/
import Derived.Test.YtommmfncaadbeaaDoorN6
namespace Go.Proofs.YtommmfncaadbeaaDoor
open Go.RowKit
attribute [local go_sem ↓] Go.wp_at_zero Go.wp_at_succ

theorem ev_ext {x y : Ev} (h1 : x.at_ = y.at_) (h2 : x.kind = y.kind) (h3 : x.who = y.who) (h4 : x.n = y.n) : x = y := by
  cases x; cases y; simp_all
theorem Text_from (W : World) (e : Ev) (he : e.Ok) (w : World) (ht : HT W) (hs : Since W w) :
    Calls Tryd.prog 6 #[.agg #[.int .i64 e.at_, .int .i64 e.kind, .int .i64 e.who, .int .i64 e.n]] w fun r w' => r = .returned (.string ⟨(textE e).toArray⟩) ∧ Since W w' :=
  (Text_any e he w (ht.below hs)).mono fun _ _ h => ⟨h.1, hs.step h.2⟩
theorem textE_len {e : Ev} (he : e.Ok) : (textE e).length ≤ 1000 := by
  unfold textE
  split
  · rename_i h
    obtain ⟨k1, k2, k3, k4, k5⟩ := Ev.valid_iff.1 h
    have l1 := itoa_len k3 (bounds_i64 he.at_).2
    have l2 := itoa_len k4 (bounds_i64 he.who).2
    have l3 := itoa_len k5 (bounds_i64 he.n).2
    have l4 := (word_len e.kind.toNat (by omega)).2
    unfold textL parts
    split <;> simp [Lib.join_cons, Lib.joinTail] <;> omega
  · simp
theorem apart_iff {a b : Ev} (ha : a.Ok) (hb : b.Ok) (h1 : textE a ≠ []) (h2 : textE b ≠ []) : textE a = textE b ↔ canon a = canon b := by
  have v1 := textE_valid h1
  have v2 := textE_valid h2
  have a1 := bounds_i64 ha.at_
  have a2 := bounds_i64 ha.who
  have a3 := bounds_i64 ha.n
  have b1 := bounds_i64 hb.at_
  have b2 := bounds_i64 hb.who
  have b3 := bounds_i64 hb.n
  have e1 : textE a = textL a := by simp [textE, v1]
  have e2 : textE b = textL b := by simp [textE, v2]
  constructor
  · intro h
    rw [e1, e2] at h
    have p1 := parse_text v1 (by omega) (by omega) (by omega)
    have p2 := parse_text v2 (by omega) (by omega) (by omega)
    rw [h, p2] at p1
    exact (Option.some.inj p1).symm
  · intro h
    rw [e1, e2, ← textE_canon v1, ← textE_canon v2, h]
theorem parse_textE {a : Ev} (ha : a.Ok) (h1 : textE a ≠ []) : parseE (textE a) = some (canon a) := by
  have v1 := textE_valid h1
  have a1 := bounds_i64 ha.at_
  have a2 := bounds_i64 ha.who
  have a3 := bounds_i64 ha.n
  rw [show textE a = textL a by simp [textE, v1]]
  exact parse_text v1 (by omega) (by omega) (by omega)
theorem Parse_known (s : List UInt8) (e : Ev) (w : World) (hl : s.length ≤ 1000) (hp : parseE s = some e) (ht : HT w) :
    Calls Tryd.prog 7 #[.string ⟨s.toArray⟩] w fun r w' => r = .returned (.tuple #[.agg #[.int .i64 e.at_, .int .i64 e.kind, .int .i64 e.who, .int .i64 e.n], .bool true]) ∧ Below w.heap.size w w' := by
  refine (Parse_any ⟨s.toArray⟩ w (by rw [size_mk]; omega) ht).mono fun r w' h => ?_
  obtain ⟨h1, h2⟩ := h
  rw [show (⟨s.toArray⟩ : ByteArray).data.toList = s by simp, hp] at h2
  exact ⟨h2, h1⟩
set_option maxRecDepth 100000 in
set_option maxHeartbeats 1000000 in
theorem apart_walk (w : World) (a b : Ev) (ha : a.Ok) (hb : b.Ok) (ht : HT w) :
    Calls Tryd.prog 3 #[.agg #[.int .i64 a.at_, .int .i64 a.kind, .int .i64 a.who, .int .i64 a.n], .agg #[.int .i64 b.at_, .int .i64 b.kind, .int .i64 b.who, .int .i64 b.n]] w fun e w' => e = .returned (.bool true) ∧ Below w.heap.size w w' := by
  have Ht := Lib.hid ht
  have Ha := Lib.hid ha
  have Hb := Lib.hid hb
  clear ht ha hb
  have hb0 : Below w.heap.size w ((w.alloc (.cells #[.int .i64 a.at_, .int .i64 a.kind, .int .i64 a.who, .int .i64 a.n] 23)).alloc (.cells #[.int .i64 b.at_, .int .i64 b.kind, .int .i64 b.who, .int .i64 b.n] 23)) := ((Below.refl _ _).alloc (Nat.le_refl _) _).alloc (by simp) _
  have hA0 := (Blk.new w 23 #[.int .i64 a.at_, .int .i64 a.kind, .int .i64 a.who, .int .i64 a.n]).alloc (.cells #[.int .i64 b.at_, .int .i64 b.kind, .int .i64 b.who, .int .i64 b.n] 23)
  have hB0 := Blk.new (w.alloc (.cells #[.int .i64 a.at_, .int .i64 a.kind, .int .i64 a.who, .int .i64 a.n] 23)) 23 #[.int .i64 b.at_, .int .i64 b.kind, .int .i64 b.who, .int .i64 b.n]
  simp only [World.size_alloc] at hB0
  go_enter Tryd.func3, Tryd.ntmps3
  go_wp2_with fail
  refine (awake_any _ (Ht.out.below hb0)).mono ?_
  rintro r w1 ⟨rfl, hb1⟩
  have hA1 := hA0.below hb1 hA0.lt
  have hB1 := hB0.below hb1 hB0.lt
  have hb1' := hb0.trans (hb1.mono hb0.size)
  have a0 := hA1.cell 0
  have a1 := hA1.cell 1
  have a2 := hA1.cell 2
  have a3 := hA1.cell 3
  have b0 := hB1.cell 0
  have b1 := hB1.cell 1
  have b2 := hB1.cell 2
  have b3 := hB1.cell 3
  simp only [List.getElem?_toArray, List.getElem?_cons_zero, List.getElem?_cons_succ] at a0 a1 a2 a3 b0 b1 b2 b3
  have la := hA1.lt
  have lb := hB1.lt
  have HA1 := Lib.hid hA1
  have HB1 := Lib.hid hB1
  have Hb1 := Lib.hid hb1'
  have Ht1 := Lib.hid (Ht.out.below hb1')
  clear hA0 hB0 hA1 hB1 hb0 hb1 hb1'
  go_wp2_with fail
  have hkeep : Hid (∀ w', Since w1 w' → (w'.cell? ⟨w.heap.size, 0, none⟩ = some (.int .i64 a.at_) ∧ w'.cell? ⟨w.heap.size, 1, none⟩ = some (.int .i64 a.kind) ∧ w'.cell? ⟨w.heap.size, 2, none⟩ = some (.int .i64 a.who) ∧ w'.cell? ⟨w.heap.size, 3, none⟩ = some (.int .i64 a.n)) ∧
      (w'.cell? ⟨w.heap.size + 1, 0, none⟩ = some (.int .i64 b.at_) ∧ w'.cell? ⟨w.heap.size + 1, 1, none⟩ = some (.int .i64 b.kind) ∧ w'.cell? ⟨w.heap.size + 1, 2, none⟩ = some (.int .i64 b.who) ∧ w'.cell? ⟨w.heap.size + 1, 3, none⟩ = some (.int .i64 b.n)) ∧ Since w1 w') :=
    Lib.hid fun w' h => ⟨⟨below_cell h la a0, below_cell h la a1, below_cell h la a2, below_cell h la a3⟩, ⟨below_cell h lb b0, below_cell h lb b1, below_cell h lb b2, below_cell h lb b3⟩, h⟩
  have hs0 : Since w1 w1 := Below.refl _ _
  go_region_held3 (fun w' => (w'.cell? ⟨w.heap.size, 0, none⟩ = some (.int .i64 a.at_) ∧ w'.cell? ⟨w.heap.size, 1, none⟩ = some (.int .i64 a.kind) ∧ w'.cell? ⟨w.heap.size, 2, none⟩ = some (.int .i64 a.who) ∧ w'.cell? ⟨w.heap.size, 3, none⟩ = some (.int .i64 a.n)) ∧
      (w'.cell? ⟨w.heap.size + 1, 0, none⟩ = some (.int .i64 b.at_) ∧ w'.cell? ⟨w.heap.size + 1, 1, none⟩ = some (.int .i64 b.kind) ∧ w'.cell? ⟨w.heap.size + 1, 2, none⟩ = some (.int .i64 b.who) ∧ w'.cell? ⟨w.heap.size + 1, 3, none⟩ = some (.int .i64 b.n)) ∧ Since w1 w')
    (refine hkeep.out _ ?_ <;> first | assumption | exact Below.refl _ _ | exact (Below.refl _ _).drew)
    (first | (go_at_call 6; (with_reducible refine (Text_from w1 a Ha.out _ Ht1.out ?_).mono ?_); (first | assumption | exact Below.refl _ _ | exact (Below.refl _ _).drew); rintro e wb ⟨rfl, hb⟩) | (go_at_call 6; (with_reducible refine (Text_from w1 b Hb.out _ Ht1.out ?_).mono ?_); (first | assumption | exact Below.refl _ _ | exact (Below.refl _ _).drew); rintro e wb ⟨rfl, hb⟩))
  have hbs : Since w1 wb := hb
  obtain ⟨⟨a0, a1, a2, a3⟩, ⟨b0, b1, b2, b3⟩, _⟩ := hkeep.out wb hbs
  have HA2 := Lib.hid (HA1.out.below hbs HA1.out.lt)
  have HB2 := Lib.hid (HB1.out.below hbs HB1.out.lt)
  have Hb2 := Lib.hid (Hb1.out.trans (hbs.mono Hb1.out.size))
  have Ht2 := Lib.hid (Ht1.out.below hbs)
  clear hbs hb hkeep hs0
  by_cases hA : textE a = []
  · have d1 : (textE a).isEmpty = true := by rw [hA]; rfl
    have HhA := Lib.hid hA
    clear hA
    go_wp2
    go_ret
    exact ⟨rfl, Hb2.out⟩
  have d1 : (textE a).isEmpty = false := by simpa using hA
  by_cases hB : textE b = []
  · have d2 : (textE b).isEmpty = true := by rw [hB]; rfl
    have HhB := Lib.hid hB
    have HhA := Lib.hid hA
    clear hB hA
    go_wp2
    go_ret
    exact ⟨rfl, Hb2.out⟩
  have d2 : (textE b).isEmpty = false := by simpa using hB
  have hiff := apart_iff Ha.out Hb.out hA hB
  have Hpa := Lib.hid (parse_textE Ha.out hA)
  have Hpb := Lib.hid (parse_textE Hb.out hB)
  have hla := textE_len Ha.out
  have hlb := textE_len Hb.out
  have hab : a = b → textE a = textE b := fun h => by rw [h]
  clear hA hB
  obtain ⟨x, hx⟩ : ∃ x, canon a = x := ⟨_, rfl⟩
  obtain ⟨y, hy⟩ : ∃ y, canon b = y := ⟨_, rfl⟩
  rw [hx] at Hpa hiff
  rw [hy] at Hpb hiff
  clear hx hy
  by_cases hxy : x = y
  · have q1 : (textE a == textE b) = true := by rw [hiff.2 hxy]; simp
    subst hxy
    clear hiff hab
    go_wp2_with fail
    refine (Parse_known (textE a) x _ hla Hpa.out Ht2.out).mono ?_
    rintro r w3 ⟨rfl, hb3⟩
    have hA3 := (HA2.out.below hb3 HA2.out.lt).alloc (.cells #[.int .i64 x.at_, .int .i64 x.kind, .int .i64 x.who, .int .i64 x.n] 23)
    have hB3 := (HB2.out.below hb3 HB2.out.lt).alloc (.cells #[.int .i64 x.at_, .int .i64 x.kind, .int .i64 x.who, .int .i64 x.n] 23)
    have hX3 := Blk.new w3 23 #[.int .i64 x.at_, .int .i64 x.kind, .int .i64 x.who, .int .i64 x.n]
    have ht3 := (Ht2.out.below hb3).below ((Below.refl _ w3).alloc (Nat.le_refl _) (.cells #[.int .i64 x.at_, .int .i64 x.kind, .int .i64 x.who, .int .i64 x.n] 23))
    have hbw3 := Hb2.out.trans (hb3.mono Hb2.out.size)
    have hbw3' := hbw3.alloc hbw3.size (.cells #[.int .i64 x.at_, .int .i64 x.kind, .int .i64 x.who, .int .i64 x.n] 23)
    have HA3 := Lib.hid hA3
    have HB3 := Lib.hid hB3
    have HX3 := Lib.hid hX3
    have Ht3 := Lib.hid ht3
    have Hb3 := Lib.hid hbw3'
    clear hA3 hB3 hX3 ht3 hbw3 hbw3' hb3 a0 a1 a2 a3 b0 b1 b2 b3
    go_wp2_with fail
    refine (Parse_known (textE b) x _ hlb Hpb.out Ht3.out).mono ?_
    rintro r w4 ⟨rfl, hb4⟩
    have hA4 := (HA3.out.below hb4 HA3.out.lt).alloc (.cells #[.int .i64 x.at_, .int .i64 x.kind, .int .i64 x.who, .int .i64 x.n] 23)
    have hB4 := (HB3.out.below hb4 HB3.out.lt).alloc (.cells #[.int .i64 x.at_, .int .i64 x.kind, .int .i64 x.who, .int .i64 x.n] 23)
    have hX4 := (HX3.out.below hb4 HX3.out.lt).alloc (.cells #[.int .i64 x.at_, .int .i64 x.kind, .int .i64 x.who, .int .i64 x.n] 23)
    have hb4' := Hb3.out.trans (hb4.mono Hb3.out.size)
    have Hb4 := Lib.hid (hb4'.alloc hb4'.size (.cells #[.int .i64 x.at_, .int .i64 x.kind, .int .i64 x.who, .int .i64 x.n] 23))
    have a0 := hA4.cell 0
    have a1 := hA4.cell 1
    have a2 := hA4.cell 2
    have a3 := hA4.cell 3
    have b0 := hB4.cell 0
    have b1 := hB4.cell 1
    have b2 := hB4.cell 2
    have b3 := hB4.cell 3
    have x0 := hX4.cell 0
    have x1 := hX4.cell 1
    have x2 := hX4.cell 2
    have x3 := hX4.cell 3
    simp only [List.getElem?_toArray, List.getElem?_cons_zero, List.getElem?_cons_succ] at a0 a1 a2 a3 b0 b1 b2 b3 x0 x1 x2 x3
    clear hA4 hB4 hX4 hb4 hb4'
    go_wp2_with fail
    all_goals
      go_ret
      exact ⟨rfl, Hb4.out⟩
  · have q1 : (textE a == textE b) = false := by
      rw [beq_eq_false_iff_ne]
      exact fun h => hxy (hiff.1 h)
    have hne : a ≠ b := fun h => hxy (hiff.1 (hab h))
    have Hne := Lib.hid hne
    have Hxy := Lib.hid hxy
    clear hiff hab hxy hne
    go_wp2_with fail
    refine (Parse_known (textE a) x _ hla Hpa.out Ht2.out).mono ?_
    rintro r w3 ⟨rfl, hb3⟩
    have hA3 := (HA2.out.below hb3 HA2.out.lt).alloc (.cells #[.int .i64 x.at_, .int .i64 x.kind, .int .i64 x.who, .int .i64 x.n] 23)
    have hB3 := (HB2.out.below hb3 HB2.out.lt).alloc (.cells #[.int .i64 x.at_, .int .i64 x.kind, .int .i64 x.who, .int .i64 x.n] 23)
    have hX3 := Blk.new w3 23 #[.int .i64 x.at_, .int .i64 x.kind, .int .i64 x.who, .int .i64 x.n]
    have ht3 := (Ht2.out.below hb3).below ((Below.refl _ w3).alloc (Nat.le_refl _) (.cells #[.int .i64 x.at_, .int .i64 x.kind, .int .i64 x.who, .int .i64 x.n] 23))
    have hbw3 := Hb2.out.trans (hb3.mono Hb2.out.size)
    have hbw3' := hbw3.alloc hbw3.size (.cells #[.int .i64 x.at_, .int .i64 x.kind, .int .i64 x.who, .int .i64 x.n] 23)
    have HA3 := Lib.hid hA3
    have HB3 := Lib.hid hB3
    have HX3 := Lib.hid hX3
    have Ht3 := Lib.hid ht3
    have Hb3 := Lib.hid hbw3'
    clear hA3 hB3 hX3 ht3 hbw3 hbw3' hb3 a0 a1 a2 a3 b0 b1 b2 b3
    go_wp2_with fail
    refine (Parse_known (textE b) y _ hlb Hpb.out Ht3.out).mono ?_
    rintro r w4 ⟨rfl, hb4⟩
    have hA4 := (HA3.out.below hb4 HA3.out.lt).alloc (.cells #[.int .i64 y.at_, .int .i64 y.kind, .int .i64 y.who, .int .i64 y.n] 23)
    have hB4 := (HB3.out.below hb4 HB3.out.lt).alloc (.cells #[.int .i64 y.at_, .int .i64 y.kind, .int .i64 y.who, .int .i64 y.n] 23)
    have hX4 := (HX3.out.below hb4 HX3.out.lt).alloc (.cells #[.int .i64 y.at_, .int .i64 y.kind, .int .i64 y.who, .int .i64 y.n] 23)
    have hb4' := Hb3.out.trans (hb4.mono Hb3.out.size)
    have Hb4 := Lib.hid (hb4'.alloc hb4'.size (.cells #[.int .i64 y.at_, .int .i64 y.kind, .int .i64 y.who, .int .i64 y.n] 23))
    have a0 := hA4.cell 0
    have a1 := hA4.cell 1
    have a2 := hA4.cell 2
    have a3 := hA4.cell 3
    have b0 := hB4.cell 0
    have b1 := hB4.cell 1
    have b2 := hB4.cell 2
    have b3 := hB4.cell 3
    have x0 := hX4.cell 0
    have x1 := hX4.cell 1
    have x2 := hX4.cell 2
    have x3 := hX4.cell 3
    simp only [List.getElem?_toArray, List.getElem?_cons_zero, List.getElem?_cons_succ] at a0 a1 a2 a3 b0 b1 b2 b3 x0 x1 x2 x3
    clear hA4 hB4 hX4 hb4 hb4'
    go_wp2_with fail
    all_goals
      first
        | (go_ret; exact ⟨rfl, Hb4.out⟩)
        | exact absurd (ev_ext (by assumption) (by assumption) (by assumption) (by assumption)) Hxy.out
        | exact absurd (ev_ext (by assumption) (by assumption) (by assumption) (by assumption)) Hne.out
end Go.Proofs.YtommmfncaadbeaaDoor
