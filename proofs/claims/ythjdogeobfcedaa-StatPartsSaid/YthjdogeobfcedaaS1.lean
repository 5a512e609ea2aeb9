/-
  What is known of one, in memory; done.
-/
import Derived.Test.YthjdogeobfcedaaS0
import Derived.Maps.Own
import Derived.Maps.OwnOps
import Derived.Maps.OwnSet
import Derived.Deep.QuietTactic
import Derived.BigQuiet
import Derived.IntWalk
import Derived.OneCell
import Derived.Lib.BufferMore
namespace Go.Proofs.Ythjdogeobfcedaa
open Go.RowKit Go.Maps

structure Own where
  r : Int
  d : Int
  a : Int
  wa : Int
  t : Int
  gr : Int
  de : Int
  ga : Int
  wk : Int
  op : Int
  wo : Int
  su : Int
  since : DataW Unit
  times : List Int
def Own.cells (x : Own) (bs : Nat) (tv : Value) : Array Value :=
  #[.int .i64 x.r, .int .i64 x.d, .int .i64 x.a, .int .i64 x.wa, .int .i64 x.t, .int .i64 x.gr, .int .i64 x.de, .int .i64 x.ga, .int .i64 x.wk, .int .i64 x.op, .int .i64 x.wo, .int .i64 x.su, .map (some bs), tv]
theorem law2 : Keyed Try.prog 2 := int_keyed Try.underlying2
theorem law3 : Keyed Try.prog 3 := int_keyed Try.underlying3
theorem zero2 (w : World) : (zeroValue 2).run Try.prog w = .ok (.int .i64 0) w := by kernel_rfl
structure OwnAt (w : World) (g bs : Nat) (tv : Value) (n : Nat) (x : Own) : Prop where
  blk : Blk w g 44 (x.cells bs tv)
  map : w.ownsMap Try.prog 2 (plainElem Try.prog 2) bs n x.since
  row : w.ownsRow 0 2 1 tv x.times.length (x.times.map (Value.int .i64))
  ne : bs ≠ g ∧ tv.ownBlock ≠ some g
theorem OwnAt.keep {w w' : World} {g bs : Nat} {tv : Value} {n : Nat} {x : Own} (h : OwnAt w g bs tv n x) (hb : Below w.heap.size w w') : OwnAt w' g bs tv n x := by
  refine ⟨?_, ?_, own_below h.row hb, h.ne⟩
  · exact (hb.block _ h.blk.lt).trans h.blk
  · obtain ⟨es, clock, hk, F, hs, hD⟩ := h.map
    exact ⟨es, clock, (hb.block _ (World.ownsMap.lt h.map)).trans hk, F, hs, hD⟩
theorem OwnAt.cell {w : World} {g bs : Nat} {tv : Value} {n : Nat} {x : Own} (h : OwnAt w g bs tv n x) (i : Nat) : w.cell? ⟨g, i, none⟩ = (x.cells bs tv)[i]? := h.blk.cell i
/-- what 'at, ok := x.since[num]' gives -/
theorem OwnAt.since {w : World} {g bs : Nat} {tv : Value} {n : Nat} {x : Own} (h : OwnAt w g bs tv n x) (num : Int) (hw : (Lit.int .i64 num).wf = true) :
    ∃ c, (Instr.lookup 41 (.map (some bs)) (.int .i64 num) true).run Try.prog w = .ok (.tuple #[.int .i64 c, .bool (Maps.has x.since (.int .i64 num))]) w ∧
      x.since.atKey (.int .i64 num) (.lit (.int .i64 0)) = .lit (.int .i64 c) ∧ (Lit.int .i64 c).wf = true := by
  obtain ⟨v, ps, hrun, hv⟩ := h.map.look_ok law2 Try.underlying41 (zero2 w) (plainElem_int Try.underlying2 (by decide)) (keyOf_int_mk Try.underlying2 hw)
  obtain ⟨c, rfl, hc, hwc⟩ := plainElem_int_inv Try.underlying2 hv
  simp only [Prod.mk.injEq] at hc
  exact ⟨c, hrun, hc.1, hwc⟩
/-- done finds no time: nothing turns -/
theorem done_none (w : World) (g bs : Nat) (tv : Value) (n : Nat) (x : Own) (at_ k who num : Int) (h : OwnAt w g bs tv n x) (hw : (Lit.int .i64 num).wf = true) (hno : Maps.has x.since (.int .i64 num) = false) :
    Calls Try.prog 14 #[.pointer (some ⟨g, 0, none⟩), .agg #[.int .i64 at_, .int .i64 k, .int .i64 who, .int .i64 num]] w fun e w' => e = .returned (.tuple #[]) ∧ Below w.heap.size w w' := by
  have hb0 : Below w.heap.size w (w.alloc (.cells #[.int .i64 at_, .int .i64 k, .int .i64 who, .int .i64 num] 35)) := (Below.refl _ _).alloc (Nat.le_refl _) _
  have hk0 := Blk.new w 35 #[.int .i64 at_, .int .i64 k, .int .i64 who, .int .i64 num]
  have h0 := h.keep hb0
  have hx : (w.alloc (.cells #[.int .i64 at_, .int .i64 k, .int .i64 who, .int .i64 num] 35)).cell? ⟨g, 12, none⟩ = some (.map (some bs)) := h0.cell 12
  obtain ⟨c, hl, hat, hwc⟩ := (h0.keep (Below.refl _ _).drew).since num hw
  rw [hno] at hl
  go_enter Try.func14, Try.ntmps14
  go_wp2_with fail
  go_region
  go_wp2
  refine bodyPost_ret (results_none rfl _ _ _) rfl ?_
  exact ⟨rfl, hb0.drew⟩

theorem Try.info2 : (Try.prog.info? 2).map (fun i => (i.zero, i.size, i.bytes)) = some (some (.int .i64 0), 1, 8) := by kernel_rfl
set_option maxRecDepth 100000 in
theorem done_late (w : World) (g bs : Nat) (tv : Value) (n : Nat) (x : Own) (at_ k who num c : Int) (h : OwnAt w g bs tv n x) (hw : (Lit.int .i64 num).wf = true) (hy : Maps.has x.since (.int .i64 num) = true)
    (hc : x.since.atKey (.int .i64 num) (.lit (.int .i64 0)) = .lit (.int .i64 c)) (hl : at_ < c) :
    Calls Try.prog 14 #[.pointer (some ⟨g, 0, none⟩), .agg #[.int .i64 at_, .int .i64 k, .int .i64 who, .int .i64 num]] w fun e w' => e = .returned (.tuple #[]) ∧ Below w.heap.size w w' := by
  have hb0 : Below w.heap.size w (w.alloc (.cells #[.int .i64 at_, .int .i64 k, .int .i64 who, .int .i64 num] 35)) := (Below.refl _ _).alloc (Nat.le_refl _) _
  have h0 := h.keep hb0
  have hx : (w.alloc (.cells #[.int .i64 at_, .int .i64 k, .int .i64 who, .int .i64 num] 35)).cell? ⟨g, 12, none⟩ = some (.map (some bs)) := h0.cell 12
  obtain ⟨c', hl', hat, hwc⟩ := (h0.keep (Below.refl _ _).drew).since num hw
  obtain rfl : c' = c := by rw [hc] at hat; simpa [eq_comm] using hat
  rw [hy] at hl'
  have d1 : decide (at_ < c') = true := by simp [hl]
  go_enter Try.func14, Try.ntmps14
  go_wp2_with fail
  go_region
  go_wp2
  refine bodyPost_ret (results_none rfl _ _ _) rfl ?_
  exact ⟨rfl, hb0.drew⟩
theorem OwnAt.apart {w : World} {g bs : Nat} {tv : Value} {n : Nat} {x : Own} (h : OwnAt w g bs tv n x) : tv.ownBlock ≠ some bs := by
  intro e
  obtain ⟨es, clock, hk, _⟩ := h.map
  rcases h.row.2 with ⟨rfl, _⟩ | ⟨b, cap, cur, rfl, _, hb, _⟩
  · simp [Value.ownBlock] at e
  · simp [Value.ownBlock] at e
    subst e
    rw [hk] at hb
    cases hb
/-- done's end: the three stores -/
theorem done_close {w W1 w2 : World} {g bs n : Nat} {tv v' : Value} {x : Own} {z a b : Int} (h1 : OwnAt W1 g bs tv n x) (hw1 : Below w.heap.size w W1) (hgw : g < w.heap.size)
    (hown : w2.ownsRow 0 2 1 v' (x.times.length + 1) (x.times.map (Value.int .i64) ++ [.int .i64 z])) (hgrow : (W1.alloc (.cells #[.int .i64 z] 2)).grownBy w2 tv.ownBlock)
    (hloc : v'.ownBlock = tv.ownBlock ∨ v'.ownBlock = some (W1.heap.size + 1)) (hbk : Blk w2 g 44 (x.cells bs tv)) :
    ∃ tv', OwnAt (((w2.setCell ⟨g, 13, none⟩ v').setCell ⟨g, 10, none⟩ (.int .i64 a)).setCell ⟨g, 11, none⟩ (.int .i64 b)) g bs tv' n { x with wo := a, su := b, times := x.times ++ [z] } ∧
      (tv'.ownBlock = tv.ownBlock ∨ ∃ j, tv'.ownBlock = some j ∧ w.heap.size ≤ j) ∧
      Turn (fun j => j = g ∨ tv.ownBlock = some j) w (((w2.setCell ⟨g, 13, none⟩ v').setCell ⟨g, 10, none⟩ (.int .i64 a)).setCell ⟨g, 11, none⟩ (.int .i64 b)) := by
  have hne : v'.ownBlock ≠ some g := by
    rcases hloc with e | e
    · rw [e]; exact h1.ne.2
    · rw [e]; intro e2; have := Option.some.inj e2; have := hw1.size; omega
  refine ⟨v', ⟨((hbk.set_ 13 v').set_ 10 (.int .i64 a)).set_ 11 (.int .i64 b), ?_, ?_, h1.ne.1, hne⟩, ?_, ?_⟩
  · obtain ⟨es, clock, hk, F, hs, hD⟩ := h1.map
    refine ⟨es, clock, ?_, F, hs, hD⟩
    have hlt := World.ownsMap.lt h1.map
    have e2 : w2.heap[bs]? = W1.heap[bs]? := (hgrow.block bs (by simp; omega) (fun e => h1.apart e.symm)).trans (Below.heap_alloc W1 _ bs hlt)
    have hg := h1.ne.1
    rw [Below.heap_setCell _ _ _ _ (by simpa using hg), Below.heap_setCell _ _ _ _ (by simpa using hg), Below.heap_setCell _ _ _ _ (by simpa using hg), e2]
    exact hk
  · have h3 := ownsRow_setCell_other (ownsRow_setCell_other (ownsRow_setCell_other hown (a := ⟨g, 13, none⟩) hne v') (a := ⟨g, 10, none⟩) hne (.int .i64 a)) (a := ⟨g, 11, none⟩) hne (.int .i64 b)
    simpa using h3
  · rcases hloc with e | e
    · exact .inl e
    · exact .inr ⟨_, e, by have := hw1.size; omega⟩
  · refine Turn.setCell (Turn.setCell (Turn.setCell (Turn.grown (Turn.alloc (Turn.below (Turn.refl _ w) hw1) _) hgrow fun k hk => .inl (.inr hk)) (.inl (.inl rfl)) _) (.inl (.inl rfl)) _) (.inl (.inl rfl)) _
def Own.fin (x : Own) (z : Int) : Own :=
  { x with wo := max x.wo z, su := if 4611686018427387904 - x.su < z then 4611686018427387904 else x.su + z, times := x.times ++ [z] }
theorem done_fin {w' : World} {g bs n : Nat} {x : Own} {z a b : Int} {P : Value → Prop} (h : ∃ tv', OwnAt w' g bs tv' n { x with wo := a, su := b, times := x.times ++ [z] } ∧ P tv')
    (ha : a = max x.wo z) (hb : b = if 4611686018427387904 - x.su < z then 4611686018427387904 else x.su + z) : ∃ tv', OwnAt w' g bs tv' n (x.fin z) ∧ P tv' := by
  subst ha
  subst hb
  exact h
set_option maxRecDepth 100000 in
set_option maxHeartbeats 1000000 in
theorem done_some (w : World) (g bs : Nat) (tv : Value) (n : Nat) (x : Own) (at_ k who num c : Int) (h : OwnAt w g bs tv n x) (hw : (Lit.int .i64 num).wf = true) (hy : Maps.has x.since (.int .i64 num) = true)
    (hc : x.since.atKey (.int .i64 num) (.lit (.int .i64 0)) = .lit (.int .i64 c)) (hl : c ≤ at_) (hc0 : 0 ≤ c) (ha : at_ ≤ 9223372036854775807) (hlen : x.times.length ≤ 1000000) (su0 : 0 ≤ x.su) (su1 : x.su ≤ 4611686018427387904) :
    Calls Try.prog 14 #[.pointer (some ⟨g, 0, none⟩), .agg #[.int .i64 at_, .int .i64 k, .int .i64 who, .int .i64 num]] w fun e w' => e = .returned (.tuple #[]) ∧ ∃ tv', OwnAt w' g bs tv' n (x.fin (at_ - c)) ∧ (tv'.ownBlock = tv.ownBlock ∨ ∃ j, tv'.ownBlock = some j ∧ w.heap.size ≤ j) ∧ Turn (fun j => j = g ∨ tv.ownBlock = some j) w w' := by
  obtain ⟨i0, hi, hz0, hz1, hz2⟩ := info_parts Try.info2
  have hb0 : Below w.heap.size w (w.alloc (.cells #[.int .i64 at_, .int .i64 k, .int .i64 who, .int .i64 num] 35)) := (Below.refl _ _).alloc (Nat.le_refl _) _
  have h0 := h.keep hb0
  have hx : (w.alloc (.cells #[.int .i64 at_, .int .i64 k, .int .i64 who, .int .i64 num] 35)).cell? ⟨g, 12, none⟩ = some (.map (some bs)) := h0.cell 12
  obtain ⟨c', hl', hat, hwc⟩ := (h0.keep (Below.refl _ _).drew).since num hw
  obtain rfl : c' = c := by rw [hc] at hat; simpa [eq_comm] using hat
  rw [hy] at hl'
  have d1 : decide (at_ < c') = false := by simp; omega
  go_enter Try.func14, Try.ntmps14
  go_wp2_with fail
  go_region
  obtain ⟨W1, hW1⟩ : ∃ W1, (w.alloc (.cells #[.int .i64 at_, .int .i64 k, .int .i64 who, .int .i64 num] 35)).drew = W1 := ⟨_, rfl⟩
  rw [hW1]
  have hW1b : Below w.heap.size w W1 := by rw [← hW1]; exact hb0.drew
  have h1 : OwnAt W1 g bs tv n x := by rw [← hW1]; exact h0.keep (Below.refl _ _).drew
  have he : W1.cell? ⟨w.heap.size, 0, none⟩ = some (.int .i64 at_) := by rw [← hW1]; exact Blk.new w 35 #[.int .i64 at_, .int .i64 k, .int .i64 who, .int .i64 num] |>.cell 0
  clear hx hl' hW1
  have hx13 : W1.cell? ⟨g, 13, none⟩ = some tv := h1.cell 13
  go_wp2_with (at_builtin; refine wpList_append_own_at _ rfl _ _ 42 rfl 0 2 i0 (.int .i64 0) 1 8 Try.underlying42 hi hz0 hz1 hz2 rfl (by decide) _ _ _ rfl (h1.row.alloc _) ⟨W1.heap.size, 0, none⟩ 1 1 [.int .i64 (at_ - c')] rfl rfl (cell_one_new _ _ _) ?c2 ?c3 ?c4 ?c5 ?_)
  case c2 => simp [Value.oneCell']
  case c3 => unfold maxLen; omega
  case c4 => omega
  case c5 => omega
  intro v' w2 hown hgrow _ hloc
  have hgW : g < W1.heap.size := h1.blk.lt
  have hbk2 : Blk w2 g 44 (x.cells bs tv) := (hgrow.block g (by simp; omega) (fun e => h1.ne.2 e.symm)).trans ((Below.heap_alloc W1 _ g hgW).trans h1.blk)
  have hc10 : w2.cell? ⟨g, 10, none⟩ = some (.int .i64 x.wo) := hbk2.cell 10
  have hc11 : w2.cell? ⟨g, 11, none⟩ = some (.int .i64 x.su) := hbk2.cell 11
  have hc13 : w2.cell? ⟨g, 13, none⟩ = some tv := hbk2.cell 13
  have hfr : ∀ i, w2.frozen? ⟨g, i, none⟩ = false := fun i => by simp [World.frozen?, show w2.heap[g]? = some (.cells (x.cells bs tv) 44 (0, 0)) from hbk2]
  have f10 := hfr 10
  have f11 := hfr 11
  have f13 := hfr 13
  clear hx13 hfr
  obtain ⟨A', k', hv'⟩ := own_val hown
  subst hv'
  have Hown := Lib.hid hown
  have Hloc := Lib.hid hloc
  have Hgrow := Lib.hid hgrow
  have Hbk := Lib.hid hbk2
  clear hown hloc hgrow hbk2
  have hgw : g < w.heap.size := h.blk.lt
  have Hw1 := Lib.hid hW1b
  have H1 := Lib.hid h1
  clear hW1b h1 h h0 hb0
  go_wp2
  all_goals
    go_end0
    refine ⟨rfl, ?_⟩
    exact done_fin (done_close H1.out Hw1.out hgw Hown.out Hgrow.out Hloc.out Hbk.out) (by omega) (by first | (rw [if_pos (by omega)]) | (rw [if_neg (by omega)]))
end Go.Proofs.Ythjdogeobfcedaa
