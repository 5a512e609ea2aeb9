/-
  put, of one.
-/
import Derived.Test.YthjdogeobfcedaaS1
namespace Go.Proofs.Ythjdogeobfcedaa
open Go.RowKit Go.Maps

theorem OwnAt.set {w : World} {g bs : Nat} {tv : Value} {n : Nat} {x x' : Own} (h : OwnAt w g bs tv n x) (i : Nat) (u : Value) (hc : (x.cells bs tv).setIfInBounds i u = x'.cells bs tv) (hs : x'.since = x.since) (ht : x'.times = x.times) :
    OwnAt (w.setCell ⟨g, i, none⟩ u) g bs tv n x' := by
  refine ⟨hc ▸ h.blk.set_ i u, ?_, ?_, h.ne⟩
  · rw [hs]
    obtain ⟨es, clock, hk, F, hz, hD⟩ := h.map
    exact ⟨es, clock, (Below.heap_setCell _ _ _ _ (by simpa using h.ne.1)).trans hk, F, hz, hD⟩
  · rw [ht]
    exact ownsRow_setCell_other h.row (a := ⟨g, i, none⟩) h.ne.2 u
set_option maxRecDepth 100000 in
theorem put_wait (w : World) (g bs : Nat) (tv : Value) (n : Nat) (x : Own) (at_ who num : Int) (h : OwnAt w g bs tv n x) (b0 : 0 ≤ x.wa) (b1 : x.wa ≤ 1000000) :
    Calls Try.prog 11 #[.pointer (some ⟨g, 0, none⟩), .agg #[.int .i64 at_, .int .i64 4, .int .i64 who, .int .i64 num]] w fun e w' => e = .returned (.tuple #[]) ∧
      OwnAt w' g bs tv n { x with wa := x.wa + 1 } ∧ Turn (fun j => j = g) w w' := by
  have hb0 : Below w.heap.size w (w.alloc (.cells #[.int .i64 at_, .int .i64 4, .int .i64 who, .int .i64 num] 35)) := (Below.refl _ _).alloc (Nat.le_refl _) _
  have h0 := h.keep hb0
  have hc : (w.alloc (.cells #[.int .i64 at_, .int .i64 4, .int .i64 who, .int .i64 num] 35)).cell? ⟨g, 3, none⟩ = some (.int .i64 x.wa) := h0.cell 3
  have hf : (w.alloc (.cells #[.int .i64 at_, .int .i64 4, .int .i64 who, .int .i64 num] 35)).frozen? ⟨g, 3, none⟩ = false := h0.blk.frozen 3
  go_enter Try.func11, Try.ntmps11
  go_wp2
  go_end0
  exact ⟨rfl, h0.set 3 _ rfl rfl rfl, ((Turn.refl (fun j => j = g) w).alloc _).setCell (.inl rfl) _⟩
set_option maxRecDepth 100000 in
theorem put_turn (w : World) (g bs : Nat) (tv : Value) (n : Nat) (x : Own) (at_ who num : Int) (h : OwnAt w g bs tv n x) (b0 : 0 ≤ x.t) (b1 : x.t ≤ 1000000) :
    Calls Try.prog 11 #[.pointer (some ⟨g, 0, none⟩), .agg #[.int .i64 at_, .int .i64 5, .int .i64 who, .int .i64 num]] w fun e w' => e = .returned (.tuple #[]) ∧
      OwnAt w' g bs tv n { x with t := x.t + 1 } ∧ Turn (fun j => j = g) w w' := by
  have hb0 : Below w.heap.size w (w.alloc (.cells #[.int .i64 at_, .int .i64 5, .int .i64 who, .int .i64 num] 35)) := (Below.refl _ _).alloc (Nat.le_refl _) _
  have h0 := h.keep hb0
  have hc : (w.alloc (.cells #[.int .i64 at_, .int .i64 5, .int .i64 who, .int .i64 num] 35)).cell? ⟨g, 4, none⟩ = some (.int .i64 x.t) := h0.cell 4
  have hf : (w.alloc (.cells #[.int .i64 at_, .int .i64 5, .int .i64 who, .int .i64 num] 35)).frozen? ⟨g, 4, none⟩ = false := h0.blk.frozen 4
  go_enter Try.func11, Try.ntmps11
  go_wp2
  go_end0
  exact ⟨rfl, h0.set 4 _ rfl rfl rfl, ((Turn.refl (fun j => j = g) w).alloc _).setCell (.inl rfl) _⟩
set_option maxRecDepth 100000 in
theorem put_grant (w : World) (g bs : Nat) (tv : Value) (n : Nat) (x : Own) (at_ who num : Int) (h : OwnAt w g bs tv n x) (b0 : 0 ≤ x.gr) (b1 : x.gr ≤ 1000000) :
    Calls Try.prog 11 #[.pointer (some ⟨g, 0, none⟩), .agg #[.int .i64 at_, .int .i64 6, .int .i64 who, .int .i64 num]] w fun e w' => e = .returned (.tuple #[]) ∧
      OwnAt w' g bs tv n { x with gr := x.gr + 1 } ∧ Turn (fun j => j = g) w w' := by
  have hb0 : Below w.heap.size w (w.alloc (.cells #[.int .i64 at_, .int .i64 6, .int .i64 who, .int .i64 num] 35)) := (Below.refl _ _).alloc (Nat.le_refl _) _
  have h0 := h.keep hb0
  have hc : (w.alloc (.cells #[.int .i64 at_, .int .i64 6, .int .i64 who, .int .i64 num] 35)).cell? ⟨g, 5, none⟩ = some (.int .i64 x.gr) := h0.cell 5
  have hf : (w.alloc (.cells #[.int .i64 at_, .int .i64 6, .int .i64 who, .int .i64 num] 35)).frozen? ⟨g, 5, none⟩ = false := h0.blk.frozen 5
  go_enter Try.func11, Try.ntmps11
  go_wp2
  go_end0
  exact ⟨rfl, h0.set 5 _ rfl rfl rfl, ((Turn.refl (fun j => j = g) w).alloc _).setCell (.inl rfl) _⟩
set_option maxRecDepth 100000 in
theorem put_dead (w : World) (g bs : Nat) (tv : Value) (n : Nat) (x : Own) (at_ who num : Int) (h : OwnAt w g bs tv n x) (b0 : 0 ≤ x.de) (b1 : x.de ≤ 1000000) :
    Calls Try.prog 11 #[.pointer (some ⟨g, 0, none⟩), .agg #[.int .i64 at_, .int .i64 7, .int .i64 who, .int .i64 num]] w fun e w' => e = .returned (.tuple #[]) ∧
      OwnAt w' g bs tv n { x with de := x.de + 1 } ∧ Turn (fun j => j = g) w w' := by
  have hb0 : Below w.heap.size w (w.alloc (.cells #[.int .i64 at_, .int .i64 7, .int .i64 who, .int .i64 num] 35)) := (Below.refl _ _).alloc (Nat.le_refl _) _
  have h0 := h.keep hb0
  have hc : (w.alloc (.cells #[.int .i64 at_, .int .i64 7, .int .i64 who, .int .i64 num] 35)).cell? ⟨g, 6, none⟩ = some (.int .i64 x.de) := h0.cell 6
  have hf : (w.alloc (.cells #[.int .i64 at_, .int .i64 7, .int .i64 who, .int .i64 num] 35)).frozen? ⟨g, 6, none⟩ = false := h0.blk.frozen 6
  go_enter Try.func11, Try.ntmps11
  go_wp2
  go_end0
  exact ⟨rfl, h0.set 6 _ rfl rfl rfl, ((Turn.refl (fun j => j = g) w).alloc _).setCell (.inl rfl) _⟩
set_option maxRecDepth 100000 in
theorem put_gate (w : World) (g bs : Nat) (tv : Value) (n : Nat) (x : Own) (at_ who num : Int) (h : OwnAt w g bs tv n x) (b0 : 0 ≤ x.ga) (b1 : x.ga ≤ 1000000) :
    Calls Try.prog 11 #[.pointer (some ⟨g, 0, none⟩), .agg #[.int .i64 at_, .int .i64 8, .int .i64 who, .int .i64 num]] w fun e w' => e = .returned (.tuple #[]) ∧
      OwnAt w' g bs tv n { x with ga := x.ga + 1 } ∧ Turn (fun j => j = g) w w' := by
  have hb0 : Below w.heap.size w (w.alloc (.cells #[.int .i64 at_, .int .i64 8, .int .i64 who, .int .i64 num] 35)) := (Below.refl _ _).alloc (Nat.le_refl _) _
  have h0 := h.keep hb0
  have hc : (w.alloc (.cells #[.int .i64 at_, .int .i64 8, .int .i64 who, .int .i64 num] 35)).cell? ⟨g, 7, none⟩ = some (.int .i64 x.ga) := h0.cell 7
  have hf : (w.alloc (.cells #[.int .i64 at_, .int .i64 8, .int .i64 who, .int .i64 num] 35)).frozen? ⟨g, 7, none⟩ = false := h0.blk.frozen 7
  go_enter Try.func11, Try.ntmps11
  go_wp2
  go_end0
  exact ⟨rfl, h0.set 7 _ rfl rfl rfl, ((Turn.refl (fun j => j = g) w).alloc _).setCell (.inl rfl) _⟩
set_option maxRecDepth 100000 in
theorem put_wake (w : World) (g bs : Nat) (tv : Value) (n : Nat) (x : Own) (at_ who num : Int) (h : OwnAt w g bs tv n x) (b0 : 0 ≤ x.wk) (b1 : x.wk ≤ 1000000) :
    Calls Try.prog 11 #[.pointer (some ⟨g, 0, none⟩), .agg #[.int .i64 at_, .int .i64 9, .int .i64 who, .int .i64 num]] w fun e w' => e = .returned (.tuple #[]) ∧
      OwnAt w' g bs tv n { x with wk := x.wk + 1 } ∧ Turn (fun j => j = g) w w' := by
  have hb0 : Below w.heap.size w (w.alloc (.cells #[.int .i64 at_, .int .i64 9, .int .i64 who, .int .i64 num] 35)) := (Below.refl _ _).alloc (Nat.le_refl _) _
  have h0 := h.keep hb0
  have hc : (w.alloc (.cells #[.int .i64 at_, .int .i64 9, .int .i64 who, .int .i64 num] 35)).cell? ⟨g, 8, none⟩ = some (.int .i64 x.wk) := h0.cell 8
  have hf : (w.alloc (.cells #[.int .i64 at_, .int .i64 9, .int .i64 who, .int .i64 num] 35)).frozen? ⟨g, 8, none⟩ = false := h0.blk.frozen 8
  go_enter Try.func11, Try.ntmps11
  go_wp2
  go_end0
  exact ⟨rfl, h0.set 8 _ rfl rfl rfl, ((Turn.refl (fun j => j = g) w).alloc _).setCell (.inl rfl) _⟩
set_option maxRecDepth 100000 in
theorem put_abort (w : World) (g bs : Nat) (tv : Value) (n : Nat) (x : Own) (at_ who num : Int) (h : OwnAt w g bs tv n x) (b0 : 0 ≤ x.a) (b1 : x.a ≤ 1000000) (o0 : 0 ≤ x.op) (o1 : x.op ≤ 1000000) :
    Calls Try.prog 11 #[.pointer (some ⟨g, 0, none⟩), .agg #[.int .i64 at_, .int .i64 3, .int .i64 who, .int .i64 num]] w fun e w' => e = .returned (.tuple #[]) ∧
      OwnAt w' g bs tv n { x with a := x.a + 1, op := max (x.op - 1) 0 } ∧ Turn (fun j => j = g) w w' := by
  have hb0 : Below w.heap.size w (w.alloc (.cells #[.int .i64 at_, .int .i64 3, .int .i64 who, .int .i64 num] 35)) := (Below.refl _ _).alloc (Nat.le_refl _) _
  have h0 := h.keep hb0
  have hc : (w.alloc (.cells #[.int .i64 at_, .int .i64 3, .int .i64 who, .int .i64 num] 35)).cell? ⟨g, 2, none⟩ = some (.int .i64 x.a) := h0.cell 2
  have hf : (w.alloc (.cells #[.int .i64 at_, .int .i64 3, .int .i64 who, .int .i64 num] 35)).frozen? ⟨g, 2, none⟩ = false := h0.blk.frozen 2
  have hc9 : (w.alloc (.cells #[.int .i64 at_, .int .i64 3, .int .i64 who, .int .i64 num] 35)).cell? ⟨g, 9, none⟩ = some (.int .i64 x.op) := h0.cell 9
  have hf9 : (w.alloc (.cells #[.int .i64 at_, .int .i64 3, .int .i64 who, .int .i64 num] 35)).frozen? ⟨g, 9, none⟩ = false := h0.blk.frozen 9
  have H0 := Lib.hid h0
  clear h0 h hb0
  go_enter Try.func11, Try.ntmps11
  go_wp2
  all_goals
    go_end0
    refine ⟨rfl, ?_, ((((Turn.refl (fun j => j = g) w).alloc _).setCell (.inl rfl) _).setCell (.inl rfl) _)⟩
    first
      | exact (H0.out.set (x' := { x with a := x.a + 1 }) 2 _ rfl rfl rfl).set 9 _ (by rw [Int.max_eq_left (by omega)]; rfl) rfl rfl
      | exact (H0.out.set (x' := { x with a := x.a + 1 }) 2 _ rfl rfl rfl).set 9 _ (by rw [Int.max_eq_right (by omega)]; rfl) rfl rfl
set_option maxRecDepth 100000 in
theorem put_other (w : World) (g : Nat) (at_ k who num : Int) (hk : k < 1 ∨ 9 < k) :
    Calls Try.prog 11 #[.pointer (some ⟨g, 0, none⟩), .agg #[.int .i64 at_, .int .i64 k, .int .i64 who, .int .i64 num]] w fun e w' => e = .returned (.tuple #[]) ∧ Below w.heap.size w w' := by
  have hb0 : Below w.heap.size w (w.alloc (.cells #[.int .i64 at_, .int .i64 k, .int .i64 who, .int .i64 num] 35)) := (Below.refl _ _).alloc (Nat.le_refl _) _
  have e1 : (k == 1) = false := by simp; omega
  have e2 : (k == 2) = false := by simp; omega
  have e3 : (k == 3) = false := by simp; omega
  have e4 : (k == 4) = false := by simp; omega
  have e5 : (k == 5) = false := by simp; omega
  have e6 : (k == 6) = false := by simp; omega
  have e7 : (k == 7) = false := by simp; omega
  have e8 : (k == 8) = false := by simp; omega
  have e9 : (k == 9) = false := by simp; omega
  clear hk
  go_enter Try.func11, Try.ntmps11
  go_wp2
  go_end0
  exact ⟨rfl, hb0⟩
set_option maxRecDepth 100000 in
theorem put_release (w : World) (g bs : Nat) (tv : Value) (n : Nat) (x : Own) (at_ who num : Int) (h : OwnAt w g bs tv n x) (b0 : 0 ≤ x.r) (b1 : x.r ≤ 1000000) (o0 : 0 ≤ x.op) (o1 : x.op ≤ 1000000) (hn : n < 1000000) (hwn : (Lit.int .i64 num).wf = true) (hwa : (Lit.int .i64 at_).wf = true) :
    Calls Try.prog 11 #[.pointer (some ⟨g, 0, none⟩), .agg #[.int .i64 at_, .int .i64 1, .int .i64 who, .int .i64 num]] w fun e w' => e = .returned (.tuple #[]) ∧
      OwnAt w' g bs tv (n + 1) { x with r := x.r + 1, op := x.op + 1, since := x.since.put (.int .i64 num) (.lit (.int .i64 at_)) } ∧ Turn (fun j => j = g ∨ j = bs) w w' := by
  have hb0 : Below w.heap.size w (w.alloc (.cells #[.int .i64 at_, .int .i64 1, .int .i64 who, .int .i64 num] 35)) := (Below.refl _ _).alloc (Nat.le_refl _) _
  have h0 := h.keep hb0
  have hc : (w.alloc (.cells #[.int .i64 at_, .int .i64 1, .int .i64 who, .int .i64 num] 35)).cell? ⟨g, 0, none⟩ = some (.int .i64 x.r) := h0.cell 0
  have hf : (w.alloc (.cells #[.int .i64 at_, .int .i64 1, .int .i64 who, .int .i64 num] 35)).frozen? ⟨g, 0, none⟩ = false := h0.blk.frozen 0
  have hc9 : (w.alloc (.cells #[.int .i64 at_, .int .i64 1, .int .i64 who, .int .i64 num] 35)).cell? ⟨g, 9, none⟩ = some (.int .i64 x.op) := h0.cell 9
  have hf9 : (w.alloc (.cells #[.int .i64 at_, .int .i64 1, .int .i64 who, .int .i64 num] 35)).frozen? ⟨g, 9, none⟩ = false := h0.blk.frozen 9
  have H0 := Lib.hid h0
  clear h0 h hb0
  go_enter Try.func11, Try.ntmps11
  go_wp2
  have h1 : OwnAt (((w.alloc (.cells #[.int .i64 at_, .int .i64 1, .int .i64 who, .int .i64 num] 35)).setCell ⟨g, 0, none⟩ (.int .i64 (x.r + 1))).setCell ⟨g, 9, none⟩ (.int .i64 (x.op + 1))) g bs tv n { x with r := x.r + 1, op := x.op + 1 } :=
    (H0.out.set (x' := { x with r := x.r + 1 }) 0 _ rfl rfl rfl).set 9 _ rfl rfl rfl
  have ht : Turn (fun j => j = g) w (((w.alloc (.cells #[.int .i64 at_, .int .i64 1, .int .i64 who, .int .i64 num] 35)).setCell ⟨g, 0, none⟩ (.int .i64 (x.r + 1))).setCell ⟨g, 9, none⟩ (.int .i64 (x.op + 1))) :=
    (((Turn.refl (fun j => j = g) w).alloc _).setCell (.inl rfl) _).setCell (.inl rfl) _
  generalize hW1 : (((w.alloc (.cells #[.int .i64 at_, .int .i64 1, .int .i64 who, .int .i64 num] 35)).setCell ⟨g, 0, none⟩ (.int .i64 (x.r + 1))).setCell ⟨g, 9, none⟩ (.int .i64 (x.op + 1))) = W1 at *
  have hgw : g ≠ w.heap.size := by
    intro e
    have hb := H0.out.blk
    rw [e] at hb
    have hn := Blk.new w 35 #[.int .i64 at_, .int .i64 1, .int .i64 who, .int .i64 num]
    exact absurd rfl (hb.ne_ hn (by decide))
  have hE : Blk W1 w.heap.size 35 #[.int .i64 at_, .int .i64 1, .int .i64 who, .int .i64 num] := by
    rw [← hW1]
    exact ((Blk.new w 35 #[.int .i64 at_, .int .i64 1, .int .i64 who, .int .i64 num]).far (by simpa using hgw.symm) _).far (by simpa using hgw.symm) _
  have he0 : W1.cell? ⟨w.heap.size, 0, none⟩ = some (.int .i64 at_) := hE.cell 0
  have he3 : W1.cell? ⟨w.heap.size, 3, none⟩ = some (.int .i64 num) := hE.cell 3
  have hx : W1.cell? ⟨g, 12, none⟩ = some (.map (some bs)) := h1.cell 12
  clear hc hf hc9 hf9 hW1
  obtain ⟨w2, hu, hm2, hg2⟩ := (h1.keep (Below.refl _ _).drew).map.update law2 Try.underlying41 (by unfold maxLen; omega) (keyOf_int_mk Try.underlying2 hwn) (plainElem_int Try.underlying2 hwa)
  go_region
  go_wp2
  go_end0
  refine ⟨rfl, ⟨?_, hm2, ?_, h1.ne⟩, ?_⟩
  · exact (hg2.block g h1.blk.lt (by intro e; exact h1.ne.1 (Option.some.inj e).symm)).trans h1.blk
  · exact h1.row.kept (only_trans (only_of_below (Below.refl _ _).drew _) hg2) (Or.inr h1.apart)
  · exact Turn.grown (ht.mono fun i _ h => .inl h).drew hg2 fun k hk => .inl (.inr (Option.some.inj hk).symm)
end Go.Proofs.Ythjdogeobfcedaa
