/-
  done whole; put of kind 2; put whole.
-/
import Derived.Test.YthjdogeobfcedaaS2
import Derived.Maps.Views
namespace Go.Proofs.Ythjdogeobfcedaa
open Go.RowKit Go.Maps

/-- when a job was released, if it was -/
def Own.at_ (x : Own) (num : Int) : Option Int :=
  if Maps.has x.since (.int .i64 num) then (match x.since.atKey (.int .i64 num) (.lit (.int .i64 0)) with | .lit (.int _ c) => some c | _ => none) else none
def Own.done (x : Own) (at_ num : Int) : Own := match x.at_ num with
  | some c => if at_ < c then x else x.fin (at_ - c)
  | none => x
theorem done_any (w : World) (g bs : Nat) (tv : Value) (n : Nat) (x : Own) (at_ k who num : Int) (h : OwnAt w g bs tv n x) (hw : (Lit.int .i64 num).wf = true)
    (hpos : ∀ m c, x.at_ m = some c → 0 ≤ c) (ha : at_ ≤ 9223372036854775807) (hlen : x.times.length ≤ 1000000) (su0 : 0 ≤ x.su) (su1 : x.su ≤ 4611686018427387904) :
    Calls Try.prog 14 #[.pointer (some ⟨g, 0, none⟩), .agg #[.int .i64 at_, .int .i64 k, .int .i64 who, .int .i64 num]] w fun e w' => e = .returned (.tuple #[]) ∧ ∃ tv', OwnAt w' g bs tv' n (x.done at_ num) ∧ (tv'.ownBlock = tv.ownBlock ∨ ∃ j, tv'.ownBlock = some j ∧ w.heap.size ≤ j) ∧ Turn (fun j => j = g ∨ tv.ownBlock = some j) w w' := by
  have stay : ∀ e w', e = Ending.returned (.tuple #[]) ∧ Below w.heap.size w w' → x.done at_ num = x → e = .returned (.tuple #[]) ∧ ∃ tv', OwnAt w' g bs tv' n (x.done at_ num) ∧ (tv'.ownBlock = tv.ownBlock ∨ ∃ j, tv'.ownBlock = some j ∧ w.heap.size ≤ j) ∧ Turn (fun j => j = g ∨ tv.ownBlock = some j) w w' :=
    fun e w' hh hd => ⟨hh.1, tv, by rw [hd]; exact h.keep hh.2, .inl rfl, (Turn.refl _ w).below hh.2⟩
  obtain ⟨c, _, hat, hwc⟩ := h.since num hw
  cases hy : Maps.has x.since (.int .i64 num) with
  | false =>
    have hd : x.done at_ num = x := by simp [Own.done, Own.at_, hy]
    exact (done_none w g bs tv n x at_ k who num h hw hy).mono fun e w' hh => stay e w' hh hd
  | true =>
    have h1 : x.at_ num = some c := by simp [Own.at_, hy, hat]
    by_cases hl : at_ < c
    · have hd : x.done at_ num = x := by simp [Own.done, h1, hl]
      exact (done_late w g bs tv n x at_ k who num c h hw hy hat hl).mono fun e w' hh => stay e w' hh hd
    · have hd : x.done at_ num = x.fin (at_ - c) := by simp [Own.done, h1, hl]
      rw [hd]
      exact done_some w g bs tv n x at_ k who num c h hw hy hat (by omega) (hpos _ _ h1) ha hlen su0 su1
def Own.put (x : Own) (at_ k num : Int) : Own :=
  if k = 1 then { x with r := x.r + 1, op := x.op + 1, since := x.since.put (.int .i64 num) (.lit (.int .i64 at_)) }
  else if k = 2 then ({ x with d := x.d + 1, op := max (x.op - 1) 0 } : Own).done at_ num
  else if k = 3 then { x with a := x.a + 1, op := max (x.op - 1) 0 }
  else if k = 4 then { x with wa := x.wa + 1 }
  else if k = 5 then { x with t := x.t + 1 }
  else if k = 6 then { x with gr := x.gr + 1 }
  else if k = 7 then { x with de := x.de + 1 }
  else if k = 8 then { x with ga := x.ga + 1 }
  else if k = 9 then { x with wk := x.wk + 1 }
  else x
/-- what is known of one behind m Events -/
structure Own.Fine (m : Int) (x : Own) : Prop where
  r : 0 ≤ x.r ∧ x.r ≤ m
  d : 0 ≤ x.d ∧ x.d ≤ m
  a : 0 ≤ x.a ∧ x.a ≤ m
  wa : 0 ≤ x.wa ∧ x.wa ≤ m
  t : 0 ≤ x.t ∧ x.t ≤ m
  gr : 0 ≤ x.gr ∧ x.gr ≤ m
  de : 0 ≤ x.de ∧ x.de ≤ m
  ga : 0 ≤ x.ga ∧ x.ga ≤ m
  wk : 0 ≤ x.wk ∧ x.wk ≤ m
  op : 0 ≤ x.op ∧ x.op ≤ m
  wo : 0 ≤ x.wo
  su : 0 ≤ x.su ∧ x.su ≤ 4611686018427387904
  len : (x.times.length : Int) ≤ m
  since : ∀ n c, x.at_ n = some c → 0 ≤ c
  isMap : Maps.IsMap x.since
set_option maxRecDepth 100000 in
theorem put_done (w : World) (g bs : Nat) (tv : Value) (n : Nat) (x : Own) (at_ who num : Int) (h : OwnAt w g bs tv n x) (b0 : 0 ≤ x.d) (b1 : x.d ≤ 1000000) (o0 : 0 ≤ x.op) (o1 : x.op ≤ 1000000) (hw : (Lit.int .i64 num).wf = true)
    (hpos : ∀ m c, x.at_ m = some c → 0 ≤ c) (ha : at_ ≤ 9223372036854775807) (hlen : x.times.length ≤ 1000000) (su0 : 0 ≤ x.su) (su1 : x.su ≤ 4611686018427387904) :
    Calls Try.prog 11 #[.pointer (some ⟨g, 0, none⟩), .agg #[.int .i64 at_, .int .i64 2, .int .i64 who, .int .i64 num]] w fun e w' => e = .returned (.tuple #[]) ∧
      ∃ tv', OwnAt w' g bs tv' n (({ x with d := x.d + 1, op := max (x.op - 1) 0 } : Own).done at_ num) ∧ (tv'.ownBlock = tv.ownBlock ∨ ∃ j, tv'.ownBlock = some j ∧ w.heap.size ≤ j) ∧ Turn (fun j => j = g ∨ tv.ownBlock = some j) w w' := by
  have hb0 : Below w.heap.size w (w.alloc (.cells #[.int .i64 at_, .int .i64 2, .int .i64 who, .int .i64 num] 35)) := (Below.refl _ _).alloc (Nat.le_refl _) _
  have h0 := h.keep hb0
  have hc : (w.alloc (.cells #[.int .i64 at_, .int .i64 2, .int .i64 who, .int .i64 num] 35)).cell? ⟨g, 1, none⟩ = some (.int .i64 x.d) := h0.cell 1
  have hf : (w.alloc (.cells #[.int .i64 at_, .int .i64 2, .int .i64 who, .int .i64 num] 35)).frozen? ⟨g, 1, none⟩ = false := h0.blk.frozen 1
  have hc9 : (w.alloc (.cells #[.int .i64 at_, .int .i64 2, .int .i64 who, .int .i64 num] 35)).cell? ⟨g, 9, none⟩ = some (.int .i64 x.op) := h0.cell 9
  have hf9 : (w.alloc (.cells #[.int .i64 at_, .int .i64 2, .int .i64 who, .int .i64 num] 35)).frozen? ⟨g, 9, none⟩ = false := h0.blk.frozen 9
  have H0 := Lib.hid h0
  have Hpos := Lib.hid hpos
  have hgw : ¬ g = w.heap.size := by have := h.blk.lt; omega
  have hgw' : ¬ w.heap.size = g := by have := h.blk.lt; omega
  clear h0 h hb0 hpos
  go_enter Try.func11, Try.ntmps11
  go_wp2_with fail
  all_goals
    refine (done_any _ g bs tv n _ at_ 2 who num ((H0.out.set (x' := { x with d := x.d + 1 }) 1 _ rfl rfl rfl).set (x' := { x with d := x.d + 1, op := max (x.op - 1) 0 }) 9 _ ?h9 rfl rfl) hw Hpos.out ha hlen su0 su1).mono ?_
    case h9 => first | (rw [Int.max_eq_left (by omega)]; rfl) | (rw [Int.max_eq_right (by omega)]; rfl)
    rintro e w' ⟨rfl, hh⟩
    have Hh := Lib.hid hh
    clear hh
    go_wp2
    go_end0
    obtain ⟨tv', h1, h2, h3⟩ := Hh.out
    refine ⟨rfl, tv', h1, ?_, ?_⟩
    · rcases h2 with h2 | ⟨j, h2, h4⟩
      · exact .inl h2
      · exact .inr ⟨j, h2, by simp [World.setCell] at h4; omega⟩
    · exact ((((Turn.refl (fun j => j = g ∨ tv.ownBlock = some j) w).alloc _).setCell (.inl (.inl rfl)) _).setCell (.inl (.inl rfl)) _).trans h3 fun i _ h => h
end Go.Proofs.Ythjdogeobfcedaa
