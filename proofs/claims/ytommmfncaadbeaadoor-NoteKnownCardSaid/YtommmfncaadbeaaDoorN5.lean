/-
  Notes in memory: New, Put, Len, Lost.
-/
import Derived.Test.YtommmfncaadbeaaDoorN4
import Derived.Test.YtommmfncaadbeaaDoorT
namespace Go.Proofs.YtommmfncaadbeaaDoor
open Go.RowKit

def Ev.cells (e : Ev) : List Value := [.int .i64 e.at_, .int .i64 e.kind, .int .i64 e.who, .int .i64 e.n]
def flatE (l : List Ev) : List Value := l.flatMap Ev.cells
theorem flatE_length (l : List Ev) : (flatE l).length = l.length * 4 := by
  induction l with
  | nil => rfl
  | cons x l ih => simp only [flatE, Ev.cells, List.flatMap_cons, List.length_append, List.length_cons, List.length_nil] at ih ⊢; omega
theorem flatE_get : ∀ (l : List Ev) (k : Nat) (e : Ev), l[k]? = some e → (flatE l)[k * 4]? = some (.int .i64 e.at_) ∧ (flatE l)[k * 4 + 1]? = some (.int .i64 e.kind) ∧ (flatE l)[k * 4 + 2]? = some (.int .i64 e.who) ∧ (flatE l)[k * 4 + 3]? = some (.int .i64 e.n)
  | [], k, e, h => by simp at h
  | x :: l, 0, e, h => by
    obtain rfl : x = e := by simpa using h
    simp [flatE, Ev.cells]
  | x :: l, k + 1, e, h => by
    have := flatE_get l k e (by simpa using h)
    have e1 : (k + 1) * 4 = k * 4 + 4 := by omega
    rw [e1]
    simpa [flatE, Ev.cells] using this
theorem flatE_append (a b : List Ev) : flatE (a ++ b) = flatE a ++ flatE b := by simp [flatE]
theorem flatE_drop (l : List Ev) (k : Nat) : flatE (l.drop k) = (flatE l).drop (k * 4) := by
  induction l generalizing k with
  | nil => simp [flatE]
  | cons x l ih =>
    cases k with
    | zero => simp [flatE]
    | succ k =>
      have := ih k
      rw [List.drop_succ_cons, show (k + 1) * 4 = k * 4 + 1 + 1 + 1 + 1 by omega]
      simp only [flatE, List.flatMap_cons, Ev.cells, List.cons_append, List.nil_append, List.drop_succ_cons] at this ⊢
      rw [this]
theorem flatE_one (l : List Ev) : ∀ u ∈ flatE l, u.oneCell' = true := by
  intro u hu
  obtain ⟨e, _, h⟩ := List.mem_flatMap.1 hu
  simp [Ev.cells] at h
  rcases h with rfl | rfl | rfl | rfl <;> rfl
theorem New_any (m r : Int) (w : World) (hr : r = min (max m 1) 4096) :
    Calls Tryd.prog 8 #[.int .i64 m] w fun e w' => e = .returned (.pointer (some ⟨w.heap.size, 0, none⟩)) ∧ w.alloc (.cells #[.int .i64 r, .slice none 0 0, .int .i64 0] 56) = w' := by
  have Hr := Lib.hid hr
  clear hr
  go_enter Tryd.func8, Tryd.ntmps8
  go_wp2
  all_goals
    go_ret
    refine ⟨rfl, ?_⟩
    rw [Hr.out]
    try first
      | (rw [show min (max m 1) 4096 = 4096 by omega])
      | (rw [show min (max m 1) 4096 = m by omega])
      | (rw [show min (max m 1) 4096 = 1 by omega])
      | rfl
/-- Notes: the room, how many were lost, what is there -/
structure NtAt (w : World) (gn : Nat) (room lost : Int) (v : Value) (l : List Ev) : Prop where
  blk : Blk w gn 56 #[.int .i64 room, v, .int .i64 lost]
  row : w.ownsRow 0 23 4 v l.length (flatE l)
  ne : v.ownBlock ≠ some gn
theorem Tryd.info23 : (Tryd.prog.info? 23).map (fun i => (i.zero, i.size, i.bytes)) = some (some (.agg #[.int .i64 0, .int .i64 0, .int .i64 0, .int .i64 0]), 4, 32) := by kernel_rfl
theorem Len_any (w : World) (gn : Nat) (room lost : Int) (v : Value) (l : List Ev) (h : NtAt w gn room lost v l) : Calls Tryd.prog 11 #[.pointer (some ⟨gn, 0, none⟩)] w fun e w' => e = .returned (.int .i64 l.length) ∧ w = w' := by
  have hc : w.cell? ⟨gn, 1, none⟩ = some v := h.blk.cell 1
  obtain ⟨A, c, rfl⟩ : ∃ A c, v = .slice A l.length c := by
    rcases h.row.2 with ⟨rfl, h0⟩ | ⟨b, cap, cur, rfl, _⟩
    · rw [h0]; exact ⟨_, _, rfl⟩
    · exact ⟨_, _, rfl⟩
  clear h
  go_enter Tryd.func11, Tryd.ntmps11
  go_wp2
  go_ret
  exact ⟨rfl, rfl⟩
theorem Lost_any (w : World) (gn : Nat) (room lost : Int) (v : Value) (l : List Ev) (h : NtAt w gn room lost v l) : Calls Tryd.prog 12 #[.pointer (some ⟨gn, 0, none⟩)] w fun e w' => e = .returned (.int .i64 lost) ∧ w = w' := by
  have hc : w.cell? ⟨gn, 2, none⟩ = some (.int .i64 lost) := h.blk.cell 2
  clear h
  go_enter Tryd.func12, Tryd.ntmps12
  go_wp2
  go_ret
  exact ⟨rfl, rfl⟩
set_option maxRecDepth 100000 in
/-- Put, where there is room -/
theorem Put_room (w : World) (gn : Nat) (room lost : Int) (v : Value) (l ns : List Ev) (ad : Addr) (c : Nat) (h : NtAt w gn room lost v l) (hr : Reads w w.heap.size 4 (some ad) ns.length (flatE ns)) (h0 : 0 < ns.length)
    (hroom : (l.length : Int) + ns.length ≤ room) (hmax : room ≤ 100000) :
    Calls Tryd.prog 9 #[.pointer (some ⟨gn, 0, none⟩), .slice (some ad) ns.length c] w fun e w' => e = .returned (.tuple #[]) ∧
      ∃ v', NtAt w' gn room lost v' (l ++ ns) ∧ (v'.ownBlock = v.ownBlock ∨ ∃ j, v'.ownBlock = some j ∧ w.heap.size ≤ j) ∧ Turn (fun j => j = gn ∨ v.ownBlock = some j) w w' := by
  obtain ⟨i0, hi, hz0, hz1, hz2⟩ := info_parts Tryd.info23
  have hc1 : w.cell? ⟨gn, 1, none⟩ = some v := h.blk.cell 1
  obtain ⟨ad', e', _, hcells⟩ := hr.2 h0
  cases e'
  go_enter Tryd.func9, Tryd.ntmps9
  go_wp2_with (at_builtin; refine wpList_append_own_at _ rfl _ _ 33 rfl 0 23 i0 (.agg #[.int .i64 0, .int .i64 0, .int .i64 0, .int .i64 0]) 4 32 Tryd.underlying33 hi hz0 hz1 hz2 rfl (by decide) _ _ _ rfl h.row ad ns.length c (flatE ns) rfl (flatE_length ns) hcells (flatE_one ns) ?c3 ?c4 ?c5 ?_)
  case c3 => unfold maxLen; omega
  case c4 => omega
  case c5 => omega
  intro v' w1 hown hgrow _ hloc
  have hb1 : Blk w1 gn 56 #[.int .i64 room, v, .int .i64 lost] := h.blk.grown hgrow (fun e => h.ne e.symm)
  have c10 := hb1.cell 0
  have c11 := hb1.cell 1
  have f11 := hb1.frozen 1
  simp only [List.getElem?_toArray, List.getElem?_cons_zero, List.getElem?_cons_succ] at c10 c11
  have hb2 : Blk (w1.setCell ⟨gn, 1, none⟩ v') gn 56 #[.int .i64 room, v', .int .i64 lost] := hb1.set_ 1 v'
  obtain ⟨A', k', hv'⟩ : ∃ A' k', v' = .slice A' (l.length + ns.length) k' := by
    rcases hown.2 with ⟨rfl, h1⟩ | ⟨b, cap, cur, rfl, _⟩
    · rw [h1]; exact ⟨_, _, rfl⟩
    · exact ⟨_, _, rfl⟩
  have hne : v'.ownBlock ≠ some gn := by
    rcases hloc with e | e
    · rw [e]; exact h.ne
    · rw [e]; intro e2; have := Option.some.inj e2; have := h.blk.lt; omega
  obtain ⟨W2, hW2⟩ : ∃ W2, w1.setCell ⟨gn, 1, none⟩ v' = W2 := ⟨_, rfl⟩
  rw [hW2] at hb2
  have hfin : ∃ v', NtAt W2 gn room lost v' (l ++ ns) ∧ (v'.ownBlock = v.ownBlock ∨ ∃ j, v'.ownBlock = some j ∧ w.heap.size ≤ j) ∧ Turn (fun j => j = gn ∨ v.ownBlock = some j) w W2 := by
    refine ⟨v', ⟨hb2, ?_, hne⟩, ?_, ?_⟩
    · rw [← hW2, flatE_append, List.length_append]
      exact ownsRow_setCell_other hown (a := ⟨gn, 1, none⟩) hne v'
    · rcases hloc with e | e
      · exact .inl e
      · exact .inr ⟨_, e, Nat.le_refl _⟩
    · rw [← hW2]
      exact ((Turn.refl _ w).grown hgrow fun k hk => .inl (.inr hk)).setCell (.inl (.inl rfl)) v'
  have d0 := hb2.cell 0
  have d1 := hb2.cell 1
  simp only [List.getElem?_toArray, List.getElem?_cons_zero, List.getElem?_cons_succ] at d0 d1
  have Hfin := Lib.hid hfin
  subst hv'
  have HW2 := Lib.hid hW2
  clear hfin hown hgrow hloc hb1 hb2 hne hW2
  go_wp2_with fail
  rw [HW2.out]
  go_quiet (fail)
  go_wp2
  go_end0
  obtain ⟨v', h1, h2, h3⟩ := Hfin.out
  exact ⟨rfl, v', ⟨h1.blk, own_below h1.row (below_drewN (Below.refl _ _) _), h1.ne⟩, h2, h3.drewN _⟩
end Go.Proofs.YtommmfncaadbeaaDoor
