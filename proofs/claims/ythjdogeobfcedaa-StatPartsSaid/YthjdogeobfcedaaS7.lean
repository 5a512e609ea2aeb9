/-
  New, Of, Late.
-/
import Derived.Test.YthjdogeobfcedaaS6
namespace Go.Proofs.Ythjdogeobfcedaa
open Go.RowKit Go.Maps

def newWorld (w : World) : World := (w.alloc (.map #[] 0)).alloc (.cells #[.map (some w.heap.size)] 39)
def ownNew (n : Nat) (j : Nat) : Option Int := if j = n ∨ j = n + 1 then some (-1) else none
theorem stats_new (w : World) : StatsAt (newWorld w) (w.heap.size + 1) w.heap.size 0 (.map []) (ownNew w.heap.size) 0 (fun _ => none) := by
  have h1 := Blk.new (w.alloc (.map #[] 0)) 39 #[.map (some w.heap.size)]
  simp only [World.size_alloc] at h1
  refine ⟨h1, (World.ownsMap_made w Try.prog 3 (ptrElem)).alloc _, Nat.le_refl _, fun _ _ => rfl, fun k x h => (by cases h), fun k x h => (by cases h), ⟨by simp [ownNew], by simp [ownNew]⟩, fun j k h => ?_⟩
  unfold ownNew at h
  split at h
  · simp [newWorld]; omega
  · cases h
theorem New_any (w : World) : Calls Try.prog 6 #[] w fun e w' => e = .returned (.pointer (some ⟨w.heap.size + 1, 0, none⟩)) ∧ newWorld w = w' := by
  have hmm := @run_makeMap Try.prog
  go_enter Try.func6, Try.ntmps6
  go_wp2
  go_ret
  exact ⟨rfl, rfl⟩
theorem Of_no (w : World) (gs bm nm m : Nat) (D : DataW Unit) (own : Nat → Option Int) (s : Known) (h : StatsAt w gs bm nm D own m s) (who : Int) (hw : (Lit.int .i64 who).wf = true) (hs : s who = none) :
    Calls Try.prog 9 #[.pointer (some ⟨gs, 0, none⟩), .int .i64 who] w fun e w' =>
      e = .returned (.tuple #[.agg #[.int .i64 0, .int .i64 0, .int .i64 0, .int .i64 0, .int .i64 0, .int .i64 0, .int .i64 0, .int .i64 0, .int .i64 0, .int .i64 0, .int .i64 0, .int .i64 0], .bool false]) ∧ Below w.heap.size w w' := by
  have hb0 : Below w.heap.size w (w.alloc (.cells #[.int .i64 0, .int .i64 0, .int .i64 0, .int .i64 0, .int .i64 0, .int .i64 0, .int .i64 0, .int .i64 0, .int .i64 0, .int .i64 0, .int .i64 0, .int .i64 0] 30)) := (Below.refl _ _).alloc (Nat.le_refl _) _
  have h1 := h.below hb0
  have hc := h1.blk.cell 0
  simp only [List.getElem?_toArray, List.getElem?_cons_zero] at hc
  obtain ⟨v, ps, hrun, hv⟩ := h1.map.lookup law3 Try.underlying37 (zero40 _) (show ptrElem (.pointer none) = some (.nil, []) from rfl) (keyOf_int_mk Try.underlying3 hw)
  rw [atKey_of_not_has (h1.no _ hs)] at hv
  obtain rfl := ptrElem_nil hv
  clear hv h1 h
  go_enter Try.func9, Try.ntmps9
  go_wp2
  exact bodyPost_ret (v := .tuple #[.agg #[.int .i64 0, .int .i64 0, .int .i64 0, .int .i64 0, .int .i64 0, .int .i64 0, .int .i64 0, .int .i64 0, .int .i64 0, .int .i64 0, .int .i64 0, .int .i64 0], .bool false]) (by simp [results, Try.results9, go_sem]) rfl ⟨rfl, (Below.refl _ _).alloc (Nat.le_refl _) _⟩
theorem Of_some (w : World) (gs bm nm m : Nat) (D : DataW Unit) (own : Nat → Option Int) (s : Known) (h : StatsAt w gs bm nm D own m s) (who : Int) (hw : (Lit.int .i64 who).wf = true) (x : Own) (hs : s who = some x) :
    Calls Try.prog 9 #[.pointer (some ⟨gs, 0, none⟩), .int .i64 who] w fun e w' =>
      e = .returned (.tuple #[.agg #[.int .i64 x.r, .int .i64 x.d, .int .i64 x.a, .int .i64 x.wa, .int .i64 x.t, .int .i64 x.gr, .int .i64 x.de, .int .i64 x.ga, .int .i64 x.wk, .int .i64 x.op, .int .i64 x.wo, .int .i64 x.su], .bool true]) ∧ Below w.heap.size w w' := by
  have hb0 : Below w.heap.size w (w.alloc (.cells #[.int .i64 0, .int .i64 0, .int .i64 0, .int .i64 0, .int .i64 0, .int .i64 0, .int .i64 0, .int .i64 0, .int .i64 0, .int .i64 0, .int .i64 0, .int .i64 0] 30)) := (Below.refl _ _).alloc (Nat.le_refl _) _
  have h1 := h.below hb0
  have hc := h1.blk.cell 0
  simp only [List.getElem?_toArray, List.getElem?_cons_zero] at hc
  obtain ⟨v, ps, hrun, hv⟩ := h1.map.lookup law3 Try.underlying37 (zero40 _) (show ptrElem (.pointer none) = some (.nil, []) from rfl) (keyOf_int_mk Try.underlying3 hw)
  obtain ⟨g, bs, tv, n, a1, a2, a3, a4, a5, a6, a7⟩ := h1.one _ _ hs
  rw [a2] at hv
  obtain rfl := ptrElem_int hv
  have c0 := a3.cell 0
  have c1 := a3.cell 1
  have c2 := a3.cell 2
  have c3 := a3.cell 3
  have c4 := a3.cell 4
  have c5 := a3.cell 5
  have c6 := a3.cell 6
  have c7 := a3.cell 7
  have c8 := a3.cell 8
  have c9 := a3.cell 9
  have c10 := a3.cell 10
  have c11 := a3.cell 11
  simp only [Own.cells, List.getElem?_toArray, List.getElem?_cons_zero, List.getElem?_cons_succ] at c0 c1 c2 c3 c4 c5 c6 c7 c8 c9 c10 c11
  clear hv h1 h a1 a2 a3 a4 a5 a6 a7
  go_enter Try.func9, Try.ntmps9
  go_wp2
  exact bodyPost_ret (v := .tuple #[.agg #[.int .i64 x.r, .int .i64 x.d, .int .i64 x.a, .int .i64 x.wa, .int .i64 x.t, .int .i64 x.gr, .int .i64 x.de, .int .i64 x.ga, .int .i64 x.wk, .int .i64 x.op, .int .i64 x.wo, .int .i64 x.su], .bool true]) (by simp [results, Try.results9, go_sem]) rfl ⟨rfl, (Below.refl _ _).alloc (Nat.le_refl _) _⟩

/-- how many of the times are above p -/
def late (l : List Int) (p : Int) : Int := (l.filter fun t => decide (p < t)).length
theorem late_snoc (l : List Int) (p t : Int) : late (l ++ [t]) p = late l p + if p < t then 1 else 0 := by
  unfold late
  rw [List.filter_append]
  by_cases h : p < t <;> simp [h]
theorem late_bd (l : List Int) (p : Int) : 0 ≤ late l p ∧ late l p ≤ l.length := by
  have := List.length_filter_le (fun t => decide (p < t)) l
  unfold late
  omega
def LateRel (l : List Int) (p : Int) (k : Nat) (s7 s24 : Value) (wr w : World) : Prop := ∃ i : Nat, k = l.length - i ∧ i ≤ l.length ∧ s24 = .int .i64 i ∧ s7 = .int .i64 (late (l.take i) p) ∧ w = wr
theorem Late_no (w : World) (gs bm nm m : Nat) (D : DataW Unit) (own : Nat → Option Int) (s : Known) (h : StatsAt w gs bm nm D own m s) (who p : Int) (hw : (Lit.int .i64 who).wf = true) (hs : s who = none) :
    Calls Try.prog 10 #[.pointer (some ⟨gs, 0, none⟩), .int .i64 who, .int .i64 p] w fun e w' => e = .returned (.int .i64 0) ∧ w = w' := by
  have hc := h.blk.cell 0
  simp only [List.getElem?_toArray, List.getElem?_cons_zero] at hc
  obtain ⟨v, ps, hrun, hv⟩ := h.map.lookup law3 Try.underlying37 (zero40 _) (show ptrElem (.pointer none) = some (.nil, []) from rfl) (keyOf_int_mk Try.underlying3 hw)
  rw [atKey_of_not_has (h.no _ hs)] at hv
  obtain rfl := ptrElem_nil hv
  clear hv h
  go_enter Try.func10, Try.ntmps10
  go_wp2
  go_ret
  exact ⟨rfl, rfl⟩
theorem Late_some (w : World) (gs bm nm m : Nat) (D : DataW Unit) (own : Nat → Option Int) (s : Known) (h : StatsAt w gs bm nm D own m s) (who p : Int) (hw : (Lit.int .i64 who).wf = true) (x : Own) (hs : s who = some x) (hl : x.times.length ≤ 1000000) :
    Calls Try.prog 10 #[.pointer (some ⟨gs, 0, none⟩), .int .i64 who, .int .i64 p] w fun e w' => e = .returned (.int .i64 (late x.times p)) ∧ w = w' := by
  have hc := h.blk.cell 0
  simp only [List.getElem?_toArray, List.getElem?_cons_zero] at hc
  obtain ⟨v, ps, hrun, hv⟩ := h.map.lookup law3 Try.underlying37 (zero40 _) (show ptrElem (.pointer none) = some (.nil, []) from rfl) (keyOf_int_mk Try.underlying3 hw)
  obtain ⟨g, bs, tv, n, a1, a2, a3, a4, a5, a6, a7⟩ := h.one _ _ hs
  rw [a2] at hv
  obtain rfl := ptrElem_int hv
  obtain ⟨A, c, rfl⟩ : ∃ A c, tv = .slice A x.times.length c := by
    rcases a3.row.2 with ⟨rfl, h0⟩ | ⟨b, cap, cur, rfl, _⟩
    · rw [h0]; exact ⟨_, _, rfl⟩
    · exact ⟨_, _, rfl⟩
  have c13 := a3.cell 13
  simp only [Own.cells, List.getElem?_toArray, List.getElem?_cons_zero, List.getElem?_cons_succ] at c13
  have hrd := Reads.of_own a3.row
  clear hv h a1 a2 a3 a4 a5 a6 a7
  generalize x.times = l at *
  have hbd := fun i => late_bd (l.take i) p
  have Hbd := Lib.hid hbd
  clear hbd
  go_enter Try.func10, Try.ntmps10
  go_wp2
  go_loopg [7, 24] l.length (fun k s7 s24 wr => LateRel l p k s7 s24 wr w)
  case atStart => exact ⟨0, rfl, Nat.zero_le _, rfl, rfl, rfl⟩
  case round =>
    obtain ⟨i, hk, hil, rfl, rfl, rfl⟩ := hrel
    have Hk := Lib.hid hk
    clear hk
    by_cases hlt : i < l.length
    · obtain ⟨ad, u, rfl, hadb, hx, hcu⟩ := hrd.at_ hlt
      rw [List.getElem?_map, List.getElem?_eq_getElem hlt] at hx
      obtain rfl : Value.int .i64 l[i] = u := Option.some.inj hx
      have Hsn := Lib.hid (show late (l.take (i + 1)) p = late (l.take i) p + if p < l[i] then 1 else 0 by rw [← late_snoc, List.take_succ_eq_append_getElem hlt])
      have hb := Hbd.out i
      have hlen : (l.take i).length ≤ i := List.length_take_le _ _
      clear hx
      generalize l[i] = t at *
      by_cases hpt : p < t
      · go_wp2
        go_roundg (l.length - (i + 1))
        case measure => rw [Hk.out]; omega
        case rel => exact ⟨i + 1, rfl, hlt, by go_num, by rw [Hsn.out, if_pos hpt], rfl⟩
      · go_wp2
        go_roundg (l.length - (i + 1))
        case measure => rw [Hk.out]; omega
        case rel => exact ⟨i + 1, rfl, hlt, by go_num, by rw [Hsn.out, if_neg (by omega)]; go_num, rfl⟩
    · have hile : i = l.length := by omega
      go_wp2
      go_ret
      exact ⟨by rw [hile, List.take_of_length_le (Nat.le_refl _)]; rfl, rfl⟩
end Go.Proofs.Ythjdogeobfcedaa
