/-
  Since, Of, All, same.
-/
import Derived.Test.YtommmfncaadbeaaDoorN8
namespace Go.Proofs.YtommmfncaadbeaaDoor
open Go.RowKit

theorem add_pos (a : Addr) (n : Nat) : a.add (n + 1) = ⟨a.block, a.off + (n + 1), none⟩ := by simp [Addr.add]
theorem ev_at {w : World} {B : Nat} {A : Option Addr} {l : List Ev} {k : Nat} (h : Reads w B 4 A l.length (flatE l)) (hk : k < l.length) :
    ∃ ad e, A = some ad ∧ ad.block < B ∧ l[k]? = some e ∧ w.cell? (ad.add (k * 4)) = some (.int .i64 e.at_) ∧ w.cell? ⟨(ad.add (k * 4)).block, (ad.add (k * 4)).off + 1, none⟩ = some (.int .i64 e.kind) ∧
      w.cell? ⟨(ad.add (k * 4)).block, (ad.add (k * 4)).off + 2, none⟩ = some (.int .i64 e.who) ∧ w.cell? ⟨(ad.add (k * 4)).block, (ad.add (k * 4)).off + 3, none⟩ = some (.int .i64 e.n) := by
  obtain ⟨ad, e, hb, hc⟩ := h.2 (by omega)
  have hl : l[k]? = some l[k] := List.getElem?_eq_getElem hk
  obtain ⟨h0, h1, h2, h3⟩ := flatE_get l k _ hl
  exact ⟨ad, _, e, hb, hl, hc _ _ h0, by rw [← add_pos _ 0, add_of_add]; exact hc _ _ h1, by rw [← add_pos _ 1, add_of_add]; exact hc _ _ h2, by rw [← add_pos _ 2, add_of_add]; exact hc _ _ h3⟩
theorem filter_snoc (p : Ev → Bool) (l : List Ev) (i : Nat) {e : Ev} (h : l[i]? = some e) : (l.take (i + 1)).filter p = (l.take i).filter p ++ if p e = true then [e] else [] := by
  rw [List.take_add_one, h, List.filter_append]
  cases hp : p e <;> simp [hp]
def SomeRel (p : Ev → Bool) (l : List Ev) (w : World) (k : Nat) (s5 s13 : Value) (wr : World) : Prop :=
  ∃ i : Nat, k = l.length - i ∧ i ≤ l.length ∧ s13 = .int .i64 i ∧ wr.ownsRow w.heap.size 23 4 s5 ((l.take i).filter p).length (flatE ((l.take i).filter p)) ∧ Below w.heap.size w wr

/-- does the closure of Since say yes? -/
def isSince (c : Int) (e : Ev) : Bool := decide (c ≤ e.at_)
theorem clSince (e : Ev) (c : Int) (cb : Nat) (w : World) (b : Bool) (hb : isSince c e = b) (hc : w.cell? ⟨cb, 0, none⟩ = some (.int .i64 c)) :
    Calls Tryd.prog 28 #[.agg #[.int .i64 e.at_, .int .i64 e.kind, .int .i64 e.who, .int .i64 e.n], .pointer (some ⟨cb, 0, none⟩)] w fun r w' => r = .returned (.bool b) ∧ Below w.heap.size w w' := by
  have hl := cell_lt hc
  have hc' : (w.alloc (.cells #[.int .i64 e.at_, .int .i64 e.kind, .int .i64 e.who, .int .i64 e.n] 23)).cell? ⟨cb, 0, none⟩ = some (.int .i64 c) := (World.cell?_alloc_lt w _ ⟨cb, 0, none⟩ hl).trans hc
  have Hb := Lib.hid hb
  clear hb
  go_enter Tryd.func28, Tryd.ntmps28
  go_wp2
  go_ret
  exact ⟨ret_bool (by rw [← Hb.out]; rfl), (Below.refl _ _).alloc (Nat.le_refl _) _⟩
set_option maxRecDepth 100000 in
set_option maxHeartbeats 1000000 in
theorem someSince (w : World) (gn cb : Nat) (room lost c : Int) (v : Value) (l : List Ev) (h : NtAt w gn room lost v l) (hcb : w.cell? ⟨cb, 0, none⟩ = some (.int .i64 c)) (hl : l.length ≤ 100000) :
    Calls Tryd.prog 27 #[.pointer (some ⟨gn, 0, none⟩), .func (.func 28) #[] #[.pointer (some ⟨cb, 0, none⟩)]] w fun r w' => ∃ v', r = .returned v' ∧ w'.ownsRow w.heap.size 23 4 v' (l.filter (isSince c)).length (flatE (l.filter (isSince c))) ∧ Below w.heap.size w w' := by
  obtain ⟨i0, hi, hz0, hz1, hz2⟩ := info_parts Tryd.info23
  have hc1 : w.cell? ⟨gn, 1, none⟩ = some v := h.blk.cell 1
  obtain ⟨A, cp, rfl⟩ : ∃ A c, v = .slice A l.length c := by
    rcases h.row.2 with ⟨rfl, h0⟩ | ⟨b, cap, cur, rfl, _⟩
    · rw [h0]; exact ⟨_, _, rfl⟩
    · exact ⟨_, _, rfl⟩
  have hr := Reads.of_own h.row
  have hcl := cell_lt hcb
  clear h
  go_enter Tryd.func27, Tryd.ntmps27
  go_wp2
  go_loopg [5, 13] l.length (fun k s5 s13 wr => SomeRel (isSince c) l w k s5 s13 wr)
  case atStart => exact ⟨0, rfl, Nat.zero_le _, rfl, World.ownsRow_nil _ _ _ _, Below.refl _ _⟩
  case round =>
    obtain ⟨i, hk, hil, rfl, hown, hbel⟩ := hrel
    have Hk := Lib.hid hk
    clear hk
    by_cases hlt : i < l.length
    · obtain ⟨ad, e, rfl, hadb, hx, hc0, hc1', hc2, hc3⟩ := ev_at (hr.below hbel) hlt
      have Hf := Lib.hid (filter_snoc (isSince c) l i hx)
      have hfl : ((l.take i).filter (isSince c)).length ≤ i := Nat.le_trans (List.length_filter_le _ _) (List.length_take_le _ _)
      clear hx
      have hcb' := below_cell hbel hcl hcb
      have hbA : Below w.heap.size w (wr.alloc (.cells #[.int .i64 e.at_, .int .i64 e.kind, .int .i64 e.who, .int .i64 e.n] 23)) := hbel.alloc hbel.size _
      have hcbA := (World.cell?_alloc_lt wr (.cells #[.int .i64 e.at_, .int .i64 e.kind, .int .i64 e.who, .int .i64 e.n] 23) ⟨cb, 0, none⟩ (cell_lt hcb')).trans hcb'
      have hE := Blk.new wr 23 #[.int .i64 e.at_, .int .i64 e.kind, .int .i64 e.who, .int .i64 e.n]
      have Hown := Lib.hid (hown.alloc (.cells #[.int .i64 e.at_, .int .i64 e.kind, .int .i64 e.who, .int .i64 e.n] 23))
      have HcbA := Lib.hid hcbA
      clear hown hcb' hcbA
      generalize hfl2 : (l.take i).filter (isSince c) = d at *
      have Hd := Lib.hid hfl2
      clear hfl2
      cases hb : isSince c e with
      | false =>
        have Hb := Lib.hid hb
        clear hb hE
        go_wp2_with (go_at_call 28; refine (clSince e c cb _ false Hb.out HcbA.out).mono ?_; rintro r w2 ⟨rfl, hb2⟩)
        go_roundg (l.length - (i + 1))
        case measure => rw [Hk.out]; omega
        case rel =>
          refine ⟨i + 1, rfl, hlt, by go_num, ?_, hbA.trans (hb2.mono hbA.size)⟩
          rw [Hf.out, Hb.out]
          simpa using own_below Hown.out hb2
      | true =>
        have Hb := Lib.hid hb
        clear hb
        go_wp2_with fail
        refine (clSince e c cb _ true Hb.out HcbA.out).mono ?_
        rintro r w2 ⟨rfl, hb2⟩
        have hE2 := hE.below hb2 hE.lt
        have q0 := hE2.cell 0
        have q1 := hE2.cell 1
        have q2 := hE2.cell 2
        have q3 := hE2.cell 3
        simp only [List.getElem?_toArray, List.getElem?_cons_zero, List.getElem?_cons_succ] at q0 q1 q2 q3
        have hb2w := hbA.trans (hb2.mono hbA.size)
        have Hown2 := Lib.hid (own_below Hown.out hb2)
        clear hE hE2 hb2
        go_wp2_with (at_builtin; refine wpList_append_own _ rfl _ _ 33 rfl w.heap.size 23 i0 (.agg #[.int .i64 0, .int .i64 0, .int .i64 0, .int .i64 0]) 4 32 Tryd.underlying33 hi hz0 hz1 hz2 rfl (by decide) _ _ _ rfl (Hown2.out.alloc _) ⟨w2.heap.size, 0, none⟩ 1 1 [.int .i64 e.at_, .int .i64 e.kind, .int .i64 e.who, .int .i64 e.n] rfl rfl ?c1 ?c2 ?c3 ?c4 ?c5 ?_)
        try (case c1 => exact World.news_of_block (cs := #[.int .i64 e.at_, .int .i64 e.kind, .int .i64 e.who, .int .i64 e.n]) (t := 23) (fr := (0, 0)) (heap_alloc_new w2 _))
        case c2 => simp [Value.oneCell']
        case c3 => unfold maxLen; omega
        case c4 => omega
        case c5 => (try simp); have := hb2w.size; omega
        intro v' w4 hown4 hgr4 _
        have hb4 : Below w.heap.size w w4 := (hb2w.alloc hb2w.size _).grown hgr4 (by (try simp); have := hb2w.size; omega) (fun k hk => (Hown2.out.lt k hk).1)
        have Hown4 := Lib.hid hown4
        clear hown4
        go_wp2
        go_roundg (l.length - (i + 1))
        case measure => rw [Hk.out]; omega
        case rel =>
          refine ⟨i + 1, rfl, hlt, by go_num, ?_, hb4⟩
          rw [Hf.out, Hb.out, if_pos rfl, flatE_append, List.length_append]
          exact Hown4.out
    · have hile : i = l.length := by omega
      have Hown := Lib.hid hown
      have Hile := Lib.hid hile
      clear hown hile
      go_wp2
      go_ret
      refine ⟨_, rfl, ?_, hbel⟩
      have h1 := Hown.out
      rw [Hile.out, List.take_of_length_le (Nat.le_refl _)] at h1
      exact h1
theorem Since_any (w : World) (gn : Nat) (room lost c : Int) (v : Value) (l : List Ev) (h : NtAt w gn room lost v l) (hl : l.length ≤ 100000) :
    Calls Tryd.prog 10 #[.pointer (some ⟨gn, 0, none⟩), .int .i64 c] w fun r w' => ∃ v', r = .returned v' ∧ w'.ownsRow w.heap.size 23 4 v' (l.filter (isSince c)).length (flatE (l.filter (isSince c))) ∧ Below w.heap.size w w' := by
  have hb : Below w.heap.size w (w.alloc (.cells #[.int .i64 c] 2)) := (Below.refl _ _).alloc (Nat.le_refl _) _
  have hs := someSince (w.alloc (.cells #[.int .i64 c] 2)) gn w.heap.size room lost c v l (h.below hb) ((Blk.new w 2 #[.int .i64 c]).cell 0) hl
  have Hs := Lib.hid hs
  clear hs h
  go_enter Tryd.func10, Tryd.ntmps10
  go_wp2_with (go_at_call 27; refine Hs.out.mono ?_; rintro r w2 ⟨v', rfl, hown, hb2⟩)
  go_ret
  exact ⟨v', rfl, own_mono hown (by simp), hb.trans (hb2.mono (by simp))⟩

/-- does the closure of Of say yes? -/
def isOf (c : Int) (e : Ev) : Bool := e.who == c
theorem clOf (e : Ev) (c : Int) (cb : Nat) (w : World) (b : Bool) (hb : isOf c e = b) (hc : w.cell? ⟨cb, 0, none⟩ = some (.int .i64 c)) :
    Calls Tryd.prog 29 #[.agg #[.int .i64 e.at_, .int .i64 e.kind, .int .i64 e.who, .int .i64 e.n], .pointer (some ⟨cb, 0, none⟩)] w fun r w' => r = .returned (.bool b) ∧ Below w.heap.size w w' := by
  have hl := cell_lt hc
  have hc' : (w.alloc (.cells #[.int .i64 e.at_, .int .i64 e.kind, .int .i64 e.who, .int .i64 e.n] 23)).cell? ⟨cb, 0, none⟩ = some (.int .i64 c) := (World.cell?_alloc_lt w _ ⟨cb, 0, none⟩ hl).trans hc
  have Hb := Lib.hid hb
  clear hb
  go_enter Tryd.func29, Tryd.ntmps29
  go_wp2
  go_ret
  exact ⟨ret_bool (by rw [← Hb.out]; rfl), (Below.refl _ _).alloc (Nat.le_refl _) _⟩
set_option maxRecDepth 100000 in
set_option maxHeartbeats 1000000 in
theorem someOf (w : World) (gn cb : Nat) (room lost c : Int) (v : Value) (l : List Ev) (h : NtAt w gn room lost v l) (hcb : w.cell? ⟨cb, 0, none⟩ = some (.int .i64 c)) (hl : l.length ≤ 100000) :
    Calls Tryd.prog 27 #[.pointer (some ⟨gn, 0, none⟩), .func (.func 29) #[] #[.pointer (some ⟨cb, 0, none⟩)]] w fun r w' => ∃ v', r = .returned v' ∧ w'.ownsRow w.heap.size 23 4 v' (l.filter (isOf c)).length (flatE (l.filter (isOf c))) ∧ Below w.heap.size w w' := by
  obtain ⟨i0, hi, hz0, hz1, hz2⟩ := info_parts Tryd.info23
  have hc1 : w.cell? ⟨gn, 1, none⟩ = some v := h.blk.cell 1
  obtain ⟨A, cp, rfl⟩ : ∃ A c, v = .slice A l.length c := by
    rcases h.row.2 with ⟨rfl, h0⟩ | ⟨b, cap, cur, rfl, _⟩
    · rw [h0]; exact ⟨_, _, rfl⟩
    · exact ⟨_, _, rfl⟩
  have hr := Reads.of_own h.row
  have hcl := cell_lt hcb
  clear h
  go_enter Tryd.func27, Tryd.ntmps27
  go_wp2
  go_loopg [5, 13] l.length (fun k s5 s13 wr => SomeRel (isOf c) l w k s5 s13 wr)
  case atStart => exact ⟨0, rfl, Nat.zero_le _, rfl, World.ownsRow_nil _ _ _ _, Below.refl _ _⟩
  case round =>
    obtain ⟨i, hk, hil, rfl, hown, hbel⟩ := hrel
    have Hk := Lib.hid hk
    clear hk
    by_cases hlt : i < l.length
    · obtain ⟨ad, e, rfl, hadb, hx, hc0, hc1', hc2, hc3⟩ := ev_at (hr.below hbel) hlt
      have Hf := Lib.hid (filter_snoc (isOf c) l i hx)
      have hfl : ((l.take i).filter (isOf c)).length ≤ i := Nat.le_trans (List.length_filter_le _ _) (List.length_take_le _ _)
      clear hx
      have hcb' := below_cell hbel hcl hcb
      have hbA : Below w.heap.size w (wr.alloc (.cells #[.int .i64 e.at_, .int .i64 e.kind, .int .i64 e.who, .int .i64 e.n] 23)) := hbel.alloc hbel.size _
      have hcbA := (World.cell?_alloc_lt wr (.cells #[.int .i64 e.at_, .int .i64 e.kind, .int .i64 e.who, .int .i64 e.n] 23) ⟨cb, 0, none⟩ (cell_lt hcb')).trans hcb'
      have hE := Blk.new wr 23 #[.int .i64 e.at_, .int .i64 e.kind, .int .i64 e.who, .int .i64 e.n]
      have Hown := Lib.hid (hown.alloc (.cells #[.int .i64 e.at_, .int .i64 e.kind, .int .i64 e.who, .int .i64 e.n] 23))
      have HcbA := Lib.hid hcbA
      clear hown hcb' hcbA
      generalize hfl2 : (l.take i).filter (isOf c) = d at *
      have Hd := Lib.hid hfl2
      clear hfl2
      cases hb : isOf c e with
      | false =>
        have Hb := Lib.hid hb
        clear hb hE
        go_wp2_with (go_at_call 29; refine (clOf e c cb _ false Hb.out HcbA.out).mono ?_; rintro r w2 ⟨rfl, hb2⟩)
        go_roundg (l.length - (i + 1))
        case measure => rw [Hk.out]; omega
        case rel =>
          refine ⟨i + 1, rfl, hlt, by go_num, ?_, hbA.trans (hb2.mono hbA.size)⟩
          rw [Hf.out, Hb.out]
          simpa using own_below Hown.out hb2
      | true =>
        have Hb := Lib.hid hb
        clear hb
        go_wp2_with fail
        refine (clOf e c cb _ true Hb.out HcbA.out).mono ?_
        rintro r w2 ⟨rfl, hb2⟩
        have hE2 := hE.below hb2 hE.lt
        have q0 := hE2.cell 0
        have q1 := hE2.cell 1
        have q2 := hE2.cell 2
        have q3 := hE2.cell 3
        simp only [List.getElem?_toArray, List.getElem?_cons_zero, List.getElem?_cons_succ] at q0 q1 q2 q3
        have hb2w := hbA.trans (hb2.mono hbA.size)
        have Hown2 := Lib.hid (own_below Hown.out hb2)
        clear hE hE2 hb2
        go_wp2_with (at_builtin; refine wpList_append_own _ rfl _ _ 33 rfl w.heap.size 23 i0 (.agg #[.int .i64 0, .int .i64 0, .int .i64 0, .int .i64 0]) 4 32 Tryd.underlying33 hi hz0 hz1 hz2 rfl (by decide) _ _ _ rfl (Hown2.out.alloc _) ⟨w2.heap.size, 0, none⟩ 1 1 [.int .i64 e.at_, .int .i64 e.kind, .int .i64 e.who, .int .i64 e.n] rfl rfl ?c1 ?c2 ?c3 ?c4 ?c5 ?_)
        try (case c1 => exact World.news_of_block (cs := #[.int .i64 e.at_, .int .i64 e.kind, .int .i64 e.who, .int .i64 e.n]) (t := 23) (fr := (0, 0)) (heap_alloc_new w2 _))
        case c2 => simp [Value.oneCell']
        case c3 => unfold maxLen; omega
        case c4 => omega
        case c5 => (try simp); have := hb2w.size; omega
        intro v' w4 hown4 hgr4 _
        have hb4 : Below w.heap.size w w4 := (hb2w.alloc hb2w.size _).grown hgr4 (by (try simp); have := hb2w.size; omega) (fun k hk => (Hown2.out.lt k hk).1)
        have Hown4 := Lib.hid hown4
        clear hown4
        go_wp2
        go_roundg (l.length - (i + 1))
        case measure => rw [Hk.out]; omega
        case rel =>
          refine ⟨i + 1, rfl, hlt, by go_num, ?_, hb4⟩
          rw [Hf.out, Hb.out, if_pos rfl, flatE_append, List.length_append]
          exact Hown4.out
    · have hile : i = l.length := by omega
      have Hown := Lib.hid hown
      have Hile := Lib.hid hile
      clear hown hile
      go_wp2
      go_ret
      refine ⟨_, rfl, ?_, hbel⟩
      have h1 := Hown.out
      rw [Hile.out, List.take_of_length_le (Nat.le_refl _)] at h1
      exact h1
theorem Of_any (w : World) (gn : Nat) (room lost c : Int) (v : Value) (l : List Ev) (h : NtAt w gn room lost v l) (hl : l.length ≤ 100000) :
    Calls Tryd.prog 15 #[.pointer (some ⟨gn, 0, none⟩), .int .i64 c] w fun r w' => ∃ v', r = .returned v' ∧ w'.ownsRow w.heap.size 23 4 v' (l.filter (isOf c)).length (flatE (l.filter (isOf c))) ∧ Below w.heap.size w w' := by
  have hb : Below w.heap.size w (w.alloc (.cells #[.int .i64 c] 3)) := (Below.refl _ _).alloc (Nat.le_refl _) _
  have hs := someOf (w.alloc (.cells #[.int .i64 c] 3)) gn w.heap.size room lost c v l (h.below hb) ((Blk.new w 3 #[.int .i64 c]).cell 0) hl
  have Hs := Lib.hid hs
  clear hs h
  go_enter Tryd.func15, Tryd.ntmps15
  go_wp2_with (go_at_call 27; refine Hs.out.mono ?_; rintro r w2 ⟨v', rfl, hown, hb2⟩)
  go_ret
  exact ⟨v', rfl, own_mono hown (by simp), hb.trans (hb2.mono (by simp))⟩
theorem All_any (w : World) (gn : Nat) (room lost : Int) (v : Value) (l : List Ev) (h : NtAt w gn room lost v l) (h0 : 0 < l.length) (hl : l.length ≤ 100000) :
    Calls Tryd.prog 14 #[.pointer (some ⟨gn, 0, none⟩)] w fun r w' => ∃ v', r = .returned v' ∧ w'.ownsRow w.heap.size 23 4 v' l.length (flatE l) ∧ Below w.heap.size w w' := by
  have hc1 : w.cell? ⟨gn, 1, none⟩ = some v := h.blk.cell 1
  obtain ⟨g, cap, rfl, _⟩ := own_full h.row h0
  have hs := Clone_any w ⟨g, 0, none⟩ l cap h0 hl (Reads.of_own h.row)
  have Hs := Lib.hid hs
  clear hs h
  go_enter Tryd.func14, Tryd.ntmps14
  go_wp2_with (go_at_call 26; refine Hs.out.mono ?_; rintro r w2 ⟨v', rfl, hown, hb2⟩)
  go_ret
  exact ⟨v', rfl, hown, hb2⟩
def SameRel (l : List Ev) (w : World) (k : Nat) (s5 : Value) (wr : World) : Prop := ∃ i : Nat, k = l.length - i ∧ i ≤ l.length ∧ s5 = .int .i64 i ∧ Below w.heap.size w wr
set_option maxRecDepth 100000 in
set_option maxHeartbeats 1000000 in
theorem same_any (w : World) (A B : Option Addr) (n ca cb : Nat) (l : List Ev) (hn : l.length = n) (ha : Reads w w.heap.size 4 A l.length (flatE l)) (hb : Reads w w.heap.size 4 B l.length (flatE l)) (hl : n ≤ 100000) :
    Calls Tryd.prog 13 #[.slice A n ca, .slice B n cb] w fun r w' => r = .returned (.bool true) ∧ Below w.heap.size w w' := by
  subst hn
  go_enter Tryd.func13, Tryd.ntmps13
  go_wp2
  go_loopg [5] l.length (fun k s5 wr => SameRel l w k s5 wr)
  case atStart => exact ⟨0, rfl, Nat.zero_le _, rfl, Below.refl _ _⟩
  case round =>
    obtain ⟨i, hk, hil, rfl, hbel⟩ := hrel
    have Hk := Lib.hid hk
    clear hk
    by_cases hlt : i < l.length
    · obtain ⟨a1, e, rfl, _, hx, p0, p1, p2, p3⟩ := ev_at (ha.below hbel) hlt
      obtain ⟨b1, e', rfl, _, hx', q0, q1, q2, q3⟩ := ev_at (hb.below hbel) hlt
      obtain rfl : e = e' := by rw [hx] at hx'; exact Option.some.inj hx'
      have i0 : (0 : Int) ≤ (i : Int) := by omega
      have i1 : (i : Int) < l.length := by omega
      clear hx hx'
      go_wp2_with fail
      go_quiet (fail)
      go_wp2
      go_roundg (l.length - (i + 1))
      case measure => rw [Hk.out]; omega
      case rel => exact ⟨i + 1, rfl, hlt, by go_num, below_drewN hbel _⟩
    · have hile : i = l.length := by omega
      go_wp2
      go_ret
      exact ⟨rfl, hbel⟩
end Go.Proofs.YtommmfncaadbeaaDoor
