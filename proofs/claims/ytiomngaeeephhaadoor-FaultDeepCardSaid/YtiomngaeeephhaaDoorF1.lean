/-
  fault's chains of wrapped errors in memory, and errors.as, errors.As on them, as contracts.
-/
import Derived.Test.YtiomngaeeephhaaDoorAs
import Derived.Test.YtiomngaeeephhaaDoorWd
import Derived.Deep.LoopGhost
namespace Go.Proofs.YtiomngaeeephhaaDoor
open Go.RowKit Go.Extern.Stop Go.Stop Go.Extern
attribute [local go_sem] Tryd.ext16 Tryd.ext17 Tryd.ext18 Tryd.ext39 Tryd.ext65 Tryd.ext66 Tryd.ext21 Tryd.ext63 Tryd.ext23 Tryd.ext24 Tryd.methodKind Tryd.methodElem Tryd.methodImplements Tryd.methodAssignableTo Tryd.methodComparable Tryd.valueOf30 Tryd.valueOf62 Tryd.type30 Tryd.type62 Tryd.kind30 Tryd.kind62 Tryd.kind28 Tryd.kind26 Tryd.elem30 Tryd.elem62 Tryd.implements28 Tryd.implements26 Tryd.typeOf28 Tryd.typeOf26 Tryd.assignable28to28 Tryd.assignable28to26 Tryd.assignable26to28 Tryd.assignable26to26 Tryd.valueOf28 Tryd.valueOf26 Tryd.comparable26 Tryd.ptrUnwrapAhead Tryd.ptrUnwrap Tryd.ptrErrorAhead Tryd.ptrError Tryd.intError Tryd.no28_70 Tryd.no26_70 Tryd.has28_57 Tryd.no26_57 Tryd.no28_73 Tryd.no26_73 Tryd.no28_76 Tryd.no26_76

/-- a chain of Faults (block, Op, ID), the outermost first, around the number c -/
def Ch (w : World) : List (Nat × ByteArray × Int) → Int → Value → Prop
  | [], c, v => v = .iface 26 (.int .i64 c)
  | (b, op, id) :: l, c, v => ∃ u, v = .iface 28 (.pointer (some ⟨b, 0, none⟩)) ∧ Blk w b 33 #[.string op, .int .i64 id, u] ∧ Ch w l c u
theorem Ch.iface {w : World} : ∀ {l : List (Nat × ByteArray × Int)} {c : Int} {v : Value}, Ch w l c v → ∃ t u, v = .iface t u
  | [], _, _, h => ⟨_, _, h⟩
  | (_, _, _) :: _, _, _, ⟨_, h, _⟩ => ⟨_, _, h⟩
theorem Ch.below {w w' : World} (hb : Below w.heap.size w w') : ∀ {l : List (Nat × ByteArray × Int)} {c : Int} {v : Value}, Ch w l c v → Ch w' l c v
  | [], _, _, h => h
  | (_, _, _) :: _, _, _, ⟨u, h, hk, hc⟩ => ⟨u, h, hk.below hb hk.lt, Ch.below hb hc⟩
/-- errors.errorType, as the program's start lays it -/
def HG (w : World) : Prop := w.cell? ⟨0, 0, none⟩ = some (.iface 66 (.agg #[.pointer (some ⟨4, 24, none⟩)]))
theorem HG.lt {w : World} (h : HG w) : 0 < w.heap.size := cell_lt h
theorem HG.below {w w' : World} (h : HG w) (hb : Below w.heap.size w w') : HG w' := below_cell hb h.lt h

theorem Unwrap_any (b : Nat) (u : Value) (w : World) (hb : w.cell? ⟨b, 2, none⟩ = some u) :
    Calls Tryd.prog 58 #[.pointer (some ⟨b, 0, none⟩)] w fun e w' => e = .returned u ∧ w = w' := by
  go_enter Tryd.func58, Tryd.ntmps58
  go_wp2
  go_ret
  exact ⟨rfl, rfl⟩

set_option maxHeartbeats 1000000 in
theorem as26 (l : List (Nat × ByteArray × Int)) (c : Int) (v : Value) (t q : Nat) (old : Int) (w : World) (hc : Ch w l c v) (ht : Blk w t 26 #[.int .i64 old]) (hq : w.cell? ⟨q, 0, none⟩ = some (.pointer (some ⟨t, 0, none⟩))) :
    Calls Tryd.prog 19 #[v, .iface 62 (.pointer (some ⟨t, 0, none⟩)), .agg #[.pointer (some ⟨4, 62, none⟩), .pointer (some ⟨q, 0, none⟩), .int .u64 150], .iface 66 (.agg #[.pointer (some ⟨4, 26, none⟩)])] w fun e w' => e = .returned (.bool true) ∧
      w' = ((w.setCell ⟨t, 0, none⟩ (.int .i64 c)).alloc (.cells #[.pointer (some ⟨4, 62, none⟩), .pointer (some ⟨q, 0, none⟩), .int .u64 150] 48)).alloc (.cells #[.int .i64 c] 26) := by
  have hlt := ht.lt
  have hql := cell_lt hq
  have el := Tryd.elemV62 ⟨q, 0, none⟩ ⟨t, 0, none⟩ (w.alloc (.cells #[.pointer (some ⟨4, 62, none⟩), .pointer (some ⟨q, 0, none⟩), .int .u64 150] 48)) (by rw [World.cell?_alloc_lt _ _ _ hql]; exact hq)
  have st := Tryd.set26 ⟨t, 0, none⟩ ⟨w.heap.size + 1, 0, none⟩ c (.int .i64 old) ((w.alloc (.cells #[.pointer (some ⟨4, 62, none⟩), .pointer (some ⟨q, 0, none⟩), .int .u64 150] 48)).alloc (.cells #[.int .i64 c] 26))
    (by simp) (((ht.alloc _).alloc _).cell 0) (((ht.alloc _).alloc _).frozen 0)
  clear ht hq
  go_enter Tryd.func19, Tryd.ntmps19
  go_wp2
  go_loopg [0] l.length (fun k s0 wr => ∃ l', k = l'.length ∧ Ch w l' c s0 ∧ wr = w.alloc (.cells #[.pointer (some ⟨4, 62, none⟩), .pointer (some ⟨q, 0, none⟩), .int .u64 150] 48))
  case atStart => exact ⟨l, rfl, hc, rfl⟩
  case round =>
    obtain ⟨l', hk, hc', rfl⟩ := hrel
    clear hc
    cases l' with
    | nil =>
      obtain rfl := hc'
      go_wp2
      go_ret
      exact ⟨rfl, rfl⟩
    | cons x l' =>
      obtain ⟨b, op, id⟩ := x
      obtain ⟨u, rfl, hb, hu⟩ := hc'
      have hb3 : (w.alloc (.cells #[.pointer (some ⟨4, 62, none⟩), .pointer (some ⟨q, 0, none⟩), .int .u64 150] 48)).cell? ⟨b, 2, none⟩ = some u := (hb.alloc _).cell 2
      obtain ⟨tu, uu, rfl⟩ := hu.iface
      have H := Lib.hid hu
      clear hu hb
      go_wp2_with (go_at_call 58; refine (Unwrap_any _ _ _ hb3).mono ?_; rintro e w' ⟨rfl, rfl⟩)
      go_roundg l'.length
      case measure => rw [hk]; simp
      case rel => exact ⟨l', rfl, H.out, rfl⟩

set_option maxHeartbeats 1000000 in
theorem as28_hit (e : Nat) (t q : Nat) (old : Value) (w : World) (ht : Blk w t 28 #[old]) (hq : w.cell? ⟨q, 0, none⟩ = some (.pointer (some ⟨t, 0, none⟩))) :
    Calls Tryd.prog 19 #[.iface 28 (.pointer (some ⟨e, 0, none⟩)), .iface 30 (.pointer (some ⟨t, 0, none⟩)), .agg #[.pointer (some ⟨4, 30, none⟩), .pointer (some ⟨q, 0, none⟩), .int .u64 150], .iface 66 (.agg #[.pointer (some ⟨4, 28, none⟩)])] w fun ev w' => ev = .returned (.bool true) ∧
      w' = ((w.setCell ⟨t, 0, none⟩ (.pointer (some ⟨e, 0, none⟩))).alloc (.cells #[.pointer (some ⟨4, 30, none⟩), .pointer (some ⟨q, 0, none⟩), .int .u64 150] 48)).alloc (.cells #[.pointer (some ⟨e, 0, none⟩)] 28) := by
  have hlt := ht.lt
  have hql := cell_lt hq
  have el := Tryd.elemV30 ⟨q, 0, none⟩ ⟨t, 0, none⟩ (w.alloc (.cells #[.pointer (some ⟨4, 30, none⟩), .pointer (some ⟨q, 0, none⟩), .int .u64 150] 48)) (by rw [World.cell?_alloc_lt _ _ _ hql]; exact hq)
  have st := Tryd.set28 ⟨t, 0, none⟩ ⟨w.heap.size + 1, 0, none⟩ ⟨e, 0, none⟩ old ((w.alloc (.cells #[.pointer (some ⟨4, 30, none⟩), .pointer (some ⟨q, 0, none⟩), .int .u64 150] 48)).alloc (.cells #[.pointer (some ⟨e, 0, none⟩)] 28))
    (by simp) (((ht.alloc _).alloc _).cell 0) (((ht.alloc _).alloc _).frozen 0)
  clear ht hq
  go_enter Tryd.func19, Tryd.ntmps19
  go_wp2
  refine wp_loop_rounds 1 ?_
  rw [rounds_succ]
  go_wp2
  go_ret
  exact ⟨rfl, rfl⟩

set_option maxHeartbeats 1000000 in
theorem as28_miss (c : Int) (t q : Nat) (w : World) :
    Calls Tryd.prog 19 #[.iface 26 (.int .i64 c), .iface 30 (.pointer (some ⟨t, 0, none⟩)), .agg #[.pointer (some ⟨4, 30, none⟩), .pointer (some ⟨q, 0, none⟩), .int .u64 150], .iface 66 (.agg #[.pointer (some ⟨4, 28, none⟩)])] w fun ev w' => ev = .returned (.bool false) ∧ w' = w.alloc (.cells #[.pointer (some ⟨4, 30, none⟩), .pointer (some ⟨q, 0, none⟩), .int .u64 150] 48) := by
  go_enter Tryd.func19, Tryd.ntmps19
  go_wp2
  refine wp_loop_rounds 1 ?_
  rw [rounds_succ]
  go_wp2
  go_ret
  exact ⟨rfl, rfl⟩

/-- errors.As at a target of type *T that points to block t: only t may have turned; new blocks -/
def Asked (t : Nat) (T : TypeId) (u : Value) (w w' : World) : Prop := Blk w' t T #[u] ∧ w.grownBy w' (some t)
theorem asked_of {t : Nat} {T : TypeId} {u old : Value} {w : World} (h : Blk w t T #[old]) (o1 o2 o3 o4 : Obj) : Asked t T u w (((((w.setCell ⟨t, 0, none⟩ u).alloc o1).alloc o2).alloc o3).alloc o4) :=
  ⟨((((h.set_ 0 u).alloc o1).alloc o2).alloc o3).alloc o4, only_alloc (only_alloc (only_alloc (only_alloc (only_setCell (only_refl w _) (.inl rfl) u) _) _) _) _⟩
theorem asked_same {t : Nat} {T : TypeId} {old : Value} {w : World} (h : Blk w t T #[old]) (o1 o2 o3 : Obj) : Asked t T old w (((w.alloc o1).alloc o2).alloc o3) :=
  ⟨((h.alloc o1).alloc o2).alloc o3, only_alloc (only_alloc (only_alloc (only_refl w _) _) _) _⟩

set_option maxHeartbeats 1000000 in
theorem As28_miss (c : Int) (t : Nat) (old : Value) (w : World) (hg : HG w) (ht : Blk w t 28 #[old]) :
    Calls Tryd.prog 8 #[.iface 26 (.int .i64 c), .iface 30 (.pointer (some ⟨t, 0, none⟩))] w fun ev w' => ev = .returned (.bool false) ∧ Asked t 28 old w w' := by
  have n8 := Tryd.isNil30 ⟨w.heap.size, 0, none⟩ ⟨t, 0, none⟩ ((w.alloc (.cells #[.pointer (some ⟨t, 0, none⟩)] 30)).alloc (.cells #[.pointer (some ⟨4, 30, none⟩), .pointer (some ⟨w.heap.size, 0, none⟩), .int .u64 150] 48)) (by simp)
  have hg2 : ((w.alloc (.cells #[.pointer (some ⟨t, 0, none⟩)] 30)).alloc (.cells #[.pointer (some ⟨4, 30, none⟩), .pointer (some ⟨w.heap.size, 0, none⟩), .int .u64 150] 48)).cell? ⟨0, 0, none⟩ = some (.iface 66 (.agg #[.pointer (some ⟨4, 24, none⟩)])) :=
    hg.below (((Below.refl _ _).alloc (Nat.le_refl _) _).alloc (by simp) _)
  have hfin := asked_same ht (.cells #[.pointer (some ⟨t, 0, none⟩)] 30) (.cells #[.pointer (some ⟨4, 30, none⟩), .pointer (some ⟨w.heap.size, 0, none⟩), .int .u64 150] 48) (.cells #[.pointer (some ⟨4, 30, none⟩), .pointer (some ⟨w.heap.size, 0, none⟩), .int .u64 150] 48)
  have hf := Lib.hid hfin
  clear hfin ht hg
  go_enter Tryd.func8, Tryd.ntmps8
  go_wp2_with (go_at_call 19; refine (as28_miss c t w.heap.size _).mono ?_; rintro e w' ⟨rfl, rfl⟩)
  go_ret
  exact ⟨rfl, hf.out⟩

set_option maxHeartbeats 1000000 in
theorem As28_hit (e : Nat) (t : Nat) (old : Value) (w : World) (hg : HG w) (ht : Blk w t 28 #[old]) :
    Calls Tryd.prog 8 #[.iface 28 (.pointer (some ⟨e, 0, none⟩)), .iface 30 (.pointer (some ⟨t, 0, none⟩))] w fun ev w' => ev = .returned (.bool true) ∧ Asked t 28 (.pointer (some ⟨e, 0, none⟩)) w w' := by
  have n8 := Tryd.isNil30 ⟨w.heap.size, 0, none⟩ ⟨t, 0, none⟩ ((w.alloc (.cells #[.pointer (some ⟨t, 0, none⟩)] 30)).alloc (.cells #[.pointer (some ⟨4, 30, none⟩), .pointer (some ⟨w.heap.size, 0, none⟩), .int .u64 150] 48)) (by simp)
  have hg2 : ((w.alloc (.cells #[.pointer (some ⟨t, 0, none⟩)] 30)).alloc (.cells #[.pointer (some ⟨4, 30, none⟩), .pointer (some ⟨w.heap.size, 0, none⟩), .int .u64 150] 48)).cell? ⟨0, 0, none⟩ = some (.iface 66 (.agg #[.pointer (some ⟨4, 24, none⟩)])) :=
    hg.below (((Below.refl _ _).alloc (Nat.le_refl _) _).alloc (by simp) _)
  have hfin := asked_of (u := .pointer (some ⟨e, 0, none⟩)) ht (.cells #[.pointer (some ⟨t, 0, none⟩)] 30) (.cells #[.pointer (some ⟨4, 30, none⟩), .pointer (some ⟨w.heap.size, 0, none⟩), .int .u64 150] 48) (.cells #[.pointer (some ⟨4, 30, none⟩), .pointer (some ⟨w.heap.size, 0, none⟩), .int .u64 150] 48) (.cells #[.pointer (some ⟨e, 0, none⟩)] 28)
  have hf := Lib.hid hfin
  have ht2 : Blk ((w.alloc (.cells #[.pointer (some ⟨t, 0, none⟩)] 30)).alloc (.cells #[.pointer (some ⟨4, 30, none⟩), .pointer (some ⟨w.heap.size, 0, none⟩), .int .u64 150] 48)) t 28 #[old] := (ht.alloc _).alloc _
  have htl := ht.lt
  clear hfin ht hg
  go_enter Tryd.func8, Tryd.ntmps8
  go_wp2_with (go_at_call 19; refine (as28_hit e t w.heap.size old _ ht2 (by simp)).mono ?_; rintro e w' ⟨rfl, rfl⟩)
  go_ret
  exact ⟨rfl, hf.out⟩

set_option maxHeartbeats 1000000 in
theorem As26 (l : List (Nat × ByteArray × Int)) (c : Int) (v : Value) (t : Nat) (old : Int) (w : World) (hc : Ch w l c v) (hg : HG w) (ht : Blk w t 26 #[.int .i64 old]) :
    Calls Tryd.prog 8 #[v, .iface 62 (.pointer (some ⟨t, 0, none⟩))] w fun ev w' => ev = .returned (.bool true) ∧ Asked t 26 (.int .i64 c) w w' := by
  have n8 := Tryd.isNil62 ⟨w.heap.size, 0, none⟩ ⟨t, 0, none⟩ ((w.alloc (.cells #[.pointer (some ⟨t, 0, none⟩)] 62)).alloc (.cells #[.pointer (some ⟨4, 62, none⟩), .pointer (some ⟨w.heap.size, 0, none⟩), .int .u64 150] 48)) (by simp)
  have hg2 : ((w.alloc (.cells #[.pointer (some ⟨t, 0, none⟩)] 62)).alloc (.cells #[.pointer (some ⟨4, 62, none⟩), .pointer (some ⟨w.heap.size, 0, none⟩), .int .u64 150] 48)).cell? ⟨0, 0, none⟩ = some (.iface 66 (.agg #[.pointer (some ⟨4, 24, none⟩)])) :=
    hg.below (((Below.refl _ _).alloc (Nat.le_refl _) _).alloc (by simp) _)
  have hc2 : Ch ((w.alloc (.cells #[.pointer (some ⟨t, 0, none⟩)] 62)).alloc (.cells #[.pointer (some ⟨4, 62, none⟩), .pointer (some ⟨w.heap.size, 0, none⟩), .int .u64 150] 48)) l c v := hc.below (((Below.refl _ _).alloc (Nat.le_refl _) _).alloc (by simp) _)
  have hfin := asked_of (u := .int .i64 c) ht (.cells #[.pointer (some ⟨t, 0, none⟩)] 62) (.cells #[.pointer (some ⟨4, 62, none⟩), .pointer (some ⟨w.heap.size, 0, none⟩), .int .u64 150] 48) (.cells #[.pointer (some ⟨4, 62, none⟩), .pointer (some ⟨w.heap.size, 0, none⟩), .int .u64 150] 48) (.cells #[.int .i64 c] 26)
  have hf := Lib.hid hfin
  have ht2 : Blk ((w.alloc (.cells #[.pointer (some ⟨t, 0, none⟩)] 62)).alloc (.cells #[.pointer (some ⟨4, 62, none⟩), .pointer (some ⟨w.heap.size, 0, none⟩), .int .u64 150] 48)) t 26 #[.int .i64 old] := (ht.alloc _).alloc _
  have htl := ht.lt
  obtain ⟨tu, uu, rfl⟩ := hc.iface
  have H := Lib.hid hc2
  clear hfin ht hg hc hc2
  go_enter Tryd.func8, Tryd.ntmps8
  go_wp2_with (go_at_call 19; refine (as26 l c _ t w.heap.size old _ H.out ht2 (by simp)).mono ?_; rintro e w' ⟨rfl, rfl⟩)
  go_ret
  exact ⟨rfl, hf.out⟩
end Go.Proofs.YtiomngaeeephhaaDoor
