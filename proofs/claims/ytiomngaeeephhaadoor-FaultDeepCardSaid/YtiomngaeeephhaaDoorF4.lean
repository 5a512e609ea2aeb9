/-
  fault's Who and Code, the laws' texts and awake, as contracts.
-/
import Derived.Test.YtiomngaeeephhaaDoorF3
import Derived.Deep.QuietTactic
import Derived.BigQuiet
namespace Go.Proofs.YtiomngaeeephhaaDoor
open Go.RowKit Go.Extern.Stop Go.Stop Go.Extern
attribute [local go_sem] Tryd.ext16 Tryd.ext17 Tryd.ext18 Tryd.ext39 Tryd.ext65 Tryd.ext66 Tryd.ext21 Tryd.ext63 Tryd.ext23 Tryd.ext24 Tryd.methodKind Tryd.methodElem Tryd.methodImplements Tryd.methodAssignableTo Tryd.methodComparable Tryd.valueOf30 Tryd.valueOf62 Tryd.type30 Tryd.type62 Tryd.kind30 Tryd.kind62 Tryd.kind28 Tryd.kind26 Tryd.elem30 Tryd.elem62 Tryd.implements28 Tryd.implements26 Tryd.typeOf28 Tryd.typeOf26 Tryd.assignable28to28 Tryd.assignable28to26 Tryd.assignable26to28 Tryd.assignable26to26 Tryd.valueOf28 Tryd.valueOf26 Tryd.comparable26 Tryd.ptrUnwrapAhead Tryd.ptrUnwrap Tryd.ptrErrorAhead Tryd.ptrError Tryd.intError Tryd.no28_70 Tryd.no26_70 Tryd.has28_57 Tryd.no26_57 Tryd.no28_73 Tryd.no26_73 Tryd.no28_76 Tryd.no26_76
attribute [local go_sem] Tryd.eqE Tryd.eqFE

/-- what Who answers: the ID of the first one with that Op -/
def whoF : List (Nat × ByteArray × Int) → ByteArray → Option Int
  | [], _ => none
  | x :: l, op => if x.2.1 = op then some x.2.2 else whoF l op
theorem whoF_skip : ∀ (l : List (Nat × ByteArray × Int)) (op : ByteArray) (i : Nat), (∀ k x, k < i → l[k]? = some x → x.2.1 ≠ op) → whoF l op = whoF (l.drop i) op
  | l, op, 0, _ => by simp
  | [], op, i + 1, _ => by simp
  | x :: l, op, i + 1, h => by
    have h0 := h 0 x (by omega) (by simp)
    rw [whoF, if_neg h0, List.drop_succ_cons]
    exact whoF_skip l op i fun k y hk hy => h (k + 1) y (by omega) (by simpa using hy)
theorem str_ne {a b : ByteArray} (h : a ≠ b) : (a.toList == b.toList) = false := by
  rw [beq_eq_false_iff_ne]
  intro e
  rw [ByteArray.toList_eq, ByteArray.toList_eq] at e
  exact h (by cases a; cases b; simp only [ByteArray.mk.injEq]; exact Array.toList_inj.1 e)
theorem drop_some {α : Type} {l : List α} {i : Nat} {x : α} (h : l[i]? = some x) : l.drop i = x :: l.drop (i + 1) := by
  obtain ⟨hi, rfl⟩ := List.getElem?_eq_some_iff.1 h
  exact List.drop_eq_getElem_cons hi
def WhoRel (l : List (Nat × ByteArray × Int)) (op : ByteArray) (w1 : World) (k : Nat) (s9 : Value) (wr : World) : Prop :=
  ∃ i : Nat, k = l.length - i ∧ i ≤ l.length ∧ s9 = .int .i64 i ∧ wr = w1 ∧ ∀ j x, j < i → l[j]? = some x → x.2.1 ≠ op

set_option maxHeartbeats 1000000 in
theorem Who_any (l : List (Nat × ByteArray × Int)) (c : Int) (v : Value) (op : ByteArray) (w : World) (hl : l.length ≤ 1000) (hc : Ch w l c v) (hg : HG w) :
    Calls Tryd.prog 12 #[v, .string op] w fun e w' => e = .returned (.tuple #[.int .i64 ((whoF l op).getD 0), .bool (whoF l op).isSome]) ∧ Below w.heap.size w w' := by
  have Hc := Lib.hid hc
  go_enter Tryd.func12, Tryd.ntmps12
  go_wp2_with (go_at_call 20; refine (all_any l c v _ hl Hc.out hg).mono ?_; rintro e w1 ⟨r, rfl, hown, hb⟩; obtain ⟨A, kk, rfl⟩ := own_val hown)
  clear hc
  go_loopg [11] l.length (fun k s11 wr => WhoRel l op w1 k s11 wr)
  case atStart => exact ⟨0, rfl, Nat.zero_le _, rfl, rfl, fun j x hj => by omega⟩
  case round =>
    obtain ⟨i, hk, hil, rfl, rfl, hno⟩ := hrel
    have Hk := Lib.hid hk
    have Hno := Lib.hid hno
    clear hk hno
    by_cases hlt : i < l.length
    · obtain ⟨g, u, rfl, hg1, hg2, hx, hcell⟩ := own_at hown hlt
      obtain ⟨⟨b, op', id⟩, hxl, hu⟩ : ∃ x, l[i]? = some x ∧ u = .pointer (some ⟨x.1, 0, none⟩) := by
        rw [ptrs, List.getElem?_map] at hx
        obtain ⟨x, h1, h2⟩ := Option.map_eq_some_iff.1 hx
        exact ⟨x, h1, h2.symm⟩
      subst hu
      obtain ⟨hbl, hb0, hb1⟩ := Hc.out.cell0 i _ hxl
      have hbr0 : wr.cell? ⟨b, 0, none⟩ = some (.string op') := below_cell hb hbl hb0
      have hbr1 : wr.cell? ⟨b, 1, none⟩ = some (.int .i64 id) := below_cell hb hbl hb1
      have Hx := Lib.hid hxl
      clear hx hxl hb0 hb1
      by_cases he : op' = op
      · subst he
        go_wp2
        go_ret2
        have hw : whoF l op' = some id := by rw [whoF_skip l op' i Hno.out, drop_some Hx.out, whoF, if_pos rfl]
        exact ⟨by rw [hw]; rfl, hb⟩
      · have He := Lib.hid he
        have heb : (op'.toList == op.toList) = false := str_ne he
        clear he
        go_wp2
        go_roundg (l.length - (i + 1))
        case measure => rw [Hk.out]; omega
        case rel =>
          refine ⟨i + 1, rfl, hlt, by go_num, rfl, fun j x hj hx => ?_⟩
          rcases Nat.lt_or_ge j i with h | h
          · exact Hno.out j x h hx
          · obtain rfl : j = i := by omega
            rw [Hx.out] at hx
            injection hx with hx
            subst hx
            exact He.out
    · have hile : i = l.length := by omega
      go_wp2
      go_ret2
      have hw : whoF l op = none := by rw [whoF_skip l op i Hno.out, hile, List.drop_length, whoF]
      exact ⟨by rw [hw]; rfl, hb⟩

set_option maxHeartbeats 1000000 in
theorem Code_any (l : List (Nat × ByteArray × Int)) (c : Int) (v : Value) (w : World) (hc : Ch w l c v) (hg : HG w) :
    Calls Tryd.prog 13 #[v] w fun e w' => e = .returned (.int .i64 c) ∧ Below w.heap.size w w' := by
  have hb0 : Below w.heap.size w (w.alloc (.cells #[.int .i64 0] 26)) := (Below.refl _ _).alloc (Nat.le_refl _) _
  have Hc := Lib.hid (hc.below hb0)
  have Hg := Lib.hid (hg.below hb0)
  have Hk := Lib.hid (Blk.new w 26 #[.int .i64 0])
  obtain ⟨tu, uu, rfl⟩ := hc.iface
  clear hc hg
  go_enter Tryd.func13, Tryd.ntmps13
  go_wp2_with (go_at_call 8; refine (As26 l c _ w.heap.size 0 _ Hc.out Hg.out Hk.out).mono ?_; rintro e w1 ⟨rfl, hA⟩; have hc1 := hA.1.cell 0; simp only [List.getElem?_toArray, List.getElem?_cons_zero] at hc1)
  go_ret
  exact ⟨rfl, hb0.trans (below_of_only hA.2 (by simp) (Nat.le_refl _))⟩

def TextsRel (n : Nat) (w1 : World) (k : Nat) (s5 : Value) (wr : World) : Prop :=
  ∃ i m : Nat, k = n - i ∧ i ≤ n ∧ s5 = .int .i64 i ∧ wr = w1.drewN m
set_option maxHeartbeats 1000000 in
/-- two slices of strings that read alike -/
theorem texts_same (A A' : Option Addr) (n c c' B B' : Nat) (l : List ByteArray) (w : World) (hn : n ≤ 100000) (h : Reads w B 1 A n (l.map .string)) (h' : Reads w B' 1 A' n (l.map .string)) :
    Calls Tryd.prog 14 #[.slice A n c, .slice A' n c'] w fun e w' => e = .returned (.bool true) ∧ ∃ m, w' = w.drewN m := by
  go_enter Tryd.func14, Tryd.ntmps14
  go_wp2
  go_loopg [5] n (fun k s5 wr => TextsRel n w k s5 wr)
  case atStart => exact ⟨0, 0, rfl, Nat.zero_le _, rfl, rfl⟩
  case round =>
    obtain ⟨i, m, hk, hil, rfl, rfl⟩ := hrel
    have Hk := Lib.hid hk
    clear hk
    by_cases hlt : i < n
    · obtain ⟨ad, u, rfl, _, hx, hcell⟩ := h.at_ hlt
      obtain ⟨ad', u', rfl, _, hx', hcell'⟩ := h'.at_ hlt
      obtain rfl : u = u' := by rw [hx] at hx'; injection hx'
      obtain ⟨s, rfl⟩ : ∃ s, u = .string s := by
        rw [List.getElem?_map] at hx
        obtain ⟨x, _, h2⟩ := Option.map_eq_some_iff.1 hx
        exact ⟨x, h2.symm⟩
      clear hx hx'
      go_wp2
      go_quiet (fail)
      go_wp2
      go_roundg (n - (i + 1))
      case measure => rw [Hk.out]; omega
      case rel => exact ⟨i + 1, _, rfl, hlt, by go_num, rfl⟩
    · go_wp2
      go_ret
      exact ⟨rfl, m, rfl⟩
end Go.Proofs.YtiomngaeeephhaaDoor
