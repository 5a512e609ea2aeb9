/-
  fault's Deep, Ops, Who, Code, the laws' texts and awake, as contracts.
-/
import Derived.Test.YtiomngaeeephhaaDoorF2
import Derived.Deep.QuietTactic
import Derived.BigQuiet
namespace Go.Proofs.YtiomngaeeephhaaDoor
open Go.RowKit Go.Extern.Stop Go.Stop Go.Extern
attribute [local go_sem] Tryd.ext16 Tryd.ext17 Tryd.ext18 Tryd.ext39 Tryd.ext65 Tryd.ext66 Tryd.ext21 Tryd.ext63 Tryd.ext23 Tryd.ext24 Tryd.methodKind Tryd.methodElem Tryd.methodImplements Tryd.methodAssignableTo Tryd.methodComparable Tryd.valueOf30 Tryd.valueOf62 Tryd.type30 Tryd.type62 Tryd.kind30 Tryd.kind62 Tryd.kind28 Tryd.kind26 Tryd.elem30 Tryd.elem62 Tryd.implements28 Tryd.implements26 Tryd.typeOf28 Tryd.typeOf26 Tryd.assignable28to28 Tryd.assignable28to26 Tryd.assignable26to28 Tryd.assignable26to26 Tryd.valueOf28 Tryd.valueOf26 Tryd.comparable26 Tryd.ptrUnwrapAhead Tryd.ptrUnwrap Tryd.ptrErrorAhead Tryd.ptrError Tryd.intError Tryd.no28_70 Tryd.no26_70 Tryd.has28_57 Tryd.no26_57 Tryd.no28_73 Tryd.no26_73 Tryd.no28_76 Tryd.no26_76
attribute [local go_sem] Tryd.eqE Tryd.eqFE

theorem own_val {w : World} {base : Nat} {e : TypeId} {size : Nat} {v : Value} {n : Nat} {xs : List Value} (h : w.ownsRow base e size v n xs) : ∃ A k, v = .slice A n k := by
  rcases h.2 with ⟨rfl, rfl⟩ | ⟨g, cap, cur, rfl, _⟩
  · exact ⟨_, _, rfl⟩
  · exact ⟨_, _, rfl⟩
theorem Itoa3 (w : World) : Calls Tryd.prog 43 #[.int .i64 3] w fun e w' => e = .returned (.string ⟨#[51]⟩) ∧ w = w' := by
  go_enter Tryd.func43, Tryd.ntmps43
  go_wp2
  go_ret
  exact ⟨rfl, rfl⟩
theorem Itoa5 (w : World) : Calls Tryd.prog 43 #[.int .i64 5] w fun e w' => e = .returned (.string ⟨#[53]⟩) ∧ w = w' := by
  go_enter Tryd.func43, Tryd.ntmps43
  go_wp2
  go_ret
  exact ⟨rfl, rfl⟩
theorem Error5 (w : World) : Calls Tryd.prog 42 #[.int .i64 5] w fun e w' => e = .returned (.string ⟨#[101, 114, 114, 111, 114, 32, 53]⟩) ∧ w = w' := by
  go_enter Tryd.func42, Tryd.ntmps42
  go_wp2_with (go_at_call 43; refine (Itoa5 _).mono ?_; rintro e w' ⟨rfl, rfl⟩)
  go_ret
  exact ⟨rfl, rfl⟩
theorem ErrorLock (b : Nat) (w : World) (hb : Blk w b 33 #[.string ⟨#[108, 111, 99, 107]⟩, .int .i64 3, .iface 26 (.int .i64 5)]) :
    Calls Tryd.prog 57 #[.pointer (some ⟨b, 0, none⟩)] w fun e w' => e = .returned (.string ⟨#[108, 111, 99, 107, 32, 51, 58, 32, 101, 114, 114, 111, 114, 32, 53]⟩) ∧ ∃ n, w' = w.drewN n := by
  have h0 := hb.cell 0
  have h1 := hb.cell 1
  have h2 := hb.cell 2
  simp only [List.getElem?_toArray, List.getElem?_cons_zero, List.getElem?_cons_succ] at h0 h1 h2
  clear hb
  go_enter Tryd.func57, Tryd.ntmps57
  go_wp2_with (go_at_call 42; refine (Error5 _).mono ?_; rintro e w' ⟨rfl, rfl⟩)
  go_quiet ((go_at_call 43; exact Calls.quiet_of_same ((Itoa3 _).mono fun _ _ h => ⟨h.1, h.2.symm⟩)))
  go_wp2
  go_ret
  exact ⟨rfl, _, rfl⟩
theorem Deep_any (l : List (Nat × ByteArray × Int)) (c : Int) (v : Value) (w : World) (hl : l.length ≤ 1000) (hc : Ch w l c v) (hg : HG w) :
    Calls Tryd.prog 10 #[v] w fun e w' => e = .returned (.int .i64 l.length) ∧ Below w.heap.size w w' := by
  go_enter Tryd.func10, Tryd.ntmps10
  go_wp2_with (go_at_call 20; refine (all_any l c v _ hl hc hg).mono ?_; rintro e w1 ⟨r, rfl, hown, hb⟩; obtain ⟨A, k, rfl⟩ := own_val hown)
  go_ret
  exact ⟨rfl, hb⟩

theorem own_at {w : World} {base : Nat} {e : TypeId} {n c k : Nat} {A : Option Addr} {xs : List Value} (h : w.ownsRow base e 1 (.slice A n c) n xs) (hk : k < n) :
    ∃ g u, A = some ⟨g, 0, none⟩ ∧ base ≤ g ∧ g < w.heap.size ∧ xs[k]? = some u ∧ w.cell? ⟨g, k, none⟩ = some u := by
  obtain ⟨g, cap, hv, hb, hg⟩ := h.form (by omega)
  injection hv with hA _ hc
  subst hA; subst hc
  have hl : k < xs.length := by have := h.1; omega
  exact ⟨g, xs[k], rfl, hb, hg, List.getElem?_eq_getElem hl, (h.cellAt k (by omega)).trans (List.getElem?_eq_getElem hl)⟩
theorem own_mono {w : World} {base base' : Nat} {e : TypeId} {size : Nat} {v : Value} {n : Nat} {xs : List Value} (h : w.ownsRow base e size v n xs) (hb : base' ≤ base) : w.ownsRow base' e size v n xs := by
  refine ⟨h.1, ?_⟩
  rcases h.2 with h | ⟨g, cap, cur, h1, h2, h3⟩
  · exact .inl h
  · exact .inr ⟨g, cap, cur, h1, Nat.le_trans hb h2, h3⟩
theorem Ch.cell0 {w : World} : ∀ {l : List (Nat × ByteArray × Int)} {c : Int} {v : Value}, Ch w l c v → ∀ (k : Nat) (x : Nat × ByteArray × Int), l[k]? = some x → x.1 < w.heap.size ∧ w.cell? ⟨x.1, 0, none⟩ = some (.string x.2.1) ∧ w.cell? ⟨x.1, 1, none⟩ = some (.int .i64 x.2.2)
  | (b, op, id) :: l, c, v, ⟨u, _, hk, hc⟩, 0, x, hx => by
    obtain rfl : (b, op, id) = x := by simpa using hx
    exact ⟨hk.lt, hk.cell 0, hk.cell 1⟩
  | (b, op, id) :: l, c, v, ⟨u, _, _, hc⟩, k + 1, x, hx => hc.cell0 k x (by simpa using hx)

def ops (l : List (Nat × ByteArray × Int)) : List Value := l.map fun x => .string x.2.1
def OpsRel (l : List (Nat × ByteArray × Int)) (w w1 : World) (k : Nat) (s3 s9 : Value) (wr : World) : Prop :=
  ∃ i : Nat, k = l.length - i ∧ i ≤ l.length ∧ s9 = .int .i64 i ∧ wr.ownsRow w1.heap.size 9 1 s3 i (ops (l.take i)) ∧ Below w1.heap.size w1 wr
theorem ops_snoc (l : List (Nat × ByteArray × Int)) (i : Nat) (x : Nat × ByteArray × Int) (h : l[i]? = some x) : ops (l.take i) ++ [.string x.2.1] = ops (l.take (i + 1)) := by
  rw [List.take_add_one, h]; simp [ops]

set_option maxHeartbeats 1000000 in
theorem Ops_any (l : List (Nat × ByteArray × Int)) (c : Int) (v : Value) (w : World) (hl : l.length ≤ 1000) (hc : Ch w l c v) (hg : HG w) :
    Calls Tryd.prog 11 #[v] w fun e w' => ∃ r, e = .returned r ∧ w'.ownsRow w.heap.size 9 1 r l.length (ops l) ∧ Below w.heap.size w w' := by
  obtain ⟨i0, hi, hz0, hz1, hz2⟩ := info_parts Tryd.info9
  have Hc := Lib.hid hc
  go_enter Tryd.func11, Tryd.ntmps11
  go_wp2_with (go_at_call 20; refine (all_any l c v _ hl Hc.out hg).mono ?_; rintro e w1 ⟨r, rfl, hown, hb⟩; obtain ⟨A, kk, rfl⟩ := own_val hown)
  clear hc
  go_loopg [3, 9] l.length (fun k s3 s9 wr => OpsRel l w w1 k s3 s9 wr)
  case atStart => exact ⟨0, rfl, Nat.zero_le _, rfl, World.ownsRow_nil _ _ _ _, Below.refl _ _⟩
  case round =>
    obtain ⟨i, hk, hil, rfl, hown3, hbel⟩ := hrel
    have Hk := Lib.hid hk
    clear hk
    by_cases hlt : i < l.length
    · obtain ⟨g, u, rfl, hg1, hg2, hx, hcell⟩ := own_at hown hlt
      obtain ⟨⟨b, op, id⟩, hxl, hu⟩ : ∃ x, l[i]? = some x ∧ u = .pointer (some ⟨x.1, 0, none⟩) := by
        rw [ptrs, List.getElem?_map] at hx
        obtain ⟨x, h1, h2⟩ := Option.map_eq_some_iff.1 hx
        exact ⟨x, h1, h2.symm⟩
      subst hu
      obtain ⟨hbl, hb0, -⟩ := Hc.out.cell0 i _ hxl
      have hcr := below_cell hbel hg2 hcell
      have hbr : wr.cell? ⟨b, 0, none⟩ = some (.string op) := below_cell hbel (by have := hb.size; omega) (below_cell hb hbl hb0)
      have Hx := Lib.hid hxl
      clear hx hxl hcell hb0
      go_wp2_with (at_builtin; refine wpList_append_own _ rfl _ _ 36 rfl w1.heap.size 9 i0 (.string ⟨#[]⟩) 1 16 Tryd.underlying36 hi hz0 hz1 hz2 rfl (by decide) _ _ _ rfl (hown3.alloc _) ⟨wr.heap.size, 0, none⟩ 1 1 [.string op] rfl rfl ?c1 ?c2 ?c3 ?c4 ?c5 ?_)
      try (case c1 => exact cell_one_new _ _ _)
      case c2 => simp [Value.oneCell']
      case c3 => unfold maxLen; omega
      case c4 => omega
      case c5 => (try simp); have := hbel.size; omega
      intro v' w2 hown2 hgr2 _
      have hbel2 : Below w1.heap.size w1 w2 := (hbel.alloc hbel.size _).grown hgr2 (by simp; have := hbel.size; omega) (fun k hk => (hown3.lt k hk).1)
      have Hown := Lib.hid hown2
      clear hown2 hcr hbr hown3
      go_wp2
      go_roundg (l.length - (i + 1))
      case measure => rw [Hk.out]; omega
      case rel =>
        refine ⟨i + 1, rfl, hlt, by go_num, ?_, hbel2⟩
        have := Hown.out
        rw [ops_snoc l i _ Hx.out] at this
        exact this
    · have hile : i = l.length := by omega
      go_wp2
      go_ret
      refine ⟨_, rfl, ?_, hb.trans (hbel.mono hb.size)⟩
      rw [hile, List.take_of_length_le (Nat.le_refl _)] at hown3
      exact own_mono hown3 hb.size
end Go.Proofs.YtiomngaeeephhaaDoor
