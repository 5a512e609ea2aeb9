/-
  The laws' own and same, as contracts.
-/
import Derived.Test.YtnlmpkcninhnfaaDoorP3
import Derived.Deep.RegionHeld3
import Derived.Deep.AppendLies
import Derived.Deep.QuietTactic
import Derived.BigQuiet
import Derived.IntWalk
namespace Go.Proofs.YtnlmpkcninhnfaaDoor
open Go.RowKit

theorem Tryd.info64 : (Tryd.prog.info? 64).map (fun i => (i.zero, i.size, i.bytes)) = some (some (.agg #[.int .i64 0, .int .i64 0]), 2, 16) := by kernel_rfl
theorem flat_take (l : List (Int × Int)) (i s t) (h : l[i]? = some (s, t)) : flat (l.take i) ++ [.int .i64 s, .int .i64 t] = flat (l.take (i + 1)) := by
  rw [List.take_add_one, h, flat_snoc]; simp
def OwnRel (l : List (Int × Int)) (w : World) (k : Nat) (s3 s4 : Value) (wr : World) : Prop :=
  ∃ i : Nat, k = l.length - i ∧ i ≤ l.length ∧ s4 = .int .i64 i ∧ wr.ownsRow w.heap.size 64 2 s3 i (flat (l.take i)) ∧ Below w.heap.size w wr

set_option maxRecDepth 100000 in
set_option maxHeartbeats 4000000 in
theorem own_any (A : Option Addr) (l : List (Int × Int)) (c B : Nat) (w : World) (hl : l.length ≤ 100000) (hB : B ≤ w.heap.size) (hp : Pg w B A l) :
    Calls Tryd.prog 12 #[.slice A l.length c] w fun e w' => ∃ r, e = .returned r ∧ w'.ownsRow w.heap.size 64 2 r l.length (flat l) ∧ Below w.heap.size w w' := by
  obtain ⟨i0, hi, hz0, hz1, hz2⟩ := info_parts Tryd.info64
  go_enter Tryd.func12, Tryd.ntmps12
  go_wp2_with fail
  go_loopg [3, 4] l.length (fun k s3 s4 wr => OwnRel l w k s3 s4 wr)
  case atStart => exact ⟨0, rfl, Nat.zero_le _, rfl, World.ownsRow_nil _ _ _ _, Below.refl _ _⟩
  case round =>
    obtain ⟨i, hk, hil, rfl, hown, hbel⟩ := hrel
    have Hk := Lib.hid hk
    clear hk
    by_cases hlt : i < l.length
    · obtain ⟨ad, s, t, rfl, hadb, hx, hc1, hc2⟩ := (hp.below (hbel.mono hB)).at_ hlt
      have Hx := Lib.hid hx
      clear hx
      have hi0' : (0 : Int) ≤ (i : Int) := by omega
      have hi1 : (i : Int) < (l.length : Int) := by omega
      have hadl : ∀ k, (ad.add k).block < w.heap.size := fun k => by rw [block_of_add]; omega
      have Hadl := Lib.hid hadl
      clear hadl
      have hob : u3.ownBlock ≠ some (ad.add (i * 2)).block := fun e => by have := (hown.lt _ e).1; have := Hadl.out (i * 2); omega
      have hadw : (ad.add (i * 2)).block < wr.heap.size := by have := Hadl.out (i * 2); have := hbel.size; omega
      go_wp2_with fail
      go_region_held3 (fun w' => w'.cell? (ad.add (i * 2)) = some (.int .i64 s) ∧ w'.cell? ⟨(ad.add (i * 2)).block, (ad.add (i * 2)).off + 1, none⟩ = some (.int .i64 t))
        (first
          | go_keep
          | (go_split_ands
             refine ⟨?_, ?_⟩
             · (rw [hgrow.cell_far _ (by simp; omega) (Ne.symm hob)]; assumption)
             · (rw [hgrow.cell_far ⟨(ad.add (i * 2)).block, (ad.add (i * 2)).off + 1, none⟩ (by simp; omega) (Ne.symm hob)]; assumption)))
        ((refine step_append_lies _ (by rfl) _ _ _ (by rfl) w.heap.size 64 i0 _ 2 16 Tryd.underlying31 hi hz0 hz1 hz2 rfl (by omega) u3 i (flat (l.take i)) (by rfl) ((hown.alloc _).drew) ⟨wr.heap.size, 0, none⟩ 1 1 [.int .i64 s, .int .i64 t] (by rfl) (by rfl) (World.news_of_block (cs := #[.int .i64 s, .int .i64 t]) (t := 64) (fr := (0, 0)) (heap_alloc_new wr _)) (by simp [Value.oneCell']) (by omega) (by unfold maxLen; omega) (by omega) (by simp; have := hbel.size; omega) (wr.heap.size + 1) (by simp) ?_; intro gg cap w2 hown2 hgrow hat hlt2))
      have Hown2 := Lib.hid hown2
      have hbel2 : Below w.heap.size w w2 := ((hbel.alloc hbel.size _).drew).grown hgrow (by simp; have := hbel.size; omega) (fun k hk => (hown.lt k hk).1)
      clear hown2 hown
      go_wp2
      go_roundg (l.length - (i + 1))
      case measure => rw [Hk.out]; omega
      case rel =>
        refine ⟨i + 1, rfl, hlt, by go_num, ?_, hbel2⟩
        have := Hown2.out
        rw [flat_take l i s t Hx.out] at this
        exact this
    · have hile : i = l.length := by omega
      go_wp2
      go_ret
      refine ⟨_, rfl, ?_, hbel⟩
      rw [hile, List.take_of_length_le (Nat.le_refl _)] at hown
      exact hown

def SameRel (l l' : List (Int × Int)) (w : World) (k : Nat) (s5 : Value) (wr : World) : Prop :=
  ∃ i m : Nat, k = l.length - i ∧ i ≤ l.length ∧ s5 = .int .i64 i ∧ wr = w.drewN m ∧ ∀ j, j < i → l[j]? = l'[j]?
theorem eq_of_get {l l' : List (Int × Int)} {n : Nat} (h1 : l.length = n) (h2 : l'.length = n) (h : ∀ j, j < n → l[j]? = l'[j]?) : l = l' := by
  apply List.ext_getElem?
  intro j
  rcases Nat.lt_or_ge j n with hj | hj
  · exact h j hj
  · rw [List.getElem?_eq_none (by omega), List.getElem?_eq_none (by omega)]

set_option maxRecDepth 100000 in
set_option maxHeartbeats 4000000 in
theorem same_any (A A' : Option Addr) (l l' : List (Int × Int)) (c c' B B' : Nat) (b : Bool) (hb : decide (l = l') = b) (w : World) (hl : l.length ≤ 100000) (hp : Pg w B A l) (hp' : Pg w B' A' l') :
    Calls Tryd.prog 11 #[.slice A l.length c, .slice A' l'.length c'] w fun e w' => e = .returned (.bool b) ∧ Below w.heap.size w w' := by
  have Hb := Lib.hid hb
  clear hb
  by_cases hlen : l.length = l'.length
  · have d0 : ((l.length : Int) != (l'.length : Int)) = false := by rw [bne_eq_false_iff_eq]; omega
    have Hlen := Lib.hid hlen
    clear hlen
    go_enter Tryd.func11, Tryd.ntmps11
    go_wp2_with fail
    go_loopg [5] l.length (fun k s5 wr => SameRel l l' w k s5 wr)
    case atStart => exact ⟨0, 0, rfl, Nat.zero_le _, rfl, rfl, fun j hj => by omega⟩
    case round =>
      obtain ⟨i, m, hk, hil, rfl, rfl, hall⟩ := hrel
      have Hk := Lib.hid hk
      have Hall := Lib.hid hall
      clear hk hall
      by_cases hlt : i < l.length
      · obtain ⟨ad, s, t, rfl, _, hx, hc1, hc2⟩ := hp.at_ hlt
        have hlt' : i < l'.length := by have := Hlen.out; omega
        obtain ⟨ad', s', t', rfl, _, hx', hc1', hc2'⟩ := hp'.at_ hlt'
        have Hx := Lib.hid hx
        have Hx' := Lib.hid hx'
        clear hx hx'
        have i0 : (0 : Int) ≤ (i : Int) := by omega
        have i1 : (i : Int) < (l.length : Int) := by omega
        have i2 : (i : Int) < (l'.length : Int) := by omega
        by_cases hs : s = s'
        · subst hs
          have d1 : (s != s) = false := by simp
          by_cases ht : t = t'
          · subst ht
            have d2 : (t != t) = false := by simp
            go_wp2_with fail
            go_quiet (fail)
            go_wp2
            go_roundg (l.length - (i + 1))
            case measure => rw [Hk.out]; omega
            case rel =>
              refine ⟨i + 1, _, rfl, hlt, by go_num, rfl, fun j hj => ?_⟩
              rcases Nat.lt_or_ge j i with h | h
              · exact Hall.out j h
              · obtain rfl : j = i := by omega
                rw [Hx.out, Hx'.out]
          · have d2 : (t != t') = true := by rw [bne_iff_ne]; exact ht
            have Ht := Lib.hid ht
            clear ht
            go_wp2_with fail
            go_quiet (fail)
            go_wp2
            go_ret
            refine ⟨ret_bool ?_, by repeat (first | exact Below.refl _ _ | refine below_drewN ?_ _)⟩
            rw [← Hb.out]
            symm
            rw [decide_eq_false_iff_not]
            intro e
            have h1 := Hx.out
            rw [e, Hx'.out] at h1
            injection h1 with h1
            injection h1 with h1 h2
            exact Ht.out h2.symm
        · have d1 : (s != s') = true := by rw [bne_iff_ne]; exact hs
          have Hs := Lib.hid hs
          clear hs
          go_wp2_with fail
          go_quiet (fail)
          go_wp2
          go_ret
          refine ⟨ret_bool ?_, by repeat (first | exact Below.refl _ _ | refine below_drewN ?_ _)⟩
          rw [← Hb.out]
          symm
          rw [decide_eq_false_iff_not]
          intro e
          have h1 := Hx.out
          rw [e, Hx'.out] at h1
          injection h1 with h1
          injection h1 with h1 h2
          exact Hs.out h1.symm
      · have hile : i = l.length := by omega
        go_wp2
        go_ret
        refine ⟨ret_bool ?_, by repeat (first | exact Below.refl _ _ | refine below_drewN ?_ _)⟩
        rw [← Hb.out]
        symm
        rw [decide_eq_true_eq]
        exact eq_of_get rfl Hlen.out.symm fun j hj => Hall.out j (by omega)
  · have d0 : ((l.length : Int) != (l'.length : Int)) = true := by rw [bne_iff_ne]; omega
    have Hlen := Lib.hid hlen
    clear hlen
    go_enter Tryd.func11, Tryd.ntmps11
    go_wp2
    go_ret
    refine ⟨ret_bool ?_, Below.refl _ _⟩
    rw [← Hb.out]
    symm
    rw [decide_eq_false_iff_not]
    intro e
    exact Hlen.out (by rw [e])
end Go.Proofs.YtnlmpkcninhnfaaDoor
