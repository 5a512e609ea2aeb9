/-
  The law FaultDeep walked: it returns true; nothing that was there is turned.
-/
import Derived.Test.YtiomngaeeephhaaDoorF5
import Derived.Deep.QuietTactic
import Derived.Deep.RegionHeld3
import Derived.BigQuiet
import Derived.IntWalk
namespace Go.Proofs.YtiomngaeeephhaaDoor
open Go.RowKit Go.Extern.Stop Go.Stop Go.Extern
attribute [local go_sem] Tryd.ext16 Tryd.ext17 Tryd.ext18 Tryd.ext39 Tryd.ext65 Tryd.ext66 Tryd.ext21 Tryd.ext63 Tryd.ext23 Tryd.ext24 Tryd.methodKind Tryd.methodElem Tryd.methodImplements Tryd.methodAssignableTo Tryd.methodComparable Tryd.valueOf30 Tryd.valueOf62 Tryd.type30 Tryd.type62 Tryd.kind30 Tryd.kind62 Tryd.kind28 Tryd.kind26 Tryd.elem30 Tryd.elem62 Tryd.implements28 Tryd.implements26 Tryd.typeOf28 Tryd.typeOf26 Tryd.assignable28to28 Tryd.assignable28to26 Tryd.assignable26to28 Tryd.assignable26to26 Tryd.valueOf28 Tryd.valueOf26 Tryd.comparable26 Tryd.ptrUnwrapAhead Tryd.ptrUnwrap Tryd.ptrErrorAhead Tryd.ptrError Tryd.intError Tryd.no28_70 Tryd.no26_70 Tryd.has28_57 Tryd.no26_57 Tryd.no28_73 Tryd.no26_73 Tryd.no28_76 Tryd.no26_76
attribute [local go_sem] Tryd.eqE Tryd.eqFE

/-! contracts from a world W on: whatever was made since then -/
def Since (W w : World) : Prop := Below W.heap.size W w
theorem Since.step {W w w' : World} (h : Since W w) (k : Below w.heap.size w w') : Since W w' := Below.trans h (k.mono h.size)
theorem Deep_from (W : World) (l : List (Nat × ByteArray × Int)) (m : Int) (c : Int) (v : Value) (w : World) (hm : (l.length : Int) = m) (hl : l.length ≤ 1000) (hc : Ch W l c v) (hg : HG W) (hs : Since W w) :
    Calls Tryd.prog 10 #[v] w fun e w' => e = .returned (.int .i64 m) ∧ Since W w' := by
  subst hm
  exact (Deep_any l c v w hl (hc.below hs) (hg.below hs)).mono fun _ _ h => ⟨h.1, hs.step h.2⟩
theorem Code_from (W : World) (l : List (Nat × ByteArray × Int)) (c : Int) (v : Value) (w : World) (hc : Ch W l c v) (hg : HG W) (hs : Since W w) :
    Calls Tryd.prog 13 #[v] w fun e w' => e = .returned (.int .i64 c) ∧ Since W w' :=
  (Code_any l c v w (hc.below hs) (hg.below hs)).mono fun _ _ h => ⟨h.1, hs.step h.2⟩
theorem Ops_len (l : List (Nat × ByteArray × Int)) (n : Nat) (c : Int) (v : Value) (w : World) (hn : l.length = n) (hl : n ≤ 1000) (hc : Ch w l c v) (hg : HG w) :
    Calls Tryd.prog 11 #[v] w fun e w' => ∃ r, e = .returned r ∧ w'.ownsRow w.heap.size 9 1 r n (ops l) ∧ Below w.heap.size w w' := by
  subst hn
  exact Ops_any l c v w hl hc hg
theorem Who_head (b : Nat) (op : ByteArray) (id : Int) (l : List (Nat × ByteArray × Int)) (c : Int) (v : Value) (w : World) (hl : l.length < 1000) (hc : Ch w ((b, op, id) :: l) c v) (hg : HG w) :
    Calls Tryd.prog 12 #[v, .string op] w fun e w' => e = .returned (.tuple #[.int .i64 id, .bool true]) ∧ Below w.heap.size w w' :=
  (Who_any _ c v op w (by simp; omega) hc hg).mono fun _ _ h => ⟨h.1.trans (by simp [whoF]), h.2⟩
theorem own_full {w : World} {base : Nat} {e : TypeId} {size : Nat} {v : Value} {n : Nat} {xs : List Value} (h : w.ownsRow base e size v n xs) (hn : 0 < n) :
    ∃ g cap, v = .slice (some ⟨g, 0, none⟩) n cap ∧ base ≤ g ∧ g < w.heap.size ∧ n ≤ cap ∧ cap ≤ maxLen := by
  rcases h.2 with ⟨_, h0⟩ | ⟨g, cap, cur, hv, hb, hg, hc, hm, _⟩
  · omega
  · exact ⟨g, cap, hv, hb, Blk.lt (t := e) (cs := cur) hg, hc, hm⟩
theorem texts_from (W : World) (A A' : Option Addr) (n c c' : Nat) (l : List ByteArray) (w : World) (hn : n ≤ 100000) (h : Reads W W.heap.size 1 A n (l.map .string)) (h' : Reads W W.heap.size 1 A' n (l.map .string)) (hs : Since W w) :
    Calls Tryd.prog 14 #[.slice A n c, .slice A' n c'] w fun e w' => e = .returned (.bool true) ∧ Since W w' :=
  (texts_same A A' n c c' _ _ l w hn (h.below hs) (h'.below hs)).mono fun _ _ ⟨h1, m, h2⟩ => ⟨h1, by subst h2; exact below_drewN hs m⟩

def DeepRel (n : Nat) (code : Int) (w : World) (k : Nat) (s5 s6 : Value) (wr : World) : Prop :=
  ∃ l : List (Nat × ByteArray × Int), k = n - l.length ∧ 1 ≤ l.length ∧ l.length ≤ n ∧ s6 = .int .i64 l.length ∧ Ch wr l code s5 ∧ Below w.heap.size w wr

theorem Reads.str {w : World} {B n : Nat} {ad : Addr} {ss : List ByteArray} (h : Reads w B 1 (some ad) n (ss.map .string)) {k : Nat} (hk : k < n) :
    ∃ s, ss[k]? = some s ∧ ad.block < B ∧ w.cell? (ad.add k) = some (.string s) := by
  obtain ⟨ad', u, e, hb, hx, hc⟩ := h.at_ hk
  injection e with e
  subst e
  rw [List.getElem?_map] at hx
  obtain ⟨s, h1, h2⟩ := Option.map_eq_some_iff.1 hx
  subst h2
  exact ⟨s, h1, hb, hc⟩
theorem add_zero' (a : Addr) : a.add 0 = a := by simp [Addr.add]
set_option maxRecDepth 100000 in
set_option maxHeartbeats 4000000 in
theorem deep_yes (ad : Addr) (n cap : Nat) (ss : List ByteArray) (code : Int) (w : World) (h1 : 1 ≤ code) (h2 : code ≤ 13) (hn : 1 ≤ n) (hn2 : n ≤ 20) (hg : HG w)
    (hr : Reads w w.heap.size 1 (some ad) n (ss.map .string)) :
    Calls Tryd.prog 4 #[.slice (some ad) n cap, .int .i64 code] w fun e w' => e = .returned (.bool true) ∧ Q w w' := by
  have h0 : (code == 0) = false := by simp; omega
  have d1 : decide (code < 1) = false := by simp; omega
  have d2 : decide (13 < code) = false := by simp; omega
  have d3 : decide ((n : Int) < 1) = false := by simp; omega
  have d4 : decide (20 < (n : Int)) = false := by simp; omega
  obtain ⟨s0, hs0, hadb, hc0⟩ := hr.str (k := 0) (by omega)
  rw [add_zero'] at hc0
  have Hs0 := Lib.hid hs0
  clear hs0
  go_enter Tryd.func4, Tryd.ntmps4
  go_wp2_with (first | (go_at_call 5; refine (awake_any _ hg).mono ?_; rintro e w1 ⟨rfl, hq1⟩; have hb1 : Below w.heap.size w w1 := hq1; clear hq1; have hc01 := (hb1.cell (p := ad) hadb).trans hc0) | (go_at_call 6; refine (New_any _ _ _ _ h0).mono ?_; rintro e w' ⟨rfl, rfl⟩))
  clear hc0 hc01
  go_loopg [5, 6] (n - 1) (fun k s5 s6 wr => DeepRel n code w k s5 s6 wr)
  case atStart =>
    exact ⟨[(w1.heap.size, s0, 0)], rfl, by simp, by simp; omega, rfl, ⟨_, rfl, Blk.new w1 _ _, rfl⟩, hb1.alloc hb1.size _⟩
  case round =>
    obtain ⟨l, hk, hl1, hl2, rfl, hch, hbel⟩ := hrel
    have Hk := Lib.hid hk
    clear hk
    by_cases hlt : l.length < n
    · obtain ⟨s, hs, _, hcs⟩ := hr.str hlt
      have hcr : wr.cell? (ad.add l.length) = some (.string s) := (hbel.cell (p := ad.add l.length) (by rw [block_of_add]; exact hadb)).trans hcs
      have Hs := Lib.hid hs
      clear hs hcs
      obtain ⟨tu, uu, rfl⟩ := hch.iface
      have Hch := Lib.hid hch
      have Hg := Lib.hid (hg.below hbel)
      clear hch
      go_wp2_with (first | (go_at_call 7; refine (Wrap_any _ _ _ _ _).mono ?_; rintro e w' ⟨rfl, rfl⟩))
      obtain ⟨W1, hW1⟩ : ∃ W1 : World, wr.alloc (.cells #[.string s, .int .i64 l.length, .iface tu uu] 33) = W1 := ⟨_, rfl⟩
      have hbW : Below wr.heap.size wr W1 := by rw [← hW1]; exact (Below.refl _ _).alloc (Nat.le_refl _) _
      have hcW : Hid (Ch W1 ((wr.heap.size, s, (l.length : Int)) :: l) code (.iface 28 (.pointer (some ⟨wr.heap.size, 0, none⟩)))) := by
        refine Lib.hid ⟨.iface tu uu, rfl, ?_, Hch.out.below hbW⟩
        rw [← hW1]
        exact Blk.new wr 33 _
      have hcE : Hid (Ch W1 l code (.iface tu uu)) := Lib.hid (Hch.out.below hbW)
      have hgW : Hid (HG W1) := Lib.hid (Hg.out.below hbW)
      have hbW1 : Below w.heap.size w W1 := hbel.trans (hbW.mono hbel.size)
      have hcr1 : W1.cell? (ad.add l.length) = some (.string s) := (hbW.cell (p := ad.add l.length) (by rw [block_of_add]; have := hbel.size; omega)).trans hcr
      rw [hW1]
      clear hW1 hcr Hch Hg hbW
      refine (Ops_len _ (l.length + 1) _ _ _ rfl (by omega) hcW.out hgW.out).mono ?_
      rintro e w2 ⟨r1, rfl, ho1, hs2⟩
      obtain ⟨g1, c1, rfl, hg1, hg1', hc1, hm1⟩ := own_full ho1 (by omega)
      have ho1h := Lib.hid ho1
      clear ho1
      go_wp2_with fail
      refine (Ops_len _ l.length _ _ _ rfl (by omega) (hcE.out.below hs2) (hgW.out.below hs2)).mono ?_
      rintro e w3 ⟨r2, rfl, ho2, hs3⟩
      obtain ⟨g2, c2, rfl, hg2, hg2', hc2, hm2⟩ := own_full ho2 (by omega)
      have ho1' := ho1h.out.kept (only_of_below hs3 none) (.inr (by simp [Value.ownBlock]))
      have hs13 : Below W1.heap.size W1 w3 := hs2.trans (hs3.mono hs2.size)
      have hcr3 : w3.cell? (ad.add l.length) = some (.string s) := (hs13.cell (p := ad.add l.length) (by rw [block_of_add]; have := hbW1.size; omega)).trans hcr1
      have ho1h' := Lib.hid ho1'
      have ho2h := Lib.hid ho2
      clear ho1' ho2 ho1h hcr1
      go_wp2_with fail
      refine (Who_head _ _ _ _ _ _ _ (by omega) (hcW.out.below hs13) (hgW.out.below hs13)).mono ?_
      rintro e w4 ⟨rfl, hs4⟩
      have ho14 := ho1h'.out.kept (only_of_below hs4 none) (.inr (by simp [Value.ownBlock]))
      have ho24 := ho2h.out.kept (only_of_below hs4 none) (.inr (by simp [Value.ownBlock]))
      have hs14 : Below W1.heap.size W1 w4 := hs13.trans (hs4.mono hs13.size)
      have hcr4 : w4.cell? (ad.add l.length) = some (.string s) := (hs4.cell (p := ad.add l.length) (by rw [block_of_add]; have := hs13.size; have := hbW1.size; omega)).trans hcr3
      have hc14 : w4.cell? ⟨g1, 0, none⟩ = some (.string s) := (ho14.cellAt 0 (by omega)).trans (by simp [ops])
      have hc4 := Lib.hid (hcW.out.below hs14)
      have he4 := Lib.hid (hcE.out.below hs14)
      have hg4 := Lib.hid (hgW.out.below hs14)
      have ho14h := Lib.hid ho14
      have ho24h := Lib.hid ho24
      clear ho14 ho24 hcr3 hcW hcE hgW ho1h' ho2h
      go_wp2_with fail
      have e1 : (⟨g1, 0, none⟩ : Addr).add (1 * 1) = ⟨g1, 1, none⟩ := by simp [Addr.add]
      have e2 : ops ((wr.heap.size, s, (l.length : Int)) :: l) = .string s :: (l.map (·.2.1)).map .string := by simp [ops]
      have e3 : ops l = (l.map (·.2.1)).map .string := by simp [ops]
      have rd1 : Reads w4 w4.heap.size 1 (some ⟨g1, 1, none⟩) l.length ((l.map (·.2.1)).map .string) := by
        have h := (Reads.of_own ho14h.out).cut (k := 1) (cap := c1) (by omega) hc1
        rw [if_neg (by omega), Option.map_some, e1, e2] at h
        exact h
      have rd2 : Reads w4 w4.heap.size 1 (some ⟨g2, 0, none⟩) l.length ((l.map (·.2.1)).map .string) := by
        have h := Reads.of_own ho24h.out
        rw [e3] at h
        exact h
      clear e1 e2 e3
      have hc11 : ¬ c1 = 1 := by omega
      have hL : (1 : Int) ≤ (l.length : Int) + 1 := by omega
      have hg1l : g1 < w4.heap.size := by have := hs4.size; have := hs3.size; omega
      have hadl : (ad.add l.length).block < w4.heap.size := by rw [block_of_add]; have := hs14.size; have := hbW1.size; omega
      have hs0 : Since w4 w4 := Below.refl _ _
      have n1 : (((l.length : Int) + 1) != ((l.length : Int) + 1)) = false := by simp
      have n2 : (code != code) = false := by simp
      have n3 : ((l.length : Int) != (l.length : Int)) = false := by simp
      have z1 : IntKind.i64.wrap ((l.length : Int) + 1) = (l.length : Int) + 1 := IntWalk.i64_in _ (by omega)
      have b1 : (0 : Int) ≤ (l.length : Int) := by omega
      have b2 : (l.length : Int) < (n : Int) := by omega
      have Rd1 := Lib.hid rd1
      have Rd2 := Lib.hid rd2
      clear rd1 rd2
      have hkeep : Hid (∀ w', Since w4 w' → w'.cell? ⟨g1, 0, none⟩ = some (.string s) ∧ w'.cell? (ad.add l.length) = some (.string s) ∧ Since w4 w') :=
        Lib.hid fun w' h => ⟨below_cell h hg1l hc14, (Below.cell h hadl).trans hcr4, h⟩
      go_region_held3 (fun w' => w'.cell? ⟨g1, 0, none⟩ = some (.string s) ∧ w'.cell? (ad.add l.length) = some (.string s) ∧ Since w4 w')
        (refine hkeep.out _ ?_ <;> first | assumption | exact Below.refl _ _ | exact (Below.refl _ _).drew)
        (first | (go_at_call 10; (with_reducible refine (Deep_from w4 _ ((l.length : Int) + 1) _ _ _ (by simp) (by simp; omega) hc4.out hg4.out ?_).mono ?_); (first | assumption | exact Below.refl _ _ | exact (Below.refl _ _).drew); rintro e wb ⟨rfl, hb⟩) | (go_at_call 10; (with_reducible refine (Deep_from w4 _ (l.length : Int) _ _ _ rfl (by omega) he4.out hg4.out ?_).mono ?_); (first | assumption | exact Below.refl _ _ | exact (Below.refl _ _).drew); rintro e wb ⟨rfl, hb⟩) | (go_at_call 13; (with_reducible refine (Code_from w4 _ _ _ _ hc4.out hg4.out ?_).mono ?_); (first | assumption | exact Below.refl _ _ | exact (Below.refl _ _).drew); rintro e wb ⟨rfl, hb⟩) | (go_at_call 14; (with_reducible refine (texts_from w4 _ _ _ _ _ _ _ (by omega) Rd1.out Rd2.out ?_).mono ?_); (first | assumption | exact Below.refl _ _ | exact (Below.refl _ _).drew); rintro e wb ⟨rfl, hb⟩))
      go_wp2
      go_roundg (n - (l.length + 1))
      case measure => rw [Hk.out]; omega
      case rel =>
        exact ⟨(wr.heap.size, s, (l.length : Int)) :: l, by simp, by simp, by simp; omega, by simp, hc4.out.below hb, (hbW1.trans (hs14.mono hbW1.size)).trans (Below.mono hb (by have := hs14.size; have := hbW1.size; omega))⟩
    · go_wp2
      go_ret
      exact ⟨rfl, hbel⟩

set_option maxRecDepth 100000 in
theorem deep_no (A : Option Addr) (n cap : Nat) (code : Int) (w : World) (h : n < 1 ∨ 20 < n ∨ code < 1 ∨ 13 < code) (hg : HG w) :
    Calls Tryd.prog 4 #[.slice A n cap, .int .i64 code] w fun e w' => e = .returned (.bool true) ∧ Q w w' := by
  by_cases a1 : n < 1
  · have d3 : decide ((n : Int) < 1) = true := by simp; omega
    clear h
    go_enter Tryd.func4, Tryd.ntmps4
    go_wp2_with (go_at_call 5; refine (awake_any _ hg).mono ?_; rintro e w1 ⟨rfl, hq1⟩)
    go_ret
    exact ⟨rfl, hq1⟩
  have d3 : decide ((n : Int) < 1) = false := by simp; omega
  by_cases a2 : 20 < n
  · have d4 : decide (20 < (n : Int)) = true := by simp; omega
    clear h
    go_enter Tryd.func4, Tryd.ntmps4
    go_wp2_with (go_at_call 5; refine (awake_any _ hg).mono ?_; rintro e w1 ⟨rfl, hq1⟩)
    go_ret
    exact ⟨rfl, hq1⟩
  have d4 : decide (20 < (n : Int)) = false := by simp; omega
  by_cases a3 : code < 1
  · have d1 : decide (code < 1) = true := by simp; omega
    clear h
    go_enter Tryd.func4, Tryd.ntmps4
    go_wp2_with (go_at_call 5; refine (awake_any _ hg).mono ?_; rintro e w1 ⟨rfl, hq1⟩)
    go_ret
    exact ⟨rfl, hq1⟩
  have d1 : decide (code < 1) = false := by simp; omega
  have d2 : decide (13 < code) = true := by simp; omega
  clear h
  go_enter Tryd.func4, Tryd.ntmps4
  go_wp2_with (go_at_call 5; refine (awake_any _ hg).mono ?_; rintro e w1 ⟨rfl, hq1⟩)
  go_ret
  exact ⟨rfl, hq1⟩
theorem deep_any (A : Option Addr) (n cap : Nat) (ss : List ByteArray) (code : Int) (w : World) (hg : HG w) (hr : Reads w w.heap.size 1 A n (ss.map .string)) :
    Calls Tryd.prog 4 #[.slice A n cap, .int .i64 code] w fun e w' => e = .returned (.bool true) ∧ Q w w' := by
  by_cases h : n < 1 ∨ 20 < n ∨ code < 1 ∨ 13 < code
  · exact deep_no A n cap code w h hg
  · obtain ⟨ad, rfl, _⟩ := hr.2 (by omega)
    exact deep_yes ad n cap ss code w (by omega) (by omega) (by omega) (by omega) hg hr
end Go.Proofs.YtiomngaeeephhaaDoor
