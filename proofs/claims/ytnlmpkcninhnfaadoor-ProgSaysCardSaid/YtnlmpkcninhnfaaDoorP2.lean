/-
  prog's Text on a program in memory, as a contract.
-/
import Derived.Test.YtnlmpkcninhnfaaDoorP1
import Derived.Test.YtnlmpkcninhnfaaDoorShelf
import Derived.Lib.AppendIntMem
import Derived.OwnWalk
namespace Go.Proofs.YtnlmpkcninhnfaaDoor
open Go.RowKit

/-- the tables and variables of the library that the walks read -/
structure HT (w : World) : Prop where
  tab : Lib.TabIs Tryd.prog w "internal/strconv.uint64pow10" .u64 Lib.pow10Tab
  most : ∃ m, w.cell? ⟨0, 0, none⟩ = some (.int .i64 m)
  bad : ∃ t p, w.cell? ⟨1, 0, none⟩ = some (.iface t p)
  far : ∃ t p, w.cell? ⟨2, 0, none⟩ = some (.iface t p)

theorem Tryd.gtab : Tryd.prog.globalNamed "internal/strconv.uint64pow10" = some 3 := by kernel_rfl
theorem tabIs_below {n : String} {g : Nat} {k : IntKind} {zs : List Int} {w w' : World} (hg : Tryd.prog.globalNamed n = some g) (h : Lib.TabIs Tryd.prog w n k zs) (hb : Below w.heap.size w w') : Lib.TabIs Tryd.prog w' n k zs := by
  unfold Lib.TabIs World.var? at h ⊢
  rw [hg] at h ⊢
  simp only [Option.bind_some] at h ⊢
  have hlt : g < w.heap.size := by
    rcases Nat.lt_or_ge g w.heap.size with h' | h'
    · exact h'
    · rw [Array.getElem?_eq_none h'] at h; cases h
  rw [hb.block g hlt]
  exact h
theorem cell_kept {w w' : World} {b o : Nat} {v : Value} (hc : w.cell? ⟨b, o, none⟩ = some v) (hb : Below w.heap.size w w') : w'.cell? ⟨b, o, none⟩ = some v := below_cell hb (cell_lt hc) hc
theorem HT.below {w w' : World} (h : HT w) (hb : Below w.heap.size w w') : HT w' :=
  ⟨tabIs_below Tryd.gtab h.tab hb, h.most.imp fun _ k => cell_kept k hb, h.bad.imp fun _ k => k.imp fun _ k => cell_kept k hb, h.far.imp fun _ k => k.imp fun _ k => cell_kept k hb⟩
theorem HT.since {W w : World} (h : HT W) (hb : Below W.heap.size W w) : HT w := h.below hb

theorem Format_any (n : Int) (w : World) (h0 : 0 ≤ n) (h1 : n ≤ 9223372036854775807) (ht : HT w) :
    Calls Tryd.prog 28 #[.int .i64 n, .int .i64 10] w fun e w' => e = .returned (.string ⟨(Lib.itoa n).toArray⟩) ∧ Below w.heap.size w w' :=
  (Tryd.strconv_FormatInt_10 n (by omega) h1 w ht.tab).mono fun _ _ ⟨h, k, os, hw⟩ => ⟨h, by subst hw; exact Lib.below_grow _ _ (Nat.le_refl _) _ _⟩
theorem Itoa_any (n : Int) (w : World) (h0 : 0 ≤ n) (h1 : n ≤ 9223372036854775807) (ht : HT w) :
    Calls Tryd.prog 29 #[.int .i64 n] w fun e w' => e = .returned (.string ⟨(Lib.itoa n).toArray⟩) ∧ Below w.heap.size w w' :=
  (Tryd.strconv_Itoa n (by omega) h1 w ht.tab).mono fun _ _ ⟨h, k, os, hw⟩ => ⟨h, by subst hw; exact Lib.below_grow _ _ (Nat.le_refl _) _ _⟩

theorem Tryd.info9 : (Tryd.prog.info? 9).map (fun i => (i.zero, i.size, i.bytes)) = some (some (.string ⟨#[]⟩), 1, 16) := by kernel_rfl

/-- the texts of the first i steps -/
def texts (l : List (Int × Int)) : List Value := l.map fun x => .string ⟨(stepB x).toArray⟩
theorem texts_snoc (l : List (Int × Int)) (i : Nat) (x : Int × Int) (h : l[i]? = some x) (b : ByteArray) (hb : b = ⟨(stepB x).toArray⟩) : texts (l.take i) ++ [.string b] = texts (l.take (i + 1)) := by
  rw [List.take_add_one, h, hb]; simp [texts]
theorem nDigits_le : ∀ (k u : Nat), u < 10 ^ (k + 1) → Lib.nDigits u ≤ k + 1
  | 0, u, h => by rw [Lib.nDigits_small (by simpa using h)]; omega
  | k + 1, u, h => by
    by_cases h1 : u < 10
    · rw [Lib.nDigits_small h1]; omega
    · rw [Lib.nDigits_big h1]
      have := nDigits_le k (u / 10) (by rw [Nat.pow_succ] at h; omega)
      omega
theorem itoa_len {n : Int} (h0 : 0 ≤ n) (h1 : n ≤ 2147483648) : (Lib.itoa n).length ≤ 10 := by
  rw [itoa_dec h0, Lib.decDigits_length]
  exact nDigits_le 9 n.toNat (by omega)
theorem step_len {x : Int × Int} (h1 : 0 ≤ x.1) (h1' : x.1 ≤ 8) (h2 : 0 ≤ x.2) (h2' : x.2 ≤ 2147483648) : (stepB x).length ≤ 21 := by
  have e1 := itoa_len h2 h2'
  have e2 := itoa_len h1 (by omega)
  unfold stepB
  split <;> simp <;> omega
theorem text_len : ∀ (l : List (Int × Int)), (∀ x ∈ l, 0 ≤ x.1 ∧ x.1 ≤ 8 ∧ 1 ≤ x.2 ∧ x.2 ≤ 2147483648) → (textL l).length ≤ 22 * l.length
  | [], _ => by simp [textL, Lib.join]
  | [x], h => by
    have hx := h x (by simp)
    have := step_len hx.1 hx.2.1 (by omega) hx.2.2.2
    simp only [textL, List.map_cons, List.map_nil, Lib.join_one, List.length_cons, List.length_nil]
    omega
  | x :: y :: l, h => by
    have hx := h x (by simp)
    have := step_len hx.1 hx.2.1 (by omega) hx.2.2.2
    have ih := text_len (y :: l) fun z hz => h z (List.mem_cons_of_mem _ hz)
    have e : textL (x :: y :: l) = stepB x ++ 43 :: textL (y :: l) := by simp [textL, Lib.join_cons, Lib.joinTail]
    rw [e]
    simp only [List.length_append, List.length_cons] at ih ⊢
    omega
def pieceBs (l : List (Int × Int)) : List ByteArray := l.map fun x => ⟨(stepB x).toArray⟩
theorem pieceBs_join (l : List (Int × Int)) : Lib.join ((pieceBs l).map (·.data.toList)) [43] = textL l := by
  simp [pieceBs, textL, Function.comp_def]
theorem Join_own (l : List (Int × Int)) (v : Value) (n base : Nat) (w : World) (hn : n = l.length) (hg : good l = true) (h : w.ownsRow base 9 1 v n (texts l)) :
    Calls Tryd.prog 30 #[v, .string ⟨#[43]⟩] w fun e w' => e = .returned (.string ⟨(textL l).toArray⟩) ∧ Below w.heap.size w w' := by
  subst hn
  obtain ⟨hl1, hl8, _⟩ := good_parts hg
  obtain ⟨g, cap, rfl, hg1, hg2, hc, hm⟩ := own_full h (by omega)
  have hlen := text_len l fun x hx => good_mem hg hx
  have hN : (pieceBs l).length = l.length := by simp [pieceBs]
  have H := Tryd.strings_Join g 0 cap (pieceBs l) ⟨#[43]⟩ w (fun j x hx => by
      have hj : j < l.length := by rw [← hN]; exact (List.getElem?_eq_some_iff.1 hx).1
      rw [Nat.zero_add, h.cellAt j (by omega)]
      simp only [pieceBs, List.getElem?_map, Option.map_eq_some_iff] at hx
      obtain ⟨y, hy, rfl⟩ := hx
      simp [texts, hy]) hg2 (by omega) (by omega) (by
      have e := pieceBs_join l
      have e2 : (⟨#[43]⟩ : ByteArray).data.toList = [43] := rfl
      rw [e2, e]
      omega)
  rw [hN] at H
  refine H.mono fun e w' hh => ⟨?_, hh.2⟩
  rw [hh.1]
  have e2 : (⟨#[43]⟩ : ByteArray).data.toList = [43] := rfl
  rw [e2, pieceBs_join]
def TxtRel (l : List (Int × Int)) (w : World) (k : Nat) (s3 s12 : Value) (wr : World) : Prop :=
  ∃ i : Nat, k = l.length - i ∧ i ≤ l.length ∧ s12 = .int .i64 i ∧ wr.ownsRow w.heap.size 9 1 s3 i (texts (l.take i)) ∧ Below w.heap.size w wr
theorem ba_append (a b : List UInt8) : (⟨a.toArray⟩ : ByteArray) ++ ⟨b.toArray⟩ = ⟨(a ++ b).toArray⟩ := by
  apply ByteArray.ext
  simp
theorem step_pos (s t : Int) (h : 0 < s) : ((⟨(Lib.itoa t).toArray⟩ ++ (⟨#[64]⟩ ++ ⟨(Lib.itoa s).toArray⟩)) : ByteArray) = ⟨(stepB (s, t)).toArray⟩ := by
  rw [show (⟨#[64]⟩ : ByteArray) = ⟨[64].toArray⟩ from rfl, ba_append, ba_append]
  simp [stepB, h]
theorem step_zero (s t : Int) (h : s ≤ 0) : (⟨(Lib.itoa t).toArray⟩ : ByteArray) = ⟨(stepB (s, t)).toArray⟩ := by simp [stepB, Int.not_lt.2 h]
theorem str_mk (a : List UInt8) (b : List UInt8) (h : a = b) : (⟨a.toArray⟩ : ByteArray) = ⟨b.toArray⟩ := by rw [h]

set_option maxRecDepth 100000 in
set_option maxHeartbeats 2000000 in
theorem Text_good (A : Option Addr) (l : List (Int × Int)) (c B : Nat) (w : World) (hg : good l = true) (hB : B ≤ w.heap.size) (hp : Pg w B A l) (ht : HT w) :
    Calls Tryd.prog 10 #[.slice A l.length c] w fun e w' => e = .returned (.string ⟨(textL l).toArray⟩) ∧ Below w.heap.size w w' := by
  obtain ⟨hl1, hl8, hall⟩ := good_parts hg
  obtain ⟨i0, hi, hz0, hz1, hz2⟩ := info_parts Tryd.info9
  have Hall := Lib.hid hall
  have Hg := Lib.hid hg
  have Ht := Lib.hid ht
  clear hall hg ht
  go_enter Tryd.func10, Tryd.ntmps10
  go_wp2_with (go_at_call 8; refine (Good_any A l c B true Hg.out _ hB (by omega) hp).mono ?_; rintro e w1 ⟨rfl, hb1⟩)
  go_loopg [3, 12] l.length (fun k s3 s12 wr => TxtRel l w k s3 s12 wr)
  case atStart => exact ⟨0, rfl, Nat.zero_le _, rfl, World.ownsRow_nil _ _ _ _, hb1⟩
  case round =>
    obtain ⟨i, hk, hil, rfl, hown, hbel⟩ := hrel
    have Hk := Lib.hid hk
    clear hk
    by_cases hlt : i < l.length
    · obtain ⟨ad, s, t, rfl, hadb, hx, hc1, hc2⟩ := (hp.below (hbel.mono hB)).at_ hlt
      obtain ⟨hs0, hs8, ht1, ht2⟩ := Hall.out i _ hx
      have Hx := Lib.hid hx
      clear hx
      have hbA : Below w.heap.size w (wr.alloc (.cells #[.int .i64 s, .int .i64 t] 48)) := hbel.alloc hbel.size _
      have hkA := Blk.new wr 48 #[.int .i64 s, .int .i64 t]
      have Hown := Lib.hid (hown.alloc (.cells #[.int .i64 s, .int .i64 t] 48))
      clear hown
      by_cases hpos : 0 < s
      · have hls := itoa_len hs0 (by omega : s ≤ 2147483648)
        have hlt2 := itoa_len (by omega : 0 ≤ t) ht2
        have dpos : decide (0 < s) = true := by simp [hpos]
        go_wp2_with fail
        refine (Format_any t _ (by omega) (by omega) (Ht.out.below hbA)).mono ?_
        rintro e w2 ⟨rfl, hb2⟩; have hk2 := hkA.below hb2 hkA.lt; have hc20 := hk2.cell 0; simp only [List.getElem?_toArray, List.getElem?_cons_zero] at hc20; have hb2w := hbA.trans (hb2.mono hbA.size); have Hown2 := Lib.hid (own_below Hown.out hb2)
        go_wp2_with fail
        refine (Itoa_any s _ (by omega) (by omega) (Ht.out.below hb2w)).mono ?_
        rintro e w3 ⟨rfl, hb3⟩
        have hb3w := hb2w.trans (hb3.mono hb2w.size)
        have Hown3 := Lib.hid (own_below Hown2.out hb3)
        clear hc20 hk2 hkA
        go_wp2_with (at_builtin; refine wpList_append_own _ rfl _ _ 51 rfl w.heap.size 9 i0 (.string ⟨#[]⟩) 1 16 Tryd.underlying51 hi hz0 hz1 hz2 rfl (by decide) _ _ _ rfl (Hown3.out.alloc _) ⟨w3.heap.size, 0, none⟩ 1 1 [.string (⟨(Lib.itoa t).toArray⟩ ++ (⟨#[64]⟩ ++ ⟨(Lib.itoa s).toArray⟩))] rfl rfl ?c1 ?c2 ?c3 ?c4 ?c5 ?_)
        try (case c1 => exact cell_one_new _ _ _)
        case c2 => simp [Value.oneCell']
        case c3 => unfold maxLen; omega
        case c4 => omega
        case c5 => (try simp); have := hb3w.size; omega
        intro v' w4 hown4 hgr4 _
        have hb4 : Below w.heap.size w w4 := (hb3w.alloc hb3w.size _).grown hgr4 (by (try simp); have := hb3w.size; omega) (fun k hk => (Hown3.out.lt k hk).1)
        have Hown4 := Lib.hid hown4
        clear hown4
        go_wp2
        go_roundg (l.length - (i + 1))
        case measure => rw [Hk.out]; omega
        case rel =>
          refine ⟨i + 1, rfl, hlt, by go_num, ?_, hb4⟩
          have := Hown4.out
          rw [texts_snoc l i _ Hx.out _ (step_pos s t hpos)] at this
          exact this
      · have dpos : decide (0 < s) = false := by simp [hpos]
        go_wp2_with fail
        refine (Format_any t _ (by omega) (by omega) (Ht.out.below hbA)).mono ?_
        rintro e w2 ⟨rfl, hb2⟩; have hk2 := hkA.below hb2 hkA.lt; have hc20 := hk2.cell 0; simp only [List.getElem?_toArray, List.getElem?_cons_zero] at hc20; have hb2w := hbA.trans (hb2.mono hbA.size); have Hown2 := Lib.hid (own_below Hown.out hb2)
        clear hk2 hkA
        go_wp2_with (at_builtin; refine wpList_append_own _ rfl _ _ 51 rfl w.heap.size 9 i0 (.string ⟨#[]⟩) 1 16 Tryd.underlying51 hi hz0 hz1 hz2 rfl (by decide) _ _ _ rfl (Hown2.out.alloc _) ⟨w2.heap.size, 0, none⟩ 1 1 [.string ⟨(Lib.itoa t).toArray⟩] rfl rfl ?c1 ?c2 ?c3 ?c4 ?c5 ?_)
        try (case c1 => exact cell_one_new _ _ _)
        case c2 => simp [Value.oneCell']
        case c3 => unfold maxLen; omega
        case c4 => omega
        case c5 => (try simp); have := hb2w.size; omega
        intro v' w4 hown4 hgr4 _
        have hb4 : Below w.heap.size w w4 := (hb2w.alloc hb2w.size _).grown hgr4 (by (try simp); have := hb2w.size; omega) (fun k hk => (Hown2.out.lt k hk).1)
        have Hown4 := Lib.hid hown4
        clear hown4
        go_wp2
        go_roundg (l.length - (i + 1))
        case measure => rw [Hk.out]; omega
        case rel =>
          refine ⟨i + 1, rfl, hlt, by go_num, ?_, hb4⟩
          have := Hown4.out
          rw [texts_snoc l i _ Hx.out _ (step_zero s t hpos)] at this
          exact this
    · have hile : i = l.length := by omega
      have hown' : wr.ownsRow w.heap.size 9 1 u3 i (texts l) := by rw [hile, List.take_of_length_le (Nat.le_refl _)] at hown; rw [hile]; exact hown
      have Hown' := Lib.hid hown'
      have Hile := Lib.hid hile
      clear hown hown' hile
      go_wp2_with fail
      refine (Join_own l u3 i w.heap.size _ Hile.out Hg.out Hown'.out).mono ?_
      rintro e w5 ⟨rfl, hb5⟩
      go_wp2
      go_ret
      exact ⟨rfl, hbel.trans (hb5.mono hbel.size)⟩

theorem Text_bad (A : Option Addr) (l : List (Int × Int)) (c B : Nat) (w : World) (hg : good l = false) (hl : l.length ≤ 4611686018427387904) (hB : B ≤ w.heap.size) (hp : Pg w B A l) :
    Calls Tryd.prog 10 #[.slice A l.length c] w fun e w' => e = .returned (.string ⟨#[]⟩) ∧ Below w.heap.size w w' := by
  have Hg := Lib.hid hg
  clear hg
  go_enter Tryd.func10, Tryd.ntmps10
  go_wp2_with (go_at_call 8; refine (Good_any A l c B false Hg.out _ hB hl hp).mono ?_; rintro e w1 ⟨rfl, hb1⟩)
  go_ret
  exact ⟨rfl, hb1⟩
theorem Text_any (A : Option Addr) (l : List (Int × Int)) (c B : Nat) (w : World) (hl : l.length ≤ 4611686018427387904) (hB : B ≤ w.heap.size) (hp : Pg w B A l) (ht : HT w) :
    Calls Tryd.prog 10 #[.slice A l.length c] w fun e w' => e = .returned (.string ⟨(textG l).toArray⟩) ∧ Below w.heap.size w w' := by
  cases hg : good l
  · simp only [textG, hg]
    exact Text_bad A l c B w hg hl hB hp
  · simp only [textG, hg, if_true]
    exact Text_good A l c B w hg hB hp ht
end Go.Proofs.YtnlmpkcninhnfaaDoor
