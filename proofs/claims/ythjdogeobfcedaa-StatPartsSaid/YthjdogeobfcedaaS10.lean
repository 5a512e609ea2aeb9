/-
  StatParts, walked.
-/
import Derived.Test.YthjdogeobfcedaaS9
namespace Go.Proofs.Ythjdogeobfcedaa
open Go.RowKit Go.Maps Go.Sort

theorem ownNew_lt {n j : Nat} (h : j < n) : ownNew n j = none := if_neg (by omega)
theorem parts_guard (w : World) (A : Option Addr) (n c : Nat) (cut : Int) (hn : (n : Int) ≤ 9223372036854775807) (hg : 200 < n ∨ cut < 0 ∨ (n : Int) < cut) :
    Calls Try.prog 3 #[.slice A n c, .int .i64 cut] w fun e w' => e = .returned (.bool true) ∧ Below w.heap.size w w' := by
  by_cases h1 : (200 : Int) < n
  · have d1 : decide ((200 : Int) < n) = true := by simpa using h1
    go_enter Try.func3, Try.ntmps3
    go_wp2_with (go_at_call 5; refine (awake_any w).mono ?_; rintro e w1 ⟨rfl, hb1⟩)
    go_ret
    exact ⟨rfl, hb1⟩
  have d1 : decide ((200 : Int) < n) = false := by simpa using h1
  by_cases h2 : cut < 0
  · have d2 : decide (cut < 0) = true := by simpa using h2
    go_enter Try.func3, Try.ntmps3
    go_wp2_with (go_at_call 5; refine (awake_any w).mono ?_; rintro e w1 ⟨rfl, hb1⟩)
    go_ret
    exact ⟨rfl, hb1⟩
  have d2 : decide (cut < 0) = false := by simpa using h2
  have d3 : decide ((n : Int) < cut) = true := by simp; omega
  go_enter Try.func3, Try.ntmps3
  go_wp2_with (go_at_call 5; refine (awake_any w).mono ?_; rintro e w1 ⟨rfl, hb1⟩)
  go_ret
  exact ⟨rfl, hb1⟩
theorem slice_from (A : Option Addr) (n c k : Nat) (hk : k ≤ n) (w : World) : (Instr.slice 22 (.slice A n c) (some (.int .i64 k)) none none).run Try.prog w = .ok (.slice (if c = k then A else A.map (·.add (k * 4))) (n - k) (c - k)) w := by
  rw [run_slice_l (P := Try.prog) w 22 A n c (by kernel_rfl) .i64 k (by omega) (by omega)]
  have h : (sizeOf (Try.prog.elem 22)).run Try.prog w = .ok 4 w := by kernel_rfl
  rw [h]
  rfl
def PartsRel (K : List Int) (w : World) (j : Nat) (s9 : Value) (wr : World) : Prop := ∃ i : Nat, j = K.length - i ∧ i ≤ K.length ∧ s9 = .int .i64 i ∧ Below w.heap.size w wr
set_option maxRecDepth 100000 in
set_option maxHeartbeats 2000000 in
theorem parts_walk (w : World) (A : Option Addr) (l : List Ev) (c k : Nat) (hr : Evs w w.heap.size A l) (hok : ∀ e ∈ l, e.Ok) (hlc : l.length ≤ c) (hl : l.length ≤ 200) (hk : k ≤ l.length) :
    Calls Try.prog 3 #[.slice A l.length c, .int .i64 k] w fun e w' => e = .returned (.bool true) ∧ Below w.heap.size w w' := by
  have Hok := Lib.hid hok
  have hkc : k ≤ c := by omega
  obtain ⟨A2, c2, hA2, hsl⟩ : ∃ (A2 : Option Addr) (c2 : Nat), (A2 = if c = k then A else A.map (·.add (k * 4))) ∧ ∀ w, (Instr.slice 22 (.slice A l.length c) (some (.int .i64 k)) none none).run Try.prog w = .ok (.slice A2 (l.length - k) c2) w :=
    ⟨_, _, rfl, fun w => slice_from A l.length c k hk w⟩
  have HA2 := Lib.hid hA2
  clear hA2
  clear hok
  have d1 : decide ((200 : Int) < l.length) = false := by simp; omega
  have d2 : decide ((k : Int) < 0) = false := by simp
  have d3 : decide (l.length < k) = false := by simp; omega
  go_enter Try.func3, Try.ntmps3
  go_wp2_with fail
  refine (awake_any w).mono ?_
  rintro e w1 ⟨rfl, hb1⟩
  have Hb1 := Lib.hid hb1
  clear hb1
  go_wp2_with fail
  refine (New_any w1).mono ?_
  rintro e w2 ⟨rfl, rfl⟩
  go_wp2_with fail
  refine (New_any (newWorld w1)).mono ?_
  rintro e w2 ⟨rfl, rfl⟩
  go_wp2_with fail
  have hb2 : Below w.heap.size w (newWorld (newWorld w1)) := Hb1.out.trans (((newWorld_below w1).trans ((newWorld_below (newWorld w1)).mono (newWorld_below w1).size)).mono Hb1.out.size)
  have hsA := (stats_new w1).below (newWorld_below (newWorld w1))
  have hsB := stats_new (newWorld w1)
  have hb1' : w.heap.size ≤ w1.heap.size := Hb1.out.size
  have hrA := hr.below hb2
  refine (Put_len _ _ _ _ _ _ _ _ A l l.length c rfl hsA (hrA.more hb2.size) (fun h0 ad e => ownNew_lt (Nat.lt_of_lt_of_le (hrA.lt h0 e) hb1')) (by omega) Hok.out).mono ?_
  rintro e w3 ⟨rfl, ownA, nmA, DA, hA, hA2, htA⟩
  have HA := Lib.hid (And.intro hA (And.intro hA2 htA))
  clear hA hA2 htA
  have HsB := Lib.hid hsB
  have HrA := Lib.hid hrA
  have Hb2 := Lib.hid hb2
  clear hsB hrA hb2 hsA
  go_wp2_with fail
  have hsB3 : StatsAt w3 ((newWorld w1).heap.size + 1) (newWorld w1).heap.size 0 (.map []) (ownNew (newWorld w1).heap.size) 0 (fun _ => none) :=
    HsB.out.turn HA.out.2.2 fun j hj => Classical.byContradiction fun h => by
      have h1 := ownNew_some h
      have h2 := newWorld_size w1
      exact hj (ownNew_no (by omega))
  have hno3 : ∀ (A' : Option Addr) (l' : List Ev) (W : World), Evs W w.heap.size A' l' → 0 < l'.length → ∀ ad, A' = some ad → ownNew (newWorld w1).heap.size ad.block = none := fun _ _ _ h h0 ad e => ownNew_lt (by
    have h2 := newWorld_size w1
    have := h.lt h0 e
    omega)
  have hb3 : Below w.heap.size w w3 := (((Turn.refl (fun j => w.heap.size ≤ j) w).below Hb2.out).trans HA.out.2.2 fun i _ h => Nat.le_trans hb1' (ownNew_some h)).toBelow (Nat.le_refl _) (fun i hi => by omega)
  have hr3 : Evs w3 w.heap.size A l := hr.below hb3
  refine (Put_len _ _ _ _ _ _ _ _ A (l.take k) k c (by simp; omega) hsB3 ((hr3.take k hk).more hb3.size) (fun h0 ad e => hno3 _ _ _ (hr3.take k hk) h0 ad e) (by simp; omega) fun e he => Hok.out e (List.mem_of_mem_take he)).mono ?_
  rintro e w4 ⟨rfl, ownB, nmB, DB, hB, hB2, htB⟩
  have HB := Lib.hid (And.intro hB (And.intro hB2 htB))
  have Hb3 := Lib.hid hb3
  have Hno3 := Lib.hid hno3
  clear hB hB2 htB hsB3 hr3 hb3 hno3
  go_wp2_with fail
  have hb4 : Below w.heap.size w w4 := (((Turn.refl (fun j => w.heap.size ≤ j) w).below Hb3.out).trans HB.out.2.2 fun i _ h => by
    have h2 := newWorld_size w1
    have h3 := ownNew_some h
    omega).toBelow (Nat.le_refl _) (fun i hi => by omega)
  have hr4 : Evs w4 w.heap.size A2 (l.drop k) := by rw [HA2.out]; exact (hr.below hb4).drop k c hk hlc
  refine (Put_len _ _ _ _ _ _ _ _ A2 (l.drop k) (l.length - k) c2 (by simp) HB.out.1 (hr4.more hb4.size) (fun h0 ad e => ?_) (by simp; omega) fun e he => Hok.out e (List.mem_of_mem_drop he)).mono ?_
  · have h5 := hr4.lt h0 e
    rw [HB.out.2.1 _ (Nat.lt_of_lt_of_le h5 Hb3.out.size)]
    exact Hno3.out _ _ _ hr4 h0 ad e
  rintro e w5 ⟨rfl, ownB', nmB', DB', hB', hB2', htB'⟩
  have HB' := Lib.hid (And.intro hB' (And.intro hB2' htB'))
  have Hb4 := Lib.hid hb4
  clear hB' hB2' htB' hr4 hb4
  go_wp2_with fail
  have hdis : ∀ j, (ownNew (newWorld w1).heap.size j ≠ none ∨ ownB j ≠ none) → ownA j = none := fun j hj => Classical.byContradiction fun h => by
    obtain ⟨q, hq⟩ := Option.ne_none_iff_exists'.1 h
    have h1 := HA.out.1.old j q hq
    rw [HB.out.2.1 j h1, or_self] at hj
    have h2 := ownNew_some hj
    have h4 := newWorld_size w1
    have h5 := newWorld_size (newWorld w1)
    rcases Nat.lt_or_ge j (newWorld (newWorld w1)).heap.size with h6 | h6
    · rw [HA.out.2.1 j h6, ownNew_no (by omega)] at h
      exact h rfl
    · exact hj (ownNew_no (by omega))
  have hA5 := (HA.out.1.turn HB.out.2.2 fun j hj => hdis j (.inl hj)).turn HB'.out.2.2 fun j hj => hdis j (.inr hj)
  have hB5 := HB'.out.1
  rw [all_parts] at hB5
  have hb5 : Below w.heap.size w w5 := (((Turn.refl (fun j => w.heap.size ≤ j) w).below Hb4.out).trans HB'.out.2.2 fun i hi h => by
    have h2 := newWorld_size w1
    rw [HB.out.2.1 i (Nat.lt_of_lt_of_le hi Hb3.out.size)] at h
    have h3 := ownNew_some h
    omega).toBelow (Nat.le_refl _) (fun i hi => by omega)
  have hm5 : 0 + 2 * (l.take k).length + 2 * (l.drop k).length ≤ 1000000 := by simp; omega
  generalize 0 + 2 * (l.take k).length + 2 * (l.drop k).length = m5 at hB5 hm5
  have HA5 := Lib.hid hA5
  have HB5 := Lib.hid hB5
  have Hb5 := Lib.hid hb5
  clear hA5 hB5 hb5 hdis HA HB HB' Hno3 Hb3 Hb4 HsB HrA
  obtain ⟨K, hK⟩ : ∃ K, inOrder DA = K := ⟨_, rfl⟩
  have hKB : inOrder DB' = K := by rw [← hK, inOrder_same HB5.out HA5.out]
  have hKl : K.length ≤ 1000000 := by have := inOrder_length HB5.out; rw [hKB] at this; omega
  have HK := Lib.hid hK
  have HKB := Lib.hid hKB
  clear hK hKB
  refine (All_list _ _ _ _ _ _ _ _ K HK.out HA5.out (by omega)).mono ?_
  rintro e w6 ⟨X, cx, rfl, hX, hb6⟩
  have HX := Lib.hid hX
  have Hb6 := Lib.hid hb6
  clear hX hb6
  go_wp2_with fail
  refine (All_list _ _ _ _ _ _ _ _ K HKB.out (HB5.out.below Hb6.out) (by omega)).mono ?_
  rintro e w7 ⟨Y, cy, rfl, hY, hb7⟩
  have hX7 := Reads.of_own (own_below HX.out hb7)
  have hY7 := Reads.of_own hY
  have hA7 := (HA5.out.below Hb6.out).below hb7
  have hB7 := (HB5.out.below Hb6.out).below hb7
  have hb7' := (Hb5.out.trans (Hb6.out.mono Hb5.out.size)).trans (hb7.mono (Nat.le_trans Hb5.out.size Hb6.out.size))
  have HA7 := Lib.hid hA7
  have HB7 := Lib.hid hB7
  have Hb7 := Lib.hid hb7'
  have HX7 := Lib.hid hX7
  have HY7 := Lib.hid hY7
  clear hY hb7 hb7' hA7 hB7 HA5 HB5 Hb5 Hb6 hX7 hY7 HX
  go_wp2_with fail
  go_loopg [9] K.length (fun j s9 wr => PartsRel K w7 j s9 wr)
  case atStart => exact ⟨0, rfl, Nat.zero_le _, rfl, Below.refl _ _⟩
  case round =>
    obtain ⟨i, hk, hil, rfl, hbel⟩ := hrel
    have Hk := Lib.hid hk
    clear hk
    by_cases hlt : i < K.length
    · obtain ⟨o, ho⟩ := (inOrder_mem HA7.out K[i]).1 (by rw [HK.out]; exact List.getElem_mem hlt)
      obtain ⟨hwf, hpos, hfine⟩ := HA7.out.fine _ _ ho
      obtain ⟨ax, ux, eX, hax, hxx, hcx⟩ := (HX7.out.below hbel).at_ hlt
      obtain ⟨ay, uy, eY, hay, hyy, hcy⟩ := (HY7.out.below hbel).at_ hlt
      rw [List.getElem?_map, List.getElem?_eq_getElem hlt] at hxx hyy
      obtain rfl : Value.int .i64 K[i] = ux := Option.some.inj hxx
      obtain rfl : Value.int .i64 K[i] = uy := Option.some.inj hyy
      subst eX
      subst eY
      have hA8 := HA7.out.below hbel
      have hB8 := HB7.out.below hbel
      clear hxx hyy
      have Hrise := Lib.hid (fun h0 => rising_list HA7.out HK.out i h0 hlt)
      have Hprev := Lib.hid (show 0 < i → w7.cell? (ax.add (i - 1)) = some (.int .i64 K[i - 1]) from fun h0 => by
        obtain ⟨a', u', e', _, h1, h2⟩ := HX7.out.at_ (k := i - 1) (by omega)
        cases e'
        rw [List.getElem?_map, List.getElem?_eq_getElem (by omega)] at h1
        obtain rfl : Value.int .i64 K[i - 1] = u' := Option.some.inj h1
        exact h2)
      have q1 := hfine.op
      have q2 := hfine.wo
      have q3 := hfine.su
      clear hfine
      go_wp2_with fail
      refine (Of_some _ _ _ _ _ _ _ _ hA8 K[i] hwf o ho).mono ?_
      rintro e w8 ⟨rfl, hb8⟩
      have Hb8 := Lib.hid hb8
      have hs8 := hb8.size
      have hax8 := (hb8.cell (p := ax.add i) (by rw [block_of_add]; exact Nat.lt_of_lt_of_le hax hbel.size)).trans hcx
      have hay8 := (hb8.cell (p := ay.add i) (by rw [block_of_add]; exact Nat.lt_of_lt_of_le hay hbel.size)).trans hcy
      have hsx : (ax.add i).block < w8.heap.size := by rw [block_of_add]; exact Nat.lt_of_lt_of_le hax (Nat.le_trans hbel.size hs8)
      have hsy : (ay.add i).block < w8.heap.size := by rw [block_of_add]; exact Nat.lt_of_lt_of_le hay (Nat.le_trans hbel.size hs8)
      have hax9 := (World.cell?_alloc_lt w8 (.cells #[.int .i64 o.r, .int .i64 o.d, .int .i64 o.a, .int .i64 o.wa, .int .i64 o.t, .int .i64 o.gr, .int .i64 o.de, .int .i64 o.ga, .int .i64 o.wk, .int .i64 o.op, .int .i64 o.wo, .int .i64 o.su] 30) (ax.add i) hsx).trans hax8
      have hay9 := (World.cell?_alloc_lt w8 (.cells #[.int .i64 o.r, .int .i64 o.d, .int .i64 o.a, .int .i64 o.wa, .int .i64 o.t, .int .i64 o.gr, .int .i64 o.de, .int .i64 o.ga, .int .i64 o.wk, .int .i64 o.op, .int .i64 o.wo, .int .i64 o.su] 30) (ay.add i) hsy).trans hay8
      have hP9 := Blk.new w8 30 #[.int .i64 o.r, .int .i64 o.d, .int .i64 o.a, .int .i64 o.wa, .int .i64 o.t, .int .i64 o.gr, .int .i64 o.de, .int .i64 o.ga, .int .i64 o.wk, .int .i64 o.op, .int .i64 o.wo, .int .i64 o.su]
      have HP9 := Lib.hid hP9
      have Hay9 := Lib.hid hay9
      have Hax9 := Lib.hid hax9
      clear hcx hcy hA8 hb8 hax8 hay8 hsx hsy hP9 hax9
      go_wp2_with fail
      have hb89 : Below w7.heap.size w7 (w8.alloc (.cells #[.int .i64 o.r, .int .i64 o.d, .int .i64 o.a, .int .i64 o.wa, .int .i64 o.t, .int .i64 o.gr, .int .i64 o.de, .int .i64 o.ga, .int .i64 o.wk, .int .i64 o.op, .int .i64 o.wo, .int .i64 o.su] 30)) := (hbel.trans (Hb8.out.mono hbel.size)).alloc (Nat.le_trans hbel.size hs8) _
      refine (Of_some _ _ _ _ _ _ _ _ (HB7.out.below hb89) K[i] hwf o ho).mono ?_
      rintro e w9 ⟨rfl, hb9⟩
      have hb79 : Below w7.heap.size w7 w9 := hb89.trans (hb9.mono hb89.size)
      have hb7X : Below w7.heap.size w7 (w9.alloc (.cells #[.int .i64 o.r, .int .i64 o.d, .int .i64 o.a, .int .i64 o.wa, .int .i64 o.t, .int .i64 o.gr, .int .i64 o.de, .int .i64 o.ga, .int .i64 o.wk, .int .i64 o.op, .int .i64 o.wo, .int .i64 o.su] 30)) := hb79.alloc hb79.size _
      have hxX : (w9.alloc (.cells #[.int .i64 o.r, .int .i64 o.d, .int .i64 o.a, .int .i64 o.wa, .int .i64 o.t, .int .i64 o.gr, .int .i64 o.de, .int .i64 o.ga, .int .i64 o.wk, .int .i64 o.op, .int .i64 o.wo, .int .i64 o.su] 30)).cell? (ax.add i) = some (.int .i64 K[i]) := (World.cell?_alloc_lt w9 _ (ax.add i) (by rw [block_of_add]; exact Nat.lt_of_lt_of_le hax hb79.size)).trans ((hb9.cell (p := ax.add i) (by rw [block_of_add]; exact Nat.lt_of_lt_of_le hax hb89.size)).trans Hax9.out)
      have hyX : (w9.alloc (.cells #[.int .i64 o.r, .int .i64 o.d, .int .i64 o.a, .int .i64 o.wa, .int .i64 o.t, .int .i64 o.gr, .int .i64 o.de, .int .i64 o.ga, .int .i64 o.wk, .int .i64 o.op, .int .i64 o.wo, .int .i64 o.su] 30)).cell? (ay.add i) = some (.int .i64 K[i]) := (World.cell?_alloc_lt w9 _ (ay.add i) (by rw [block_of_add]; exact Nat.lt_of_lt_of_le hay hb79.size)).trans ((hb9.cell (p := ay.add i) (by rw [block_of_add]; exact Nat.lt_of_lt_of_le hay hb89.size)).trans Hay9.out)
      have hpX : 0 < i → (w9.alloc (.cells #[.int .i64 o.r, .int .i64 o.d, .int .i64 o.a, .int .i64 o.wa, .int .i64 o.t, .int .i64 o.gr, .int .i64 o.de, .int .i64 o.ga, .int .i64 o.wk, .int .i64 o.op, .int .i64 o.wo, .int .i64 o.su] 30)).cell? (ax.add (i - 1)) = some (.int .i64 K[i - 1]) := fun h0 => (hb7X.cell (p := ax.add (i - 1)) (by rw [block_of_add]; exact hax)).trans (Hprev.out h0)
      have hPX : Blk (w9.alloc (.cells #[.int .i64 o.r, .int .i64 o.d, .int .i64 o.a, .int .i64 o.wa, .int .i64 o.t, .int .i64 o.gr, .int .i64 o.de, .int .i64 o.ga, .int .i64 o.wk, .int .i64 o.op, .int .i64 o.wo, .int .i64 o.su] 30)) w8.heap.size 30 _ := (HP9.out.below hb9 (by simp)).alloc _
      have hQX := Blk.new w9 30 #[.int .i64 o.r, .int .i64 o.d, .int .i64 o.a, .int .i64 o.wa, .int .i64 o.t, .int .i64 o.gr, .int .i64 o.de, .int .i64 o.ga, .int .i64 o.wk, .int .i64 o.op, .int .i64 o.wo, .int .i64 o.su]
      obtain ⟨W, hW⟩ : ∃ W, w9.alloc (.cells #[.int .i64 o.r, .int .i64 o.d, .int .i64 o.a, .int .i64 o.wa, .int .i64 o.t, .int .i64 o.gr, .int .i64 o.de, .int .i64 o.ga, .int .i64 o.wk, .int .i64 o.op, .int .i64 o.wo, .int .i64 o.su] 30) = W := ⟨_, rfl⟩
      have Hw := Lib.hid hW
      rw [hW] at hb7X hxX hyX hpX hPX hQX
      have Hb7X := Lib.hid hb7X
      have HpX := Lib.hid hpX
      have HPX := Lib.hid hPX
      have HQX := Lib.hid hQX
      have HxX := Lib.hid hxX
      have HyX := Lib.hid hyX
      clear hb89 hb79 hb9 hb7X hpX hPX hQX hW hxX hyX hay9 Hax9 Hay9 HP9 Hb8
      go_wp2_with fail
      rw [Hw.out]
      have k1 := HxX.out
      have k2 := HyX.out
      have p0 := HPX.out.cell 0
      have p1 := HPX.out.cell 1
      have p2 := HPX.out.cell 2
      have p3 := HPX.out.cell 3
      have p4 := HPX.out.cell 4
      have p5 := HPX.out.cell 5
      have p6 := HPX.out.cell 6
      have p7 := HPX.out.cell 7
      have p8 := HPX.out.cell 8
      have p9 := HPX.out.cell 9
      have p10 := HPX.out.cell 10
      have p11 := HPX.out.cell 11
      have r0 := HQX.out.cell 0
      have r1 := HQX.out.cell 1
      have r2 := HQX.out.cell 2
      have r3 := HQX.out.cell 3
      have r4 := HQX.out.cell 4
      have r5 := HQX.out.cell 5
      have r6 := HQX.out.cell 6
      have r7 := HQX.out.cell 7
      have r8 := HQX.out.cell 8
      have r9 := HQX.out.cell 9
      have r10 := HQX.out.cell 10
      have r11 := HQX.out.cell 11
      simp only [List.getElem?_toArray, List.getElem?_cons_zero, List.getElem?_cons_succ] at p0 p1 p2 p3 p4 p5 p6 p7 p8 p9 p10 p11 r0 r1 r2 r3 r4 r5 r6 r7 r8 r9 r10 r11
      have g1 : decide (K[i] < 0) = false := by simp; exact hpos
      have g2 : decide (o.op < 0) = false := by simp; omega
      have g3 : decide (o.wo < 0) = false := by simp; omega
      have g4 : decide (o.su < 0) = false := by simp; omega
      have i0 : (0 : Int) ≤ (i : Int) := by omega
      have i1 : (i : Int) < K.length := by omega
      by_cases h0 : i = 0
      · have g5 : decide ((0 : Int) < (i : Int)) = false := by simp; omega
        have g6 : decide (0 < i) = false := by simp; omega
        clear h0
        go_quiet (fail)
        go_wp2
        go_roundg (K.length - (i + 1))
        case measure => rw [Hk.out]; omega
        case rel => exact ⟨i + 1, rfl, hlt, by go_num, below_drewN Hb7X.out _⟩
      · have k3 := HpX.out (by omega)
        have hlt2 := Hrise.out (by omega)
        have g5 : decide ((0 : Int) < (i : Int)) = true := by simp; omega
        have g6 : decide (0 < i) = true := by simp; omega
        have g7 : decide (K[i] ≤ K[i - 1]) = false := by simp; omega
        have g8 : IntKind.i64.wrap ((i : Int) - 1) = (i : Int) - 1 := IntWalk.i64_in _ (by omega)
        have g9 : ((i : Int) - 1).toNat = i - 1 := by omega
        have g10 : (0 : Int) ≤ (i : Int) - 1 := by omega
        have g11 : (i : Int) - 1 < K.length := by omega
        go_quiet (fail)
        go_wp2
        go_roundg (K.length - (i + 1))
        case measure => rw [Hk.out]; omega
        case rel => exact ⟨i + 1, rfl, hlt, by go_num, below_drewN Hb7X.out _⟩
    · have hile : i = K.length := by omega
      go_wp2
      go_ret
      exact ⟨rfl, Hb7.out.trans (hbel.mono Hb7.out.size)⟩
end Go.Proofs.Ythjdogeobfcedaa
