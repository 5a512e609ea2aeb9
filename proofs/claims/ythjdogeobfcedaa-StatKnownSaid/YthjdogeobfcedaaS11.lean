/-
  StatKnown, walked.
-/
import Derived.Test.YthjdogeobfcedaaS10
namespace Go.Proofs.Ythjdogeobfcedaa
open Go.RowKit Go.Maps Go.Sort

theorem step_has (s : Known) (e : Ev) (x : Int) : (∃ o, s.step e x = some o) ↔ (∃ o, s x = some o) ∨ (e.who = x ∧ 0 ≤ e.who ∧ 0 ≤ e.at_) := by
  unfold Known.step
  split
  · constructor
    · exact .inl
    · rintro (h | h)
      · exact h
      · omega
  split
  · constructor
    · exact .inl
    · rintro (h | h)
      · exact h
      · omega
  unfold Known.set
  split
  · rename_i e1
    constructor
    · intro _; exact .inr ⟨e1.symm, by omega, by omega⟩
    · intro _; exact ⟨_, rfl⟩
  · rename_i e1
    constructor
    · exact .inl
    · rintro (h | h)
      · exact h
      · exact absurd h.1.symm e1
theorem all_has (l : List Ev) : ∀ (s : Known) (x : Int), (∃ o, s.all l x = some o) ↔ (∃ o, s x = some o) ∨ ∃ e ∈ l, e.who = x ∧ 0 ≤ e.who ∧ 0 ≤ e.at_ := by
  induction l with
  | nil => intro s x; simp [Known.all]
  | cons e l ih =>
    intro s x
    have h := ih (s.step e) x
    rw [step_has] at h
    simp only [List.mem_cons, exists_eq_or_imp]
    rw [← or_assoc]
    exact h
theorem inOrder_is {w : World} {gs bm nm m : Nat} {D : DataW Unit} {own : Nat → Option Int} {s : Known} (h : StatsAt w gs bm nm D own m s) {K : List Int} (hn : K.Nodup) (hs : K.mergeSort leI = K) (hk : ∀ x, (∃ o, s x = some o) ↔ x ∈ K) : inOrder D = K := by
  rw [← hs]
  exact mergeSort_of_perm_i ((List.perm_ext_iff_of_nodup (keys_of h).1 hn).2 fun x => ((keys_of h).2 x).trans (hk x))

def evK (k : Int) : Ev := { at_ := 5, kind := k, who := 3, n := 1 }
def evsK (j : Nat) : List Ev := (List.range j).map fun i : Nat => evK ((i : Int) - 1)
theorem evsK_snoc (s : Known) (j : Nat) : s.all (evsK (j + 1)) = (s.all (evsK j)).all [evK ((j : Int) - 1)] := by
  unfold evsK Known.all
  rw [List.range_succ, List.map_append, List.foldl_append]
  rfl
def evsC : List Ev := [⟨1, 2, 4, 9⟩, ⟨-1, 1, 5, 0⟩, ⟨1, 1, -5, 0⟩]
def evsD : List Ev := [⟨1, 1, 1, 1⟩, ⟨3, 1, 1, 2⟩, ⟨7, 2, 1, 1⟩, ⟨8, 3, 1, 2⟩, ⟨9, 1, 1, 3⟩]
def sK : Known := Known.all (fun _ => none) (evsK 14)
def sC : Known := sK.all evsC
def sD : Known := Known.all (fun _ => none) evsD
theorem sK3 : ∃ d t, sK 3 = some ⟨1, 1, 1, 1, 1, 1, 1, 1, 1, 0, 0, 0, d, t⟩ := ⟨_, _, rfl⟩
theorem sK4 : sK 4 = none := rfl
theorem sC4 : ∃ d t, sC 4 = some ⟨0, 1, 0, 0, 0, 0, 0, 0, 0, 0, 0, 0, d, t⟩ := ⟨_, _, rfl⟩
theorem sC5 : sC 5 = none := rfl
theorem sD1 : ∃ d, sD 1 = some ⟨3, 1, 1, 0, 0, 0, 0, 0, 0, 1, 6, 6, d, [6]⟩ := ⟨_, rfl⟩
theorem sD2 : sD 2 = none := rfl
theorem sC_keys (x : Int) : (∃ o, sC x = some o) ↔ x ∈ [(3 : Int), 4] := by
  unfold sC sK
  rw [all_has, all_has]
  constructor
  · rintro ((⟨o, h⟩ | ⟨e, h, h1, h2, h3⟩) | ⟨e, h, h1, h2, h3⟩)
    · cases h
    · unfold evsK at h
      rw [List.mem_map] at h
      obtain ⟨i, _, rfl⟩ := h
      simp [evK] at h1
      simp [← h1]
    · simp [evsC] at h
      rcases h with rfl | rfl | rfl
      · simp [← h1]
      · exact absurd h3 (by decide)
      · exact absurd h2 (by decide)
  · intro h
    simp at h
    rcases h with rfl | rfl
    · exact .inl (.inr ⟨evK 5, List.mem_map.2 ⟨6, by decide, rfl⟩, rfl, by decide, by decide⟩)
    · exact .inr ⟨_, List.mem_cons_self, rfl, by decide, by decide⟩
theorem sort34 : [(3 : Int), 4].mergeSort leI = [3, 4] := List.mergeSort_of_pairwise (by simp [leI])
def KnownRel (w : World) (n : Nat) (j : Nat) (s2 : Value) (wr : World) : Prop :=
  ∃ i : Nat, j = 14 - i ∧ i ≤ 14 ∧ s2 = .int .i64 ((i : Int) - 1) ∧ Below w.heap.size w wr ∧ w.heap.size ≤ n ∧ ∃ nm D own, StatsAt wr (n + 1) n nm D own (2 * i) (Known.all (fun _ => none) (evsK i)) ∧ ∀ j, own j ≠ none → w.heap.size ≤ j
theorem evs_ok : (∀ e ∈ evsC, e.Ok) ∧ (∀ e ∈ evsD, e.Ok) ∧ ∀ k : Int, -1 ≤ k → k ≤ 13 → ∀ e ∈ [evK k], e.Ok := by
  refine ⟨fun e he => ?_, fun e he => ?_, fun k h1 h2 e he => ?_⟩
  · simp [evsC] at he
    rcases he with rfl | rfl | rfl <;> exact ⟨by decide, by decide, by decide, by decide⟩
  · simp [evsD] at he
    rcases he with rfl | rfl | rfl | rfl | rfl <;> exact ⟨by decide, by decide, by decide, by decide⟩
  · simp at he
    subst he
    exact ⟨rfl, WalkArith.wf_i64 (by simp [evK]; omega), rfl, rfl⟩
set_option maxRecDepth 100000 in
set_option maxHeartbeats 2000000 in
theorem known_walk (w : World) : Calls Try.prog 4 #[] w fun e w' => e = .returned (.bool true) ∧ Below w.heap.size w w' := by
  obtain ⟨okC, okD, okK⟩ := evs_ok
  have OkC := Lib.hid okC
  have OkD := Lib.hid okD
  have OkK := Lib.hid okK
  clear okC okD okK
  go_enter Try.func4, Try.ntmps4
  go_wp2_with fail
  refine (awake_any w).mono ?_
  rintro e w1 ⟨rfl, hb1⟩
  have Hb1 := Lib.hid hb1
  clear hb1
  go_wp2_with fail
  refine (New_any w1).mono ?_
  rintro e w2 ⟨rfl, rfl⟩
  have hs0 := stats_new w1
  have hb2 := Hb1.out.trans ((newWorld_below w1).mono Hb1.out.size)
  have h1s := Hb1.out.size
  go_wp2_with fail
  go_loopg [2] 14 (fun j s2 wr => KnownRel w w1.heap.size j s2 wr)
  case atStart => exact ⟨0, rfl, by omega, rfl, hb2, h1s, 0, .map [], _, hs0, fun j hj => Nat.le_trans h1s (ownNew_some hj)⟩
  case round =>
    obtain ⟨i, hk, hil, rfl, hbel, _, nm, D, own, hs, hown⟩ := hrel
    have Hk := Lib.hid hk
    have Hbel := Lib.hid hbel
    have Hs := Lib.hid hs
    have Hown := Lib.hid hown
    clear hk hbel hs hown hs0
    by_cases hlt : i < 14
    · have d1 : decide ((i : Int) - 1 < 13) = true := by simp; omega
      go_wp2_with fail
      have hs1 := Hs.out.below ((Below.refl _ _).alloc (Nat.le_refl _) (.cells (flatE [evK ((i : Int) - 1)]).toArray 35))
      refine (Put_any _ _ _ _ _ _ _ _ (some ⟨wr.heap.size, 0, none⟩) [evK ((i : Int) - 1)] 1 hs1 ((evs_new wr [evK ((i : Int) - 1)] (Nat.lt_succ_self 0)).more (by simp)) ?_ (by simp; omega) (OkK.out _ (by omega) (by omega))).mono ?_
      · intro _ ad e
        cases e
        exact Classical.byContradiction fun h => by
          obtain ⟨q, hq⟩ := Option.ne_none_iff_exists'.1 h
          exact absurd (Hs.out.old _ q hq) (by simp)
      rintro e w3 ⟨rfl, own', nm', D', h3, h4, ht⟩
      have H3 := Lib.hid (And.intro h3 (And.intro h4 ht))
      clear h3 h4 ht hs1
      go_wp2_with fail
      go_roundg (14 - (i + 1))
      case measure => rw [Hk.out]; omega
      case rel =>
        have hb3 : Below w.heap.size w w3 := (((Turn.refl (fun j => w.heap.size ≤ j) w).below (Hbel.out.alloc Hbel.out.size _)).trans H3.out.2.2 fun j _ h => Hown.out j h).toBelow (Nat.le_refl _) (fun i hi => by omega)
        refine ⟨i + 1, rfl, by omega, by go_num, hb3, h1s, nm', D', own', by rw [evsK_snoc]; exact H3.out.1, fun j hj => ?_⟩
        rcases Nat.lt_or_ge j (wr.alloc (.cells (flatE [evK ((i : Int) - 1)]).toArray 35)).heap.size with h | h
        · rw [H3.out.2.1 j h] at hj
          exact Hown.out j hj
        · have := Hbel.out.size
          simp at h
          omega
    · obtain rfl : i = 14 := by omega
      obtain ⟨dK, tK, e3⟩ := sK3
      obtain ⟨dC, tC, e4⟩ := sC4
      obtain ⟨dD, eD⟩ := sD1
      have E3 := Lib.hid e3
      have E4 := Lib.hid e4
      have ED := Lib.hid eD
      have HsK : Hid (StatsAt wr (w1.heap.size + 1) w1.heap.size nm D own 28 sK) := Hs.out
      clear e3 e4 eD Hs
      go_wp2_with fail
      refine (Of_some _ _ _ _ _ _ _ _ HsK.out 3 (by decide) _ E3.out).mono ?_
      rintro e w3 ⟨rfl, hb3⟩
      have Hb3 := Lib.hid hb3
      clear hb3
      go_wp2_with fail
      refine (Of_no _ _ _ _ _ _ _ _ (HsK.out.below (Hb3.out.alloc Hb3.out.size _)) 4 (by decide) sK4).mono ?_
      rintro e w4 ⟨rfl, hb4⟩
      have Hb4 := Lib.hid hb4
      clear hb4
      go_wp2_with fail
      have hsW5 : StatsAt ((w4.alloc (.cells #[.int .i64 0, .int .i64 0, .int .i64 0, .int .i64 0, .int .i64 0, .int .i64 0, .int .i64 0, .int .i64 0, .int .i64 0, .int .i64 0, .int .i64 0, .int .i64 0] 30)).alloc (.cells (flatE evsC).toArray 35)) (w1.heap.size + 1) w1.heap.size nm D own 28 sK := ((HsK.out.below (Hb3.out.alloc Hb3.out.size _)).below Hb4.out).below (((Below.refl _ _).alloc (Nat.le_refl _) _).alloc (by simp) _)
      have hz3 := Hb3.out.size
      have hz4 := Hb4.out.size
      simp only [World.size_alloc] at hz4
      have hA5 : Blk ((w4.alloc (.cells #[.int .i64 0, .int .i64 0, .int .i64 0, .int .i64 0, .int .i64 0, .int .i64 0, .int .i64 0, .int .i64 0, .int .i64 0, .int .i64 0, .int .i64 0, .int .i64 0] 30)).alloc (.cells (flatE evsC).toArray 35)) w3.heap.size 30 _ := (((Blk.new w3 30 #[.int .i64 1, .int .i64 1, .int .i64 1, .int .i64 1, .int .i64 1, .int .i64 1, .int .i64 1, .int .i64 1, .int .i64 1, .int .i64 0, .int .i64 0, .int .i64 0]).below Hb4.out (by simp)).alloc _).alloc _
      have hb5 : Below w.heap.size w ((w4.alloc (.cells #[.int .i64 0, .int .i64 0, .int .i64 0, .int .i64 0, .int .i64 0, .int .i64 0, .int .i64 0, .int .i64 0, .int .i64 0, .int .i64 0, .int .i64 0, .int .i64 0] 30)).alloc (.cells (flatE evsC).toArray 35)) := by
        have h1 := Hbel.out.size
        have h2 := Hbel.out.trans (((Hb3.out.alloc hz3 (.cells #[.int .i64 1, .int .i64 1, .int .i64 1, .int .i64 1, .int .i64 1, .int .i64 1, .int .i64 1, .int .i64 1, .int .i64 1, .int .i64 0, .int .i64 0, .int .i64 0] 30)).trans (Hb4.out.mono (by simp; omega))).mono h1)
        exact (h2.alloc h2.size _).alloc (by simp; have := h2.size; omega) _
      refine (Put_any _ _ _ _ _ _ _ _ (some ⟨w4.heap.size + 1, 0, none⟩) evsC 3 hsW5 ?_ ?_ (by decide) OkC.out).mono ?_
      · have h : Evs _ _ _ _ := (evs_new (w4.alloc (.cells #[.int .i64 0, .int .i64 0, .int .i64 0, .int .i64 0, .int .i64 0, .int .i64 0, .int .i64 0, .int .i64 0, .int .i64 0, .int .i64 0, .int .i64 0, .int .i64 0] 30)) evsC (by decide)).more (B' := ((w4.alloc (.cells #[.int .i64 0, .int .i64 0, .int .i64 0, .int .i64 0, .int .i64 0, .int .i64 0, .int .i64 0, .int .i64 0, .int .i64 0, .int .i64 0, .int .i64 0, .int .i64 0] 30)).alloc (.cells (flatE evsC).toArray 35)).heap.size) (by simp)
        simpa only [World.size_alloc] using h
      · intro _ ad e
        cases e
        exact Classical.byContradiction fun h => by
          obtain ⟨q, hq⟩ := Option.ne_none_iff_exists'.1 h
          have := HsK.out.old _ q hq
          simp at this
          omega
      rintro e w5 ⟨rfl, own5, nm5, D5, h3, h4, ht⟩
      have hown5 : ∀ j, own5 j ≠ none → w.heap.size ≤ j := fun j hj => by
        rcases Nat.lt_or_ge j ((w4.alloc (.cells #[.int .i64 0, .int .i64 0, .int .i64 0, .int .i64 0, .int .i64 0, .int .i64 0, .int .i64 0, .int .i64 0, .int .i64 0, .int .i64 0, .int .i64 0, .int .i64 0] 30)).alloc (.cells (flatE evsC).toArray 35)).heap.size with h | h
        · rw [h4 j h] at hj
          exact Hown.out j hj
        · exact Nat.le_trans hb5.size h
      have hA5' : Blk w5 w3.heap.size 30 _ := (ht.block _ hA5.lt fun h => by
        obtain ⟨q, hq⟩ := Option.ne_none_iff_exists'.1 h
        have := HsK.out.old _ q hq
        omega).trans hA5
      have hb5' : Below w.heap.size w w5 := (((Turn.refl (fun j => w.heap.size ≤ j) w).below hb5).trans ht fun j _ h => Hown.out j h).toBelow (Nat.le_refl _) (fun i hi => by omega)
      have HS5 : Hid (StatsAt w5 (w1.heap.size + 1) w1.heap.size nm5 D5 own5 34 sC) := h3
      have HA5 := Lib.hid hA5'
      have Hb5 := Lib.hid hb5'
      have Hown5 := Lib.hid hown5
      clear h3 h4 ht hsW5 hA5 hA5' hb5 hb5' hown5 HsK Hb3 Hb4 Hbel Hown
      go_wp2_with fail
      refine (Of_some _ _ _ _ _ _ _ _ HS5.out 4 (by decide) _ E4.out).mono ?_
      rintro e w6 ⟨rfl, hb6⟩
      have Hb6 := Lib.hid hb6
      clear hb6
      go_wp2_with fail
      refine (Of_no _ _ _ _ _ _ _ _ (HS5.out.below (Hb6.out.alloc Hb6.out.size _)) 5 (by decide) sC5).mono ?_
      rintro e w7 ⟨rfl, hb7⟩
      have Hb7 := Lib.hid hb7
      clear hb7
      go_wp2_with fail
      have hz6 := Hb6.out.size
      have hz7 := Hb7.out.size
      simp only [World.size_alloc] at hz7
      have hs7 := (HS5.out.below (Hb6.out.alloc hz6 (.cells #[.int .i64 0, .int .i64 1, .int .i64 0, .int .i64 0, .int .i64 0, .int .i64 0, .int .i64 0, .int .i64 0, .int .i64 0, .int .i64 0, .int .i64 0, .int .i64 0] 30))).below (Hb7.out.alloc (by simp; omega) (.cells #[.int .i64 0, .int .i64 0, .int .i64 0, .int .i64 0, .int .i64 0, .int .i64 0, .int .i64 0, .int .i64 0, .int .i64 0, .int .i64 0, .int .i64 0, .int .i64 0] 30))
      have hA7 := ((HA5.out.below (Hb6.out.alloc hz6 (.cells #[.int .i64 0, .int .i64 1, .int .i64 0, .int .i64 0, .int .i64 0, .int .i64 0, .int .i64 0, .int .i64 0, .int .i64 0, .int .i64 0, .int .i64 0, .int .i64 0] 30)) HA5.out.lt).below Hb7.out (Nat.lt_of_lt_of_le HA5.out.lt (by simp; omega))).alloc (.cells #[.int .i64 0, .int .i64 0, .int .i64 0, .int .i64 0, .int .i64 0, .int .i64 0, .int .i64 0, .int .i64 0, .int .i64 0, .int .i64 0, .int .i64 0, .int .i64 0] 30)
      have hB7 := ((Blk.new w6 30 #[.int .i64 0, .int .i64 1, .int .i64 0, .int .i64 0, .int .i64 0, .int .i64 0, .int .i64 0, .int .i64 0, .int .i64 0, .int .i64 0, .int .i64 0, .int .i64 0]).below Hb7.out (by simp)).alloc (.cells #[.int .i64 0, .int .i64 0, .int .i64 0, .int .i64 0, .int .i64 0, .int .i64 0, .int .i64 0, .int .i64 0, .int .i64 0, .int .i64 0, .int .i64 0, .int .i64 0] 30)
      have hb7 : Below w.heap.size w (w7.alloc (.cells #[.int .i64 0, .int .i64 0, .int .i64 0, .int .i64 0, .int .i64 0, .int .i64 0, .int .i64 0, .int .i64 0, .int .i64 0, .int .i64 0, .int .i64 0, .int .i64 0] 30)) := by
        have h1 := Hb5.out.size
        have h2 := Hb5.out.trans (((Hb6.out.alloc hz6 (.cells #[.int .i64 0, .int .i64 1, .int .i64 0, .int .i64 0, .int .i64 0, .int .i64 0, .int .i64 0, .int .i64 0, .int .i64 0, .int .i64 0, .int .i64 0, .int .i64 0] 30)).trans (Hb7.out.mono (by simp; omega))).mono h1)
        exact h2.alloc h2.size _
      obtain ⟨W7, hW7⟩ : ∃ W7, w7.alloc (.cells #[.int .i64 0, .int .i64 0, .int .i64 0, .int .i64 0, .int .i64 0, .int .i64 0, .int .i64 0, .int .i64 0, .int .i64 0, .int .i64 0, .int .i64 0, .int .i64 0] 30) = W7 := ⟨_, rfl⟩
      rw [hW7] at hs7 hA7 hB7 hb7
      have HW7 := Lib.hid hW7
      have HS7 := Lib.hid hs7
      have HA7 := Lib.hid hA7
      have HB7 := Lib.hid hB7
      have Hbw7 := Lib.hid hb7
      clear hW7 hs7 hA7 hB7 hb7 HS5 HA5 Hb5 Hb6 Hb7
      rw [HW7.out]
      refine (New_any W7).mono ?_
      rintro e w8 ⟨rfl, rfl⟩
      go_wp2_with fail
      have hN := newWorld_size W7
      have hE8 : Below W7.heap.size W7 ((newWorld W7).alloc (.cells (flatE evsD).toArray 35)) := (newWorld_below W7).alloc (by omega) _
      refine (Put_any _ _ _ _ _ _ _ _ (some ⟨(newWorld W7).heap.size, 0, none⟩) evsD 5 ((stats_new W7).below ((Below.refl _ _).alloc (Nat.le_refl _) (.cells (flatE evsD).toArray 35))) ((evs_new (newWorld W7) evsD (by decide)).more (by simp)) ?_ (by decide) OkD.out).mono ?_
      · intro _ ad e
        cases e
        exact ownNew_no (show W7.heap.size + 1 < (newWorld W7).heap.size by omega)
      rintro e w8 ⟨rfl, ownT, nmT, DT, h3, _, ht⟩
      have HT8 : Hid (StatsAt w8 (W7.heap.size + 1) W7.heap.size nmT DT ownT 10 sD) := h3
      have hs8 := (HS7.out.below hE8).turn ht fun j hj => Classical.byContradiction fun h => by
        obtain ⟨q, hq⟩ := Option.ne_none_iff_exists'.1 h
        have h1 := HS7.out.old j q hq
        have h2 := ownNew_some hj
        omega
      have hA8 := (ht.block _ (HA7.out.below hE8 HA7.out.lt).lt fun h => by
        have h1 := ownNew_some h
        have h2 := HA7.out.lt
        omega).trans (HA7.out.below hE8 HA7.out.lt)
      have hB8 := (ht.block _ (HB7.out.below hE8 HB7.out.lt).lt fun h => by
        have h1 := ownNew_some h
        have h2 := HB7.out.lt
        omega).trans (HB7.out.below hE8 HB7.out.lt)
      have hb8 : Below w.heap.size w w8 := (((Turn.refl (fun j => w.heap.size ≤ j) w).below (Hbw7.out.trans (hE8.mono Hbw7.out.size))).trans ht fun j _ h => Nat.le_trans Hbw7.out.size (ownNew_some h)).toBelow (Nat.le_refl _) (fun i hi => by omega)
      have HS8 := Lib.hid hs8
      have HA8 : Hid (Blk w8 _ _ _) := hA8
      have HB8 : Hid (Blk w8 _ _ _) := hB8
      have Hb8 := Lib.hid hb8
      clear h3 ht hs8 hA8 hB8 hb8 hE8 HS7 HA7 HB7 Hbw7 HW7
      go_wp2_with fail
      refine (Of_some _ _ _ _ _ _ _ _ HT8.out 1 (by decide) _ ED.out).mono ?_
      rintro e w9 ⟨rfl, hb9⟩
      have Hb9 := Lib.hid hb9
      have hz9 := hb9.size
      clear hb9
      go_wp2_with fail
      have hs9 := HS8.out.below (Hb9.out.alloc hz9 (.cells #[.int .i64 3, .int .i64 1, .int .i64 1, .int .i64 0, .int .i64 0, .int .i64 0, .int .i64 0, .int .i64 0, .int .i64 0, .int .i64 1, .int .i64 6, .int .i64 6] 30))
      have hT9 := HT8.out.below (Hb9.out.alloc hz9 (.cells #[.int .i64 3, .int .i64 1, .int .i64 1, .int .i64 0, .int .i64 0, .int .i64 0, .int .i64 0, .int .i64 0, .int .i64 0, .int .i64 1, .int .i64 6, .int .i64 6] 30))
      have hA9 := (HA8.out.below Hb9.out HA8.out.lt).alloc (.cells #[.int .i64 3, .int .i64 1, .int .i64 1, .int .i64 0, .int .i64 0, .int .i64 0, .int .i64 0, .int .i64 0, .int .i64 0, .int .i64 1, .int .i64 6, .int .i64 6] 30)
      have hB9 := (HB8.out.below Hb9.out HB8.out.lt).alloc (.cells #[.int .i64 3, .int .i64 1, .int .i64 1, .int .i64 0, .int .i64 0, .int .i64 0, .int .i64 0, .int .i64 0, .int .i64 0, .int .i64 1, .int .i64 6, .int .i64 6] 30)
      have hD9 := Blk.new w9 30 #[.int .i64 3, .int .i64 1, .int .i64 1, .int .i64 0, .int .i64 0, .int .i64 0, .int .i64 0, .int .i64 0, .int .i64 0, .int .i64 1, .int .i64 6, .int .i64 6]
      have hbw9 : Below w.heap.size w (w9.alloc (.cells #[.int .i64 3, .int .i64 1, .int .i64 1, .int .i64 0, .int .i64 0, .int .i64 0, .int .i64 0, .int .i64 0, .int .i64 0, .int .i64 1, .int .i64 6, .int .i64 6] 30)) := by
        have h2 := Hb8.out.trans (Hb9.out.mono Hb8.out.size)
        exact h2.alloc h2.size _
      obtain ⟨W9, hW9⟩ : ∃ W9, w9.alloc (.cells #[.int .i64 3, .int .i64 1, .int .i64 1, .int .i64 0, .int .i64 0, .int .i64 0, .int .i64 0, .int .i64 0, .int .i64 0, .int .i64 1, .int .i64 6, .int .i64 6] 30) = W9 := ⟨_, rfl⟩
      rw [hW9] at hs9 hT9 hA9 hB9 hD9 hbw9
      have HW9 := Lib.hid hW9
      rw [HW9.out]
      refine (All_list _ _ _ _ _ _ _ _ [3, 4] (inOrder_is hs9 (by decide) sort34 sC_keys) hs9 (by omega)).mono ?_
      rintro e w10 ⟨X, cx, rfl, hX, hb10⟩
      have hT10 := hT9.below hb10
      have hA10 := hA9.below hb10 hA9.lt
      have hB10 := hB9.below hb10 hB9.lt
      have hD10 := hD9.below hb10 hD9.lt
      have hb10' := hbw9.trans (hb10.mono hbw9.size)
      have hX10 := Reads.of_own hX
      clear hs9 hT9 hA9 hB9 hD9 hbw9 hW9 HW9 hX hb10 HS8 HA8 HB8 Hb8 Hb9 HT8
      obtain ⟨ax, u0, rfl, _, hu0, hx0⟩ := hX10.at_ (k := 0) (by decide)
      obtain ⟨ax', u1, hax, _, hu1, hx1⟩ := hX10.at_ (k := 1) (by decide)
      obtain rfl : Value.int .i64 3 = u0 := by simpa using hu0
      obtain rfl : Value.int .i64 4 = u1 := by simpa using hu1
      obtain rfl : ax = ax' := Option.some.inj hax
      have HT10 := Lib.hid hT10
      have HA10 := Lib.hid hA10
      have HB10 := Lib.hid hB10
      have HD10 := Lib.hid hD10
      have Hb10 := Lib.hid hb10'
      clear hT10 hA10 hB10 hD10 hb10' hX10 hu0 hu1 hax
      have a0 := HA10.out.cell 0
      have b0 := HB10.out.cell 0
      have c0 := HD10.out.cell 0
      have a1 := HA10.out.cell 1
      have b1 := HB10.out.cell 1
      have c1 := HD10.out.cell 1
      have a2 := HA10.out.cell 2
      have b2 := HB10.out.cell 2
      have c2 := HD10.out.cell 2
      have a3 := HA10.out.cell 3
      have b3 := HB10.out.cell 3
      have c3 := HD10.out.cell 3
      have a4 := HA10.out.cell 4
      have b4 := HB10.out.cell 4
      have c4 := HD10.out.cell 4
      have a5 := HA10.out.cell 5
      have b5 := HB10.out.cell 5
      have c5 := HD10.out.cell 5
      have a6 := HA10.out.cell 6
      have b6 := HB10.out.cell 6
      have c6 := HD10.out.cell 6
      have a7 := HA10.out.cell 7
      have b7 := HB10.out.cell 7
      have c7 := HD10.out.cell 7
      have a8 := HA10.out.cell 8
      have b8 := HB10.out.cell 8
      have c8 := HD10.out.cell 8
      have a9 := HA10.out.cell 9
      have b9 := HB10.out.cell 9
      have c9 := HD10.out.cell 9
      have a10 := HA10.out.cell 10
      have b10 := HB10.out.cell 10
      have c10 := HD10.out.cell 10
      have a11 := HA10.out.cell 11
      have b11 := HB10.out.cell 11
      have c11 := HD10.out.cell 11
      simp only [List.getElem?_toArray, List.getElem?_cons_zero, List.getElem?_cons_succ] at a0 b0 c0 a1 b1 c1 a2 b2 c2 a3 b3 c3 a4 b4 c4 a5 b5 c5 a6 b6 c6 a7 b7 c7 a8 b8 c8 a9 b9 c9 a10 b10 c10 a11 b11 c11
      have l1 : Calls Try.prog 10 #[.pointer (some ⟨W7.heap.size + 1, 0, none⟩), .int .i64 1, .int .i64 5] w10 fun e w' => e = .returned (.int .i64 1) ∧ w10 = w' :=
        Late_some _ _ _ _ _ _ _ _ HT10.out 1 5 (by decide) _ ED.out (show (1 : Nat) ≤ 1000000 by omega)
      have l2 : Calls Try.prog 10 #[.pointer (some ⟨W7.heap.size + 1, 0, none⟩), .int .i64 1, .int .i64 6] w10 fun e w' => e = .returned (.int .i64 0) ∧ w10 = w' :=
        Late_some _ _ _ _ _ _ _ _ HT10.out 1 6 (by decide) _ ED.out (show (1 : Nat) ≤ 1000000 by omega)
      have l3 : Calls Try.prog 10 #[.pointer (some ⟨W7.heap.size + 1, 0, none⟩), .int .i64 2, .int .i64 0] w10 fun e w' => e = .returned (.int .i64 0) ∧ w10 = w' :=
        Late_no _ _ _ _ _ _ _ _ HT10.out 2 0 (by decide) sD2
      have L1 := Lib.hid l1
      have L2 := Lib.hid l2
      have L3 := Lib.hid l3
      clear l1 l2 l3
      have hx1' : w10.cell? ⟨ax.block, ax.off + 1, none⟩ = some (.int .i64 4) := by rw [← add_pos ax 0]; exact hx1
      have hx0' : w10.cell? ax = some (.int .i64 3) := by simpa [Addr.add] using hx0
      go_wp2_with fail
      refine L1.out.mono ?_
      rintro e w11 ⟨rfl, rfl⟩
      go_wp2_with fail
      refine L2.out.mono ?_
      rintro e w11 ⟨rfl, rfl⟩
      go_wp2_with fail
      refine L3.out.mono ?_
      rintro e w11 ⟨rfl, rfl⟩
      go_wp2_with fail
      go_ret
      exact ⟨rfl, Hb10.out⟩
end Go.Proofs.Ythjdogeobfcedaa
