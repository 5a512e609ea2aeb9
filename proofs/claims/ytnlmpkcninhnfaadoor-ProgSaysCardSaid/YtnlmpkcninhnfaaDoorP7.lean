/-
  Total and Holds at every program; ProgJoins, walked.
-/
import Derived.Test.YtnlmpkcninhnfaaDoorP6
import Derived.Deep.AppendLies
namespace Go.Proofs.YtnlmpkcninhnfaaDoor
open Go.RowKit

theorem Total_bad (A : Option Addr) (l : List (Int × Int)) (c B : Nat) (w : World) (hg : good l = false) (hl : l.length ≤ 4611686018427387904) (hB : B ≤ w.heap.size) (hp : Pg w B A l) :
    Calls Tryd.prog 13 #[.slice A l.length c] w fun e w' => e = .returned (.int .i64 0) ∧ Below w.heap.size w w' := by
  have Hg := Lib.hid hg
  clear hg
  go_enter Tryd.func13, Tryd.ntmps13
  go_wp2_with fail
  refine (Good_any A l c B false Hg.out _ hB hl hp).mono ?_
  rintro e w1 ⟨rfl, hb1⟩
  go_wp2
  go_ret
  exact ⟨rfl, hb1⟩
theorem Holds_bad (A : Option Addr) (l : List (Int × Int)) (c B : Nat) (w : World) (hg : good l = false) (hl : l.length ≤ 4611686018427387904) (hB : B ≤ w.heap.size) (hp : Pg w B A l) :
    Calls Tryd.prog 14 #[.slice A l.length c] w fun e w' => e = .returned (.int .i64 0) ∧ Below w.heap.size w w' := by
  have Hg := Lib.hid hg
  clear hg
  go_enter Tryd.func14, Tryd.ntmps14
  go_wp2_with fail
  refine (Good_any A l c B false Hg.out _ hB hl hp).mono ?_
  rintro e w1 ⟨rfl, hb1⟩
  go_wp2
  go_ret
  exact ⟨rfl, hb1⟩
def HolRel (l : List (Int × Int)) (w : World) (k : Nat) (s3 s11 : Value) (wr : World) : Prop :=
  ∃ i : Nat, k = l.length - i ∧ i ≤ l.length ∧ s11 = .int .i64 i ∧ s3 = .int .i64 (holdsN (l.take i)) ∧ Below w.heap.size w wr
set_option maxHeartbeats 1000000 in
theorem Holds_good (A : Option Addr) (l : List (Int × Int)) (c B : Nat) (w : World) (hg : good l = true) (hB : B ≤ w.heap.size) (hp : Pg w B A l) :
    Calls Tryd.prog 14 #[.slice A l.length c] w fun e w' => e = .returned (.int .i64 (holdsN l)) ∧ Below w.heap.size w w' := by
  obtain ⟨hl1, hl8, hall⟩ := good_parts hg
  have Hall := Lib.hid hall
  have Hg := Lib.hid hg
  clear hall hg
  go_enter Tryd.func14, Tryd.ntmps14
  go_wp2_with (go_at_call 8; refine (Good_any A l c B true Hg.out _ hB (by omega) hp).mono ?_; rintro e w1 ⟨rfl, hb1⟩)
  go_loopg [3, 11] l.length (fun k s3 s11 wr => HolRel l w k s3 s11 wr)
  case atStart => exact ⟨0, rfl, Nat.zero_le _, rfl, by simp [holdsN], hb1⟩
  case round =>
    obtain ⟨i, hk, hil, rfl, rfl, hbel⟩ := hrel
    have Hk := Lib.hid hk
    clear hk
    by_cases hlt : i < l.length
    · obtain ⟨ad, s, t, rfl, hadb, hx, hc1, hc2⟩ := (hp.below (hbel.mono hB)).at_ hlt
      have hst := Hall.out i _ hx
      have hs1 := holdsN_bound l i
      have Hx := Lib.hid hx
      clear hx
      by_cases h0 : 0 < s
      · have d0 : decide (0 < s) = true := by simpa using h0
        go_wp2
        go_roundg (l.length - (i + 1))
        case measure => rw [Hk.out]; omega
        case rel =>
          refine ⟨i + 1, rfl, hlt, by go_num, ?_, hbel.alloc hbel.size _⟩
          rw [holdsN_snoc l i _ Hx.out, if_pos h0]
      · have d0 : decide (0 < s) = false := by simpa using h0
        go_wp2
        go_roundg (l.length - (i + 1))
        case measure => rw [Hk.out]; omega
        case rel =>
          refine ⟨i + 1, rfl, hlt, by go_num, ?_, hbel.alloc hbel.size _⟩
          rw [holdsN_snoc l i _ Hx.out, if_neg (by omega)]
          simp
    · have hile : i = l.length := by omega
      go_wp2
      go_ret
      exact ⟨ret_int (by rw [hile, List.take_of_length_le (Nat.le_refl _)]), hbel⟩
theorem Total_any (A : Option Addr) (l : List (Int × Int)) (c B : Nat) (w : World) (hl : l.length ≤ 4611686018427387904) (hB : B ≤ w.heap.size) (hp : Pg w B A l) :
    Calls Tryd.prog 13 #[.slice A l.length c] w fun e w' => e = .returned (.int .i64 (if good l then sumN l else 0)) ∧ Below w.heap.size w w' := by
  cases hg : good l
  · exact Total_bad A l c B w hg hl hB hp
  · exact Total_good A l c B w hg hB hp
theorem Holds_any (A : Option Addr) (l : List (Int × Int)) (c B : Nat) (w : World) (hl : l.length ≤ 4611686018427387904) (hB : B ≤ w.heap.size) (hp : Pg w B A l) :
    Calls Tryd.prog 14 #[.slice A l.length c] w fun e w' => e = .returned (.int .i64 (if good l then holdsN l else 0)) ∧ Below w.heap.size w w' := by
  cases hg : good l
  · exact Holds_bad A l c B w hg hl hB hp
  · exact Holds_good A l c B w hg hB hp

theorem sumN_app (p q : List (Int × Int)) : sumN (p ++ q) = sumN p + sumN q := by simp [sumN]
theorem holdsN_app (p q : List (Int × Int)) : holdsN (p ++ q) = holdsN p + holdsN q := by simp [holdsN]

theorem Pg.addr {w : World} {B : Nat} {A : Option Addr} {l : List (Int × Int)} (h : Pg w B A l) (hl : 1 ≤ l.length) : ∃ ad, A = some ad ∧ ad.block < B := by
  obtain ⟨ad, e, hb, _⟩ := h.2 (by omega)
  exact ⟨ad, e, hb⟩
theorem Pg.news {w : World} {B : Nat} {ad : Addr} {l : List (Int × Int)} (h : Pg w B (some ad) l) (hl : 1 ≤ l.length) : ∀ j u, (flat l)[j]? = some u → w.cell? (ad.add j) = some u := by
  obtain ⟨ad', e, hb, hc⟩ := h.2 (by omega)
  obtain rfl := Option.some.inj e
  exact hc
theorem flat_one : ∀ (l : List (Int × Int)), ∀ u ∈ flat l, u.oneCell' = true
  | [], u, h => by simp [flat] at h
  | x :: l, u, h => by
    have := flat_one l u
    simp only [flat, List.flatMap_cons, List.cons_append, List.nil_append, List.mem_cons] at h this
    rcases h with rfl | rfl | h
    · rfl
    · rfl
    · exact this h
theorem ownsRow_new (w : World) : (w.alloc (.cells #[] 48)).ownsRow w.heap.size 48 2 (.slice (some ⟨w.heap.size, 0, none⟩) 0 0) 0 [] :=
  ⟨rfl, .inr ⟨w.heap.size, 0, #[], rfl, Nat.le_refl _, Blk.new w 48 #[], Nat.le_refl _, by unfold maxLen; omega, rfl, rfl⟩⟩
theorem good_app {p q : List (Int × Int)} (hp : good p = true) (hq : good q = true) (h : p.length + q.length ≤ 8) : good (p ++ q) = true := by
  simp only [good, Bool.and_eq_true, decide_eq_true_eq, Bool.not_eq_true', anyOdd, List.any_append, Bool.or_eq_false_iff, List.length_append] at hp hq ⊢
  exact ⟨⟨by omega, h⟩, hp.2, hq.2⟩
theorem textL_app : ∀ (p q : List (Int × Int)), p ≠ [] → q ≠ [] → textL (p ++ q) = textL p ++ 43 :: textL q
  | [], q, h, _ => absurd rfl h
  | [x], [], _, h => absurd rfl h
  | [x], y :: q, _, _ => by simp [textL, Lib.join_cons, Lib.joinTail]
  | x :: y :: p, q, _, hq => by
    have ih := textL_app (y :: p) q (by simp) hq
    have e1 : textL (x :: (y :: p ++ q)) = stepB x ++ 43 :: textL (y :: p ++ q) := by simp [textL, Lib.join_cons, Lib.joinTail]
    have e2 : textL (x :: y :: p) = stepB x ++ 43 :: textL (y :: p) := by simp [textL, Lib.join_cons, Lib.joinTail]
    rw [List.cons_append, e1, ih, e2]
    simp
theorem textG_len {l : List (Int × Int)} (hg : good l = true) : (textG l).length ≤ 176 := by
  rw [textG, if_pos hg]
  have h := text_len l fun x hx => good_mem hg hx
  have h8 := (good_parts hg).2.1
  omega
theorem textG_app {p q : List (Int × Int)} (hp : good p = true) (hq : good q = true) (h : p.length + q.length ≤ 8) : textG (p ++ q) = textG p ++ 43 :: textG q := by
  have h1 := (good_parts hp).1
  have h2 := (good_parts hq).1
  rw [textG, if_pos (good_app hp hq h), textG, if_pos hp, textG, if_pos hq, textL_app p q (fun e => by simp [e] at h1) (fun e => by simp [e] at h2)]
theorem flat_app (p q : List (Int × Int)) : flat p ++ flat q = flat (p ++ q) := by simp [flat]

set_option maxRecDepth 100000 in
set_option maxHeartbeats 4000000 in
theorem joins_on (A A' : Option Addr) (l l' : List (Int × Int)) (c c' : Nat) (w : World) (hg : good l = true) (hg' : good l' = true) (h8 : l.length + l'.length ≤ 8)
    (hp : Pg w w.heap.size A l) (hp' : Pg w w.heap.size A' l') (ht : HT w) :
    Calls Tryd.prog 5 #[.slice A l.length c, .slice A' l'.length c'] w fun e w' => e = .returned (.bool true) ∧ Below w.heap.size w w' := by
  obtain ⟨i0, hi, hz0, hz1, hz2⟩ := info_parts Tryd.info48
  obtain ⟨hl1, hl8, _⟩ := good_parts hg
  obtain ⟨hl1', hl8', _⟩ := good_parts hg'
  obtain ⟨ad, rfl, had⟩ := hp.addr hl1
  obtain ⟨ad', rfl, had'⟩ := hp'.addr hl1'
  have Ht := Lib.hid ht
  have Hg := Lib.hid hg
  have Hg' := Lib.hid hg'
  have d1 : decide (8 < (l.length : Int) + (l'.length : Int)) = false := by simp; omega
  clear ht hg hg'
  go_enter Tryd.func5, Tryd.ntmps5
  go_wp2_with fail
  refine (awake_any _ Ht.out).mono ?_
  rintro e w1 ⟨rfl, hb1⟩
  have hs1 : Since w w1 := hb1
  go_wp2_with fail
  refine (Good_any _ l c w.heap.size true Hg.out _ hs1.below.size (by omega) (hp.below hs1)).mono ?_
  rintro e w2 ⟨rfl, hb2⟩
  have hs2 := hs1.step hb2
  go_wp2_with fail
  refine (Good_any _ l' c' w.heap.size true Hg'.out _ hs2.below.size (by omega) (hp'.below hs2)).mono ?_
  rintro e w3 ⟨rfl, hb3⟩
  have hs3 := hs2.step hb3
  have hb3a : Below w.heap.size w (w3.alloc (.cells #[] 48)) := hs3.below.alloc hs3.below.size _
  go_wp2_with (at_builtin; refine wpList_append_own _ rfl _ _ 22 rfl w3.heap.size 48 i0 (.agg #[.int .i64 0, .int .i64 0]) 2 16 Tryd.underlying22 hi hz0 hz1 hz2 rfl (by decide) _ _ _ rfl (ownsRow_new w3) ad l.length _ (flat l) rfl (by rw [flat_length]) ?c1 ?c2 ?c3 ?c4 ?c5 ?_)
  case c1 => exact (hp.below hb3a).news hl1
  case c2 => exact flat_one l
  case c3 => unfold maxLen; omega
  case c4 => omega
  case c5 => simp
  intro u4 w4 hown4 hgr4 _
  have Hown4 := Lib.hid hown4
  have hb4 : Below w.heap.size w w4 := hb3a.grown hgr4 (by have := hs3.below.size; simp; omega) (fun k hk => by obtain rfl : k = w3.heap.size := (Option.some.inj hk).symm; exact hs3.below.size)
  have hs4 : Since w w4 := hb4
  have hsz4 : w3.heap.size ≤ w4.heap.size := by have := hgr4.size; simp at this; omega
  clear hown4
  go_wp2_with (at_builtin; refine wpList_append_own _ rfl _ _ 22 rfl w3.heap.size 48 i0 (.agg #[.int .i64 0, .int .i64 0]) 2 16 Tryd.underlying22 hi hz0 hz1 hz2 rfl (by decide) _ _ _ rfl Hown4.out ad' l'.length _ (flat l') rfl (by rw [flat_length]) ?c1 ?c2 ?c3 ?c4 ?c5 ?_)
  case c1 => exact (hp'.below hb4).news hl1'
  case c2 => exact flat_one l'
  case c3 => unfold maxLen; omega
  case c4 => omega
  case c5 => exact hsz4
  intro u5 w5 hown5 hgr5 _
  have hb5 : Below w.heap.size w w5 := hb4.grown hgr5 (by have := hs4.below.size; omega) (fun k hk => by have := (Hown4.out.lt k hk).1; have := hs3.below.size; omega)
  have hs5 : Since w w5 := hb5
  rw [flat_app] at hown5
  obtain ⟨j, hjl⟩ : ∃ j, j = l ++ l' := ⟨_, rfl⟩
  have Hjl := Lib.hid hjl
  clear hjl
  rw [← Hjl.out] at hown5
  have el : l.length + l'.length = j.length := by rw [Hjl.out]; simp
  have Hj := Lib.hid (show good j = true by rw [Hjl.out]; exact good_app Hg.out Hg'.out h8)
  have hl8j : j.length ≤ 8 := by rw [← el]; exact h8
  obtain ⟨sl0, sl1⟩ : 0 ≤ sumN l ∧ sumN l ≤ 17179869184 := by have := sumN_bound Hg.out l.length (Nat.le_refl _); rw [List.take_length] at this; omega
  obtain ⟨sr0, sr1⟩ : 0 ≤ sumN l' ∧ sumN l' ≤ 17179869184 := by have := sumN_bound Hg'.out l'.length (Nat.le_refl _); rw [List.take_length] at this; omega
  obtain ⟨ol0, ol1⟩ : 0 ≤ holdsN l ∧ holdsN l ≤ 8 := by have := holdsN_bound l l.length; rw [List.take_length] at this; omega
  obtain ⟨or0, or1⟩ : 0 ≤ holdsN l' ∧ holdsN l' ≤ 8 := by have := holdsN_bound l' l'.length; rw [List.take_length] at this; omega
  have dS : (sumN j == sumN l + sumN l') = true := by rw [Hjl.out, sumN_app]; simp
  have dH : (holdsN j == holdsN l + holdsN l') = true := by rw [Hjl.out, holdsN_app]; simp
  rw [el] at hown5
  obtain ⟨A5, c5, hu5⟩ := own_val hown5
  subst hu5
  have hp5 : Pg w5 w5.heap.size A5 j := Pg_own hown5 rfl
  clear hown5 el
  go_wp2_with fail
  refine (Good_any A5 j c5 w5.heap.size true Hj.out _ (Nat.le_refl _) (by omega) hp5).mono ?_
  rintro e w6 ⟨rfl, hb6⟩
  have hs6 := hs5.step hb6
  have ht6 : Since w5 w6 := hb6
  go_wp2_with fail
  refine (Total_good A5 j c5 w5.heap.size _ Hj.out ht6.below.size (hp5.below ht6)).mono ?_
  rintro e w7 ⟨rfl, hb7⟩
  have hs7 := hs6.step hb7
  have ht7 := ht6.step hb7
  go_wp2_with fail
  refine (Total_good _ l c w.heap.size _ Hg.out hs7.below.size (hp.below hs7)).mono ?_
  rintro e w8 ⟨rfl, hb8⟩
  have hs8 := hs7.step hb8
  have ht8 := ht7.step hb8
  go_wp2_with fail
  refine (Total_good _ l' c' w.heap.size _ Hg'.out hs8.below.size (hp'.below hs8)).mono ?_
  rintro e w9 ⟨rfl, hb9⟩
  have hs9 := hs8.step hb9
  have ht9 := ht8.step hb9
  go_wp2_with fail
  refine (Holds_good A5 j c5 w5.heap.size _ Hj.out ht9.below.size (hp5.below ht9)).mono ?_
  rintro e w10 ⟨rfl, hb10⟩
  have hs10 := hs9.step hb10
  have ht10 := ht9.step hb10
  go_wp2_with fail
  refine (Holds_good _ l c w.heap.size _ Hg.out hs10.below.size (hp.below hs10)).mono ?_
  rintro e w11 ⟨rfl, hb11⟩
  have hs11 := hs10.step hb11
  have ht11 := ht10.step hb11
  go_wp2_with fail
  refine (Holds_good _ l' c' w.heap.size _ Hg'.out hs11.below.size (hp'.below hs11)).mono ?_
  rintro e w12 ⟨rfl, hb12⟩
  have hs12 := hs11.step hb12
  have ht12 := ht11.step hb12
  go_wp2_with fail
  refine (Text_from w5 A5 j c5 w5.heap.size _ (by omega) ht12.below.size (hp5.below ht12) (Ht.out.below hs5) ht12).mono ?_
  rintro e w13 ⟨rfl, hb13, ht13⟩
  have hs13 := hs12.step hb13
  go_wp2_with fail
  refine (Text_from w _ l c w.heap.size _ (by omega) hs13.below.size (hp.below hs13) Ht.out hs13).mono ?_
  rintro e w14 ⟨rfl, hb14, hs14⟩
  have tl : (textG l).length ≤ 176 := textG_len Hg.out
  have tr : (textG l').length ≤ 176 := textG_len Hg'.out
  go_wp2_with fail
  refine (Text_from w _ l' c' w.heap.size _ (by omega) hs14.below.size (hp'.below hs14) Ht.out hs14).mono ?_
  rintro e w15 ⟨rfl, hb15, hs15⟩
  go_wp2
  go_ret
  refine ⟨ret_bool ?_, hs15⟩
  have et := textG_app Hg.out Hg'.out h8
  rw [← Hjl.out] at et
  simp [et, ByteArray.toList_eq]
set_option maxRecDepth 100000 in
set_option maxHeartbeats 1000000 in
theorem joins_off (A A' : Option Addr) (l l' : List (Int × Int)) (c c' : Nat) (w : World) (hl : l.length ≤ 4611686018427387904) (hl' : l'.length ≤ 4611686018427387904)
    (h : good l = false ∨ good l = true ∧ good l' = false ∨ good l = true ∧ good l' = true ∧ 8 < l.length + l'.length)
    (hp : Pg w w.heap.size A l) (hp' : Pg w w.heap.size A' l') (ht : HT w) :
    Calls Tryd.prog 5 #[.slice A l.length c, .slice A' l'.length c'] w fun e w' => e = .returned (.bool true) ∧ Below w.heap.size w w' := by
  have Ht := Lib.hid ht
  clear ht
  rcases h with hg | ⟨hg, hg'⟩ | ⟨hg, hg', h8⟩
  · have Hg := Lib.hid hg
    clear hg
    go_enter Tryd.func5, Tryd.ntmps5
    go_wp2_with fail
    refine (awake_any _ Ht.out).mono ?_
    rintro e w1 ⟨rfl, hb1⟩
    have hs1 : Since w w1 := hb1
    go_wp2_with fail
    refine (Good_any _ l c w.heap.size false Hg.out _ hs1.below.size hl (hp.below hs1)).mono ?_
    rintro e w2 ⟨rfl, hb2⟩
    have hs2 := hs1.step hb2
    go_wp2
    go_ret
    exact ⟨rfl, hs2⟩
  · have Hg := Lib.hid hg
    have Hg' := Lib.hid hg'
    clear hg hg'
    go_enter Tryd.func5, Tryd.ntmps5
    go_wp2_with fail
    refine (awake_any _ Ht.out).mono ?_
    rintro e w1 ⟨rfl, hb1⟩
    have hs1 : Since w w1 := hb1
    go_wp2_with fail
    refine (Good_any _ l c w.heap.size true Hg.out _ hs1.below.size hl (hp.below hs1)).mono ?_
    rintro e w2 ⟨rfl, hb2⟩
    have hs2 := hs1.step hb2
    go_wp2_with fail
    refine (Good_any _ l' c' w.heap.size false Hg'.out _ hs2.below.size hl' (hp'.below hs2)).mono ?_
    rintro e w3 ⟨rfl, hb3⟩
    have hs3 := hs2.step hb3
    go_wp2
    go_ret
    exact ⟨rfl, hs3⟩
  · obtain ⟨hl1, hl8, _⟩ := good_parts hg
    obtain ⟨hl1', hl8', _⟩ := good_parts hg'
    have Hg := Lib.hid hg
    have Hg' := Lib.hid hg'
    have d1 : decide (8 < (l.length : Int) + (l'.length : Int)) = true := by simp; omega
    clear hg hg'
    go_enter Tryd.func5, Tryd.ntmps5
    go_wp2_with fail
    refine (awake_any _ Ht.out).mono ?_
    rintro e w1 ⟨rfl, hb1⟩
    have hs1 : Since w w1 := hb1
    go_wp2_with fail
    refine (Good_any _ l c w.heap.size true Hg.out _ hs1.below.size hl (hp.below hs1)).mono ?_
    rintro e w2 ⟨rfl, hb2⟩
    have hs2 := hs1.step hb2
    go_wp2_with fail
    refine (Good_any _ l' c' w.heap.size true Hg'.out _ hs2.below.size hl' (hp'.below hs2)).mono ?_
    rintro e w3 ⟨rfl, hb3⟩
    have hs3 := hs2.step hb3
    go_wp2
    go_ret
    exact ⟨rfl, hs3⟩
theorem joins_any (A A' : Option Addr) (l l' : List (Int × Int)) (c c' : Nat) (w : World) (hl : l.length ≤ 4611686018427387904) (hl' : l'.length ≤ 4611686018427387904)
    (hp : Pg w w.heap.size A l) (hp' : Pg w w.heap.size A' l') (ht : HT w) :
    Calls Tryd.prog 5 #[.slice A l.length c, .slice A' l'.length c'] w fun e w' => e = .returned (.bool true) ∧ Below w.heap.size w w' := by
  cases hg : good l with
  | false => exact joins_off A A' l l' c c' w hl hl' (.inl hg) hp hp' ht
  | true =>
    cases hg' : good l' with
    | false => exact joins_off A A' l l' c c' w hl hl' (.inr (.inl ⟨hg, hg'⟩)) hp hp' ht
    | true =>
      by_cases h8 : 8 < l.length + l'.length
      · exact joins_off A A' l l' c c' w hl hl' (.inr (.inr ⟨hg, hg', h8⟩)) hp hp' ht
      · exact joins_on A A' l l' c c' w hg hg' (by omega) hp hp' ht
end Go.Proofs.YtnlmpkcninhnfaaDoor
