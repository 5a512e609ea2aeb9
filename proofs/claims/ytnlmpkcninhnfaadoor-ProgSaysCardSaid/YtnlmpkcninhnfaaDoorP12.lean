/-
  ProgSays, walked.
-/
import Derived.Test.YtnlmpkcninhnfaaDoorP11
namespace Go.Proofs.YtnlmpkcninhnfaaDoor
open Go.RowKit

theorem RTotal_any (A : Option Addr) (l : List (Int × Int)) (c B : Nat) (w : World) (hl : l.length ≤ 100000) (hB : B ≤ w.heap.size) (hp : Pg w B A l) :
    Calls Tryd.prog 17 #[.slice A l.length c] w fun e w' => e = .returned (.int .i64 (if good l then sumN l else 0)) ∧ Below w.heap.size w w' := by
  cases hg : good l
  · exact RTotal_bad A l c B w hg hl hB hp
  · exact RTotal_good A l c B w hg hB hp
theorem RHolds_any (A : Option Addr) (l : List (Int × Int)) (c B : Nat) (w : World) (hl : l.length ≤ 100000) (hB : B ≤ w.heap.size) (hp : Pg w B A l) :
    Calls Tryd.prog 18 #[.slice A l.length c] w fun e w' => e = .returned (.int .i64 (if good l then holdsN l else 0)) ∧ Below w.heap.size w w' := by
  cases hg : good l
  · exact RHolds_bad A l c B w hg hl hB hp
  · exact RHolds_good A l c B w hg hB hp
theorem RText_any (A : Option Addr) (l : List (Int × Int)) (c B : Nat) (w : World) (hl : l.length ≤ 100000) (hB : B ≤ w.heap.size) (hp : Pg w B A l) :
    Calls Tryd.prog 19 #[.slice A l.length c] w fun e w' => e = .returned (.string ⟨(textG l).toArray⟩) ∧ Below w.heap.size w w' := by
  cases hg : good l
  · rw [textG, if_neg (by simp [hg])]
    exact RText_bad A l c B w hg hl hB hp
  · rw [textG, if_pos hg]
    exact RText_good A l c B w hg hB hp
def ParsesAs (q : Option (List (Int × Int))) (w : World) (e : Ending) (w' : World) : Prop :=
  Below w.heap.size w w' ∧ ∃ A n c l b, e = .returned (.tuple #[.slice A n c, .bool b]) ∧ n = l.length ∧ Pg w' w'.heap.size A l ∧ l.length ≤ 9 ∧ b = q.isSome ∧ l = q.getD []
theorem Pg_nil (w : World) (B : Nat) : Pg w B none [] := ⟨rfl, fun h => absurd h (by simp)⟩
theorem parses {s : ByteArray} {w : World} {e : Ending} {w' : World} (h : ParsePost s.data.toList w e w') : ParsesAs (parseG s.data.toList) w e w' := by
  obtain ⟨hb, hm⟩ := h
  refine ⟨hb, ?_⟩
  cases hq : parseG s.data.toList with
  | none =>
    rw [hq] at hm
    exact ⟨none, 0, 0, [], false, hm, rfl, Pg_nil _ _, by simp, rfl, rfl⟩
  | some p =>
    rw [hq] at hm
    obtain ⟨A, c, he, hp, hl⟩ := hm
    exact ⟨A, _, c, p, true, he, rfl, hp, hl, rfl, rfl⟩
theorem rparses {s : ByteArray} {w : World} {e : Ending} {w' : World} (h : RParsePost s.data.toList w e w') : ParsesAs (parseG s.data.toList) w e w' := by
  obtain ⟨hb, hm⟩ := h
  rw [refParse_eq] at hm
  refine ⟨hb, ?_⟩
  cases hq : parseG s.data.toList with
  | none =>
    rw [hq] at hm
    exact ⟨none, 0, 0, [], false, hm, rfl, Pg_nil _ _, by simp, rfl, rfl⟩
  | some p =>
    rw [hq] at hm
    obtain ⟨A, c, he, hp, hl⟩ := hm
    exact ⟨A, _, c, p, true, he, rfl, hp, hl, rfl, rfl⟩
theorem Total_V (A : Option Addr) (l : List (Int × Int)) (c B : Nat) (T : Int) (hT : (if good l then sumN l else 0) = T) (w : World) (hl : l.length ≤ 4611686018427387904) (hB : B ≤ w.heap.size) (hp : Pg w B A l) :
    Calls Tryd.prog 13 #[.slice A l.length c] w fun e w' => e = .returned (.int .i64 T) ∧ Below w.heap.size w w' := by
  subst hT
  exact Total_any A l c B w hl hB hp
theorem Holds_V (A : Option Addr) (l : List (Int × Int)) (c B : Nat) (T : Int) (hT : (if good l then holdsN l else 0) = T) (w : World) (hl : l.length ≤ 4611686018427387904) (hB : B ≤ w.heap.size) (hp : Pg w B A l) :
    Calls Tryd.prog 14 #[.slice A l.length c] w fun e w' => e = .returned (.int .i64 T) ∧ Below w.heap.size w w' := by
  subst hT
  exact Holds_any A l c B w hl hB hp
theorem RTotal_V (A : Option Addr) (l : List (Int × Int)) (c B : Nat) (T : Int) (hT : (if good l then sumN l else 0) = T) (w : World) (hl : l.length ≤ 100000) (hB : B ≤ w.heap.size) (hp : Pg w B A l) :
    Calls Tryd.prog 17 #[.slice A l.length c] w fun e w' => e = .returned (.int .i64 T) ∧ Below w.heap.size w w' := by
  subst hT
  exact RTotal_any A l c B w hl hB hp
theorem RHolds_V (A : Option Addr) (l : List (Int × Int)) (c B : Nat) (T : Int) (hT : (if good l then holdsN l else 0) = T) (w : World) (hl : l.length ≤ 100000) (hB : B ≤ w.heap.size) (hp : Pg w B A l) :
    Calls Tryd.prog 18 #[.slice A l.length c] w fun e w' => e = .returned (.int .i64 T) ∧ Below w.heap.size w w' := by
  subst hT
  exact RHolds_any A l c B w hl hB hp
theorem same_V {n n' : Nat} (A A' : Option Addr) (l l' : List (Int × Int)) (hn : n = l.length) (hn' : n' = l'.length) (c c' B B' : Nat) (b : Bool) (hb : decide (l = l') = b) (w : World) (hl : l.length ≤ 100000) (hp : Pg w B A l) (hp' : Pg w B' A' l') :
    Calls Tryd.prog 11 #[.slice A n c, .slice A' n' c'] w fun e w' => e = .returned (.bool b) ∧ Below w.heap.size w w' := by
  subst hn
  subst hn'
  exact same_any A A' l l' c c' B B' b hb w hl hp hp'
set_option maxRecDepth 100000 in
theorem says_off (A S : Option Addr) (l : List (Int × Int)) (s : ByteArray) (c n cs : Nat) (w : World) (h : 20 < l.length ∨ l.length ≤ 20 ∧ 200 < s.size ∨ l.length ≤ 20 ∧ s.size ≤ 200 ∧ 20 < n) (ht : HT w) :
    Calls Tryd.prog 6 #[.slice A l.length c, .string s, .slice S n cs] w fun e w' => e = .returned (.bool true) ∧ Below w.heap.size w w' := by
  have Ht := Lib.hid ht
  clear ht
  rcases h with h | ⟨h, h'⟩ | ⟨h, h', h''⟩
  · have d1 : decide (20 < (l.length : Int)) = true := by simp; omega
    go_enter Tryd.func6, Tryd.ntmps6
    go_wp2_with fail
    refine (awake_any _ Ht.out).mono ?_
    rintro e w1 ⟨rfl, hb1⟩
    go_wp2
    go_ret
    exact ⟨rfl, hb1⟩
  · have d1 : decide (20 < (l.length : Int)) = false := by simp; omega
    have d2 : decide (200 < (s.size : Int)) = true := by simp; omega
    go_enter Tryd.func6, Tryd.ntmps6
    go_wp2_with fail
    refine (awake_any _ Ht.out).mono ?_
    rintro e w1 ⟨rfl, hb1⟩
    go_wp2
    go_ret
    exact ⟨rfl, hb1⟩
  · have d1 : decide (20 < (l.length : Int)) = false := by simp; omega
    have d2 : decide (200 < (s.size : Int)) = false := by simp; omega
    have d3 : decide (20 < (n : Int)) = true := by simp; omega
    go_enter Tryd.func6, Tryd.ntmps6
    go_wp2_with fail
    refine (awake_any _ Ht.out).mono ?_
    rintro e w1 ⟨rfl, hb1⟩
    go_wp2
    go_ret
    exact ⟨rfl, hb1⟩
set_option maxRecDepth 100000 in
set_option maxHeartbeats 4000000 in
theorem says_on (A S : Option Addr) (l : List (Int × Int)) (s : ByteArray) (c n cs : Nat) (w : World) (hl : l.length ≤ 20) (hs : s.size ≤ 200) (hn : n ≤ 20) (hp : Pg w w.heap.size A l) (ht : HT w) :
    Calls Tryd.prog 6 #[.slice A l.length c, .string s, .slice S n cs] w fun e w' => e = .returned (.bool true) ∧ Below w.heap.size w w' := by
  have Ht := Lib.hid ht
  clear ht
  have d1 : decide (20 < (l.length : Int)) = false := by simp; omega
  have d2 : decide (200 < (s.size : Int)) = false := by simp; omega
  have d3 : decide (20 < (n : Int)) = false := by simp; omega
  go_enter Tryd.func6, Tryd.ntmps6
  go_wp2_with fail
  refine (awake_any _ Ht.out).mono ?_
  rintro e w1 ⟨rfl, hb1⟩
  have hs1 : Since w w1 := hb1
  go_wp2_with fail
  refine (own_any A l c w.heap.size _ (by omega) hs1.below.size (hp.below hs1)).mono ?_
  rintro e w2 ⟨r2, rfl, ho2, hb2⟩
  obtain ⟨A2, c2, hu2⟩ := own_val ho2
  subst hu2
  have hs2 := hs1.step hb2
  have Hp2 := Lib.hid (Pg_own ho2 rfl)
  clear ho2
  go_wp2_with fail
  refine (Parse_any s _ (by omega) (Ht.out.below hs2)).mono ?_
  intro e w3 h3
  obtain ⟨hb3, A3, n3, c3, l3, b3, rfl, hn3, hp3, hl3, hbs3, hls3⟩ := parses h3
  clear h3
  have hs3 := hs2.step hb3
  have ht3 : Since w2 w3 := hb3
  have Hn3 := Lib.hid hn3
  have Hp3 := Lib.hid hp3
  have Hb3 := Lib.hid hbs3
  have Hl3 := Lib.hid hls3
  clear hn3 hp3 hbs3 hls3
  go_wp2_with fail
  refine (RParse_any s _ (by omega)).mono ?_
  intro e w4 h4
  obtain ⟨hb4, A4, n4, c4, l4, b4, rfl, hn4, hp4, hl4, hbs4, hls4⟩ := rparses h4
  clear h4
  have hs4 := hs3.step hb4
  have ht4 := ht3.step hb4
  have hu4 : Since w3 w4 := hb4
  have Hn4 := Lib.hid hn4
  have Hp4 := Lib.hid hp4
  rw [← Hb3.out] at hbs4
  rw [← Hl3.out] at hls4
  subst hbs4
  subst hls4
  clear hn4 hp4
  obtain ⟨G, hG⟩ : ∃ G, good l = G := ⟨_, rfl⟩
  obtain ⟨T, hT⟩ : ∃ T, (if good l then sumN l else 0) = T := ⟨_, rfl⟩
  obtain ⟨O, hO⟩ : ∃ O, (if good l then holdsN l else 0) = O := ⟨_, rfl⟩
  obtain ⟨F, hF⟩ : ∃ F, fits l n = F := ⟨_, rfl⟩
  have HG := Lib.hid hG
  have HT' := Lib.hid hT
  have HO := Lib.hid hO
  have HF := Lib.hid hF
  clear hG hT hO hF
  go_wp2_with fail
  refine (Good_any A l c w.heap.size G HG.out _ hs4.below.size (by omega) (hp.below hs4)).mono ?_
  rintro e w5 ⟨rfl, hb5⟩
  have hs5 := hs4.step hb5
  have ht5 := ht4.step hb5
  have hu5 := hu4.step hb5
  have hv5 : Since w4 w5 := hb5
  go_wp2_with fail
  refine (GoodProg_any A2 l c2 w2.heap.size G HG.out _ (by omega) ht5.below.size (Hp2.out.below ht5)).mono ?_
  rintro e w6 ⟨rfl, hb6⟩
  have hs6 := hs5.step hb6
  have ht6 := ht5.step hb6
  have hu6 := hu5.step hb6
  have hv6 := hv5.step hb6
  go_wp2_with fail
  refine (Total_V A l c w.heap.size T HT'.out _ (by omega) hs6.below.size (hp.below hs6)).mono ?_
  rintro e w7 ⟨rfl, hb7⟩
  have hs7 := hs6.step hb7
  have ht7 := ht6.step hb7
  have hu7 := hu6.step hb7
  have hv7 := hv6.step hb7
  go_wp2_with fail
  refine (RTotal_V A2 l c2 w2.heap.size T HT'.out _ (by omega) ht7.below.size (Hp2.out.below ht7)).mono ?_
  rintro e w8 ⟨rfl, hb8⟩
  have hs8 := hs7.step hb8
  have ht8 := ht7.step hb8
  have hu8 := hu7.step hb8
  have hv8 := hv7.step hb8
  go_wp2_with fail
  refine (Holds_V A l c w.heap.size O HO.out _ (by omega) hs8.below.size (hp.below hs8)).mono ?_
  rintro e w9 ⟨rfl, hb9⟩
  have hs9 := hs8.step hb9
  have ht9 := ht8.step hb9
  have hu9 := hu8.step hb9
  have hv9 := hv8.step hb9
  go_wp2_with fail
  refine (RHolds_V A2 l c2 w2.heap.size O HO.out _ (by omega) ht9.below.size (Hp2.out.below ht9)).mono ?_
  rintro e w10 ⟨rfl, hb10⟩
  have hs10 := hs9.step hb10
  have ht10 := ht9.step hb10
  have hu10 := hu9.step hb10
  have hv10 := hv9.step hb10
  go_wp2_with fail
  refine (Text_from w A l c w.heap.size _ (by omega) hs10.below.size (hp.below hs10) Ht.out hs10).mono ?_
  rintro e w11 ⟨rfl, hb11, hs11⟩
  have ht11 := ht10.step hb11
  have hu11 := hu10.step hb11
  have hv11 := hv10.step hb11
  go_wp2_with fail
  refine (RText_any A2 l c2 w2.heap.size _ (by omega) ht11.below.size (Hp2.out.below ht11)).mono ?_
  rintro e w12 ⟨rfl, hb12⟩
  have hs12 := hs11.step hb12
  have ht12 := ht11.step hb12
  have hu12 := hu11.step hb12
  have hv12 := hv11.step hb12
  go_wp2_with fail
  refine (same_V A3 A4 l4 l4 Hn3.out Hn4.out _ _ _ _ true (by simp) _ (by omega) (Hp3.out.below hu12) (Hp4.out.below hv12)).mono ?_
  rintro e w13 ⟨rfl, hb13⟩
  have hs13 := hs12.step hb13
  have ht13 := ht12.step hb13
  go_wp2_with fail
  refine (Fits_any A S l c n cs w.heap.size F HF.out _ hs13.below.size (by omega) (hp.below hs13)).mono ?_
  rintro e w14 ⟨rfl, hb14⟩
  have hs14 := hs13.step hb14
  have ht14 := ht13.step hb14
  go_wp2_with fail
  refine (ProgFits_any n A2 l c2 w2.heap.size F HF.out _ (by omega) ht14.below.size (Hp2.out.below ht14)).mono ?_
  rintro e w15 ⟨rfl, hb15⟩
  have hs15 := hs14.step hb15
  go_wp2
  go_ret
  exact ⟨rfl, hs15⟩
theorem says_any (A S : Option Addr) (l : List (Int × Int)) (s : ByteArray) (c n cs : Nat) (w : World) (hp : Pg w w.heap.size A l) (ht : HT w) :
    Calls Tryd.prog 6 #[.slice A l.length c, .string s, .slice S n cs] w fun e w' => e = .returned (.bool true) ∧ Below w.heap.size w w' := by
  by_cases h : l.length ≤ 20 ∧ s.size ≤ 200 ∧ n ≤ 20
  · exact says_on A S l s c n cs w h.1 h.2.1 h.2.2 hp ht
  · exact says_off A S l s c n cs w (by omega) ht
end Go.Proofs.YtnlmpkcninhnfaaDoor
