/-
  prog.Fits; the document's Num and ProgText.
-/
import Derived.Test.YtnlmpkcninhnfaaDoorP8
import Derived.Deep.RegionHeld3
import Derived.Deep.RegionWith
import Derived.Laws.IdiomStrings
namespace Go.Proofs.YtnlmpkcninhnfaaDoor
open Go.RowKit

theorem itoa_small {n : Int} (h0 : 0 ≤ n) (h : n < 10) : Lib.itoa n = [UInt8.ofNat (48 + n.toNat)] := by
  rw [itoa_dec h0, Lib.decDigits_one (by omega)]
theorem itoa_big {n : Int} (h : 10 ≤ n) : Lib.itoa n = Lib.itoa (n / 10) ++ [UInt8.ofNat (48 + (n % 10).toNat)] := by
  rw [itoa_dec (by omega), itoa_dec (by omega), Lib.decDigits, dif_neg (by omega)]
  rw [show (n / 10).toNat = n.toNat / 10 by omega, show (n % 10).toNat = n.toNat % 10 by omega]

theorem ret_str {a b : ByteArray} (h : a = b) : Ending.returned (.string a) = .returned (.string b) := by rw [h]
theorem bytes_snoc (a : List UInt8) (x : UInt8) : (⟨a.toArray⟩ ++ ⟨#[x]⟩ : ByteArray) = ⟨(a ++ [x]).toArray⟩ := by
  apply ByteArray.ext
  simp
theorem conv_one {z : Int} (h0 : 0 ≤ z) (h1 : z ≤ 255) (v : World) (g : Nat) (hc : v.cell? ⟨g, 0, none⟩ = some (.int .u8 z)) :
    (convert 70 9 (.slice (some ⟨g, 0, none⟩) 1 1)).run Tryd.prog v = .ok (.string ⟨#[UInt8.ofNat z.toNat]⟩) v :=
  run_convert_bytes_back (P := Tryd.prog) v 70 9 5 ⟨g, 0, none⟩ 1 [UInt8.ofNat z.toNat] Tryd.underlying70 Tryd.underlying5 Tryd.underlying9 fun j hj => by
    obtain rfl : j = 0 := by simpa using hj
    rw [show (⟨g, 0, none⟩ : Addr).add 0 = ⟨g, 0, none⟩ by simp [Addr.add], hc]
    simp
    omega
set_option maxRecDepth 100000 in
theorem Num_small (n : Int) (w : World) (h0 : 0 ≤ n) (h1 : n < 10) :
    Calls Tryd.prog 31 #[.int .i64 n] w fun e w' => e = .returned (.string ⟨(Lib.itoa n).toArray⟩) ∧ Below w.heap.size w w' := by
  rw [itoa_small h0 h1]
  have d1 : decide (n < 10) = true := by simp [h1]
  have hconv := conv_one (z := 48 + n) (by omega) (by omega) (w.alloc (.cells #[.int .u8 (48 + n)] 5)) w.heap.size (Blk.new w 5 #[.int .u8 (48 + n)] |>.cell 0)
  go_enter Tryd.func31, Tryd.ntmps31
  go_wp2_with fail
  go_ret
  exact ⟨ret_str (by rw [show (48 + n).toNat = 48 + n.toNat by omega]), (Below.refl _ _).alloc (Nat.le_refl _) _⟩
theorem num_facts {n : Int} (h0 : 10 ≤ n) (h1 : n ≤ 2147483648) : IntKind.i64.wrap (n.tdiv 10) = n / 10 ∧ IntKind.u8.wrap (IntKind.i64.wrap (48 + n.tmod 10)) = 48 + n % 10 := by
  have e1 : n.tdiv 10 = n / 10 := Int.tdiv_eq_ediv_of_nonneg (by omega)
  have e2 : n.tmod 10 = n % 10 := Int.tmod_eq_emod_of_nonneg (by omega)
  rw [e1, e2]
  constructor
  · rw [IntKind.wrap_i64]; omega
  · rw [IntKind.wrap_i64, IntKind.wrap_u8]; omega
set_option maxRecDepth 100000 in
set_option maxHeartbeats 1000000 in
theorem Num_step (n : Int) (w : World) (h0 : 10 ≤ n) (h1 : n ≤ 2147483648) (ih : ∀ v : World, Calls Tryd.prog 31 #[.int .i64 (n / 10)] v fun e w' => e = .returned (.string ⟨(Lib.itoa (n / 10)).toArray⟩) ∧ Below v.heap.size v w') :
    Calls Tryd.prog 31 #[.int .i64 n] w fun e w' => e = .returned (.string ⟨(Lib.itoa n).toArray⟩) ∧ Below w.heap.size w w' := by
  have d1 : decide (n < 10) = false := by simp; omega
  obtain ⟨e1, e2⟩ := num_facts h0 h1
  have hlen : (Lib.itoa (n / 10)).length ≤ 10 := itoa_len (by omega) (by omega)
  rw [← e1] at ih hlen
  have z0 : 0 ≤ IntKind.u8.wrap (IntKind.i64.wrap (48 + n.tmod 10)) := by omega
  have z1 : IntKind.u8.wrap (IntKind.i64.wrap (48 + n.tmod 10)) ≤ 255 := by omega
  have hfin := itoa_big h0
  rw [show (48 + (n % 10).toNat) = (48 + n % 10).toNat by omega] at hfin
  have Hb := Lib.hid hfin
  rw [← e1, ← e2] at hfin
  have Hfin := Lib.hid hfin
  clear e1 e2 hfin
  have hcv : ∀ (v : World), _ := fun v => conv_one z0 z1 (v.alloc (.cells #[.int .u8 (IntKind.u8.wrap (IntKind.i64.wrap (48 + n.tmod 10)))] 5)) v.heap.size (Blk.new v 5 #[.int .u8 (IntKind.u8.wrap (IntKind.i64.wrap (48 + n.tmod 10)))] |>.cell 0)
  have hk0 : (w.alloc (.cells #[.int .u8 (IntKind.u8.wrap (IntKind.i64.wrap (48 + n.tmod 10)))] 5)).drew.cell? ⟨w.heap.size, 0, none⟩ = some (.int .u8 (IntKind.u8.wrap (IntKind.i64.wrap (48 + n.tmod 10)))) := Blk.new w 5 #[.int .u8 (IntKind.u8.wrap (IntKind.i64.wrap (48 + n.tmod 10)))] |>.cell 0
  have hcv0 := conv_one z0 z1 _ _ hk0
  have Hk0 := Lib.hid hk0
  clear hk0
  have Hcv := Lib.hid hcv
  have Ih := Lib.hid ih
  clear ih hcv
  have HD := Lib.hid (show Below w.heap.size w w.drew from (Below.refl _ _).drew)
  have HA := Lib.hid (show Below w.heap.size w (w.alloc (.cells #[.int .u8 (IntKind.u8.wrap (IntKind.i64.wrap (48 + n.tmod 10)))] 5)).drew from ((Below.refl _ _).alloc (Nat.le_refl _) _).drew)
  have Z := Lib.hid (And.intro z0 z1)
  clear z0 z1
  go_enter Tryd.func31, Tryd.ntmps31
  go_wp2_with fail
  go_region_with (go_at_call 31; refine (Ih.out _).mono ?_; rintro e w1 ⟨rfl, hb1⟩; have hcv1 := Hcv.out w1; try (have hcv2 := conv_one Z.out.1 Z.out.2 w1 w.heap.size (cell_kept Hk0.out hb1)))
  all_goals
    go_wp2
    go_ret
    refine ⟨ret_str ?_, ?_⟩
    · first
        | (rw [Hb.out]; exact bytes_snoc _ _)
        | (rw [Hfin.out]; exact bytes_snoc _ _)
    · first
        | exact HA.out.trans (hb1.mono HA.out.size)
        | exact (HD.out.trans (hb1.mono HD.out.size)).alloc (HD.out.trans (hb1.mono HD.out.size)).size _
theorem Num_any : ∀ (k : Nat) (n : Int), n.toNat ≤ k → 0 ≤ n → n ≤ 2147483648 → ∀ w : World,
    Calls Tryd.prog 31 #[.int .i64 n] w fun e w' => e = .returned (.string ⟨(Lib.itoa n).toArray⟩) ∧ Below w.heap.size w w'
  | k, n, hk, h0, h1, w => by
    by_cases h : n < 10
    · exact Num_small n w h0 h
    · match k, hk with
      | 0, hk => omega
      | k + 1, hk => exact Num_step n w (by omega) h1 fun v => Num_any k (n / 10) (by omega) (by omega) (by omega) v

/-! ### ProgText -/
theorem textL_snoc {l : List (Int × Int)} {i : Nat} {x : Int × Int} (h : l[i]? = some x) (hi : 0 < i) : textL (l.take (i + 1)) = textL (l.take i) ++ 43 :: stepB x := by
  have hlt : i < l.length := (List.getElem?_eq_some_iff.1 h).1
  rw [List.take_add_one, h, Option.toList_some, textL_app _ _ (fun e => by have h2 : (l.take i).length = i := List.length_take_of_le (by omega); rw [e] at h2; simp at h2; omega) (by simp)]
  simp [textL, Lib.join_one]
theorem textL_first {l : List (Int × Int)} {x : Int × Int} (h : l[0]? = some x) : textL (l.take 1) = stepB x := by
  cases l with
  | nil => simp at h
  | cons y r =>
    obtain rfl : y = x := by simpa using h
    simp [textL, Lib.join_one]
theorem textL_take_len {l : List (Int × Int)} (hg : good l = true) (i : Nat) : (textL (l.take i)).length ≤ 176 := by
  have h := text_len (l.take i) fun x hx => good_mem hg (List.mem_of_mem_take hx)
  have h8 := (good_parts hg).2.1
  have := List.length_take_le i l
  have := List.length_take_le' i l
  omega
set_option maxRecDepth 100000 in
theorem RText_bad (A : Option Addr) (l : List (Int × Int)) (c B : Nat) (w : World) (hg : good l = false) (hl : l.length ≤ 100000) (hB : B ≤ w.heap.size) (hp : Pg w B A l) :
    Calls Tryd.prog 19 #[.slice A l.length c] w fun e w' => e = .returned (.string ⟨#[]⟩) ∧ Below w.heap.size w w' := by
  have Hg := Lib.hid hg
  clear hg
  go_enter Tryd.func19, Tryd.ntmps19
  go_wp2_with fail
  go_loopg [3, 4] 1 (fun k s3 s4 wr => s3 = .string ⟨#[]⟩ ∧ s4 = .int .i64 0 ∧ Below w.heap.size w wr)
  case atStart => exact ⟨rfl, rfl, Below.refl _ _⟩
  case round =>
    obtain ⟨rfl, rfl, hbel⟩ := hrel
    by_cases h0 : 0 < l.length
    · go_wp2_with fail
      refine (GoodProg_any A l c B false Hg.out _ hl (Nat.le_trans hB hbel.size) (hp.below (hbel.mono hB))).mono ?_
      rintro e w1 ⟨rfl, hb1⟩
      go_wp2
      go_ret
      exact ⟨rfl, hbel.trans (hb1.mono hbel.size)⟩
    · go_wp2
      go_ret
      exact ⟨rfl, hbel⟩
theorem val_str {a b : ByteArray} (h : a = b) : Value.string a = .string b := by rw [h]
theorem txt_pos (a : List UInt8) (s t : Int) (h : 0 < s) : (⟨a.toArray⟩ ++ ⟨#[43]⟩ ++ ⟨(Lib.itoa t).toArray⟩ ++ ⟨#[64]⟩ ++ ⟨(Lib.itoa s).toArray⟩ : ByteArray) = ⟨(a ++ 43 :: stepB (s, t)).toArray⟩ := by
  apply ByteArray.ext
  simp [stepB, h]
theorem txt_zero (a : List UInt8) (s t : Int) (h : s ≤ 0) : (⟨a.toArray⟩ ++ ⟨#[43]⟩ ++ ⟨(Lib.itoa t).toArray⟩ : ByteArray) = ⟨(a ++ 43 :: stepB (s, t)).toArray⟩ := by
  apply ByteArray.ext
  simp [stepB, Int.not_lt.2 h]
theorem txt_pos0 (s t : Int) (h : 0 < s) : (⟨(Lib.itoa t).toArray⟩ ++ ⟨#[64]⟩ ++ ⟨(Lib.itoa s).toArray⟩ : ByteArray) = ⟨(stepB (s, t)).toArray⟩ := by
  apply ByteArray.ext
  simp [stepB, h]
theorem txt_zero0 (s t : Int) (h : s ≤ 0) : (⟨(Lib.itoa t).toArray⟩ : ByteArray) = ⟨(stepB (s, t)).toArray⟩ := by
  apply ByteArray.ext
  simp [stepB, Int.not_lt.2 h]
def RTxRel (l : List (Int × Int)) (w : World) (k : Nat) (s3 s4 : Value) (wr : World) : Prop :=
  ∃ i : Nat, k = l.length - i ∧ i ≤ l.length ∧ s4 = .int .i64 i ∧ s3 = .string ⟨(textL (l.take i)).toArray⟩ ∧ Below w.heap.size w wr
theorem Pg.cells {w : World} {B : Nat} {ad : Addr} {l : List (Int × Int)} {i : Nat} {s t : Int} (h : Pg w B (some ad) l) (hx : l[i]? = some (s, t)) :
    w.cell? (ad.add (i * 2)) = some (.int .i64 s) ∧ w.cell? ⟨(ad.add (i * 2)).block, (ad.add (i * 2)).off + 1, none⟩ = some (.int .i64 t) := by
  obtain ⟨ad', s', t', e, _, hx', h1, h2⟩ := h.at_ (List.getElem?_eq_some_iff.1 hx).1
  obtain rfl := Option.some.inj e
  obtain ⟨rfl, rfl⟩ : s' = s ∧ t' = t := by have := hx.symm.trans hx'; simpa [eq_comm] using this
  exact ⟨h1, h2⟩
set_option maxRecDepth 100000 in
set_option maxHeartbeats 1000000 in
theorem RText_good (A : Option Addr) (l : List (Int × Int)) (c B : Nat) (w : World) (hg : good l = true) (hB : B ≤ w.heap.size) (hp : Pg w B A l) :
    Calls Tryd.prog 19 #[.slice A l.length c] w fun e w' => e = .returned (.string ⟨(textL l).toArray⟩) ∧ Below w.heap.size w w' := by
  obtain ⟨hl1, hl8, hall⟩ := good_parts hg
  have hlen := textL_take_len hg
  have Hlen := Lib.hid hlen
  have Hall := Lib.hid hall
  have Hg := Lib.hid hg
  clear hall hg hlen
  go_enter Tryd.func19, Tryd.ntmps19
  go_wp2_with fail
  go_loopg [3, 4] l.length (fun k s3 s4 wr => RTxRel l w k s3 s4 wr)
  case atStart => exact ⟨0, rfl, Nat.zero_le _, rfl, by simp [textL, Lib.join], Below.refl _ _⟩
  case round =>
    obtain ⟨i, hk, hil, rfl, rfl, hbel⟩ := hrel
    have Hk := Lib.hid hk
    clear hk
    by_cases hlt : i < l.length
    · have hpw := hp.below (hbel.mono hB)
      have hBw : B ≤ wr.heap.size := Nat.le_trans hB hbel.size
      obtain ⟨ad, s, t, rfl, hadb, hx, -, -⟩ := hpw.at_ hlt
      obtain ⟨hs0, hs8, ht1, htm⟩ := Hall.out i _ hx
      have Hx := Lib.hid hx
      clear hx
      have hlenI := Hlen.out i
      have hitl : (Lib.itoa t).length ≤ 10 := itoa_len (by omega) (by omega)
      have hisl : (Lib.itoa s).length ≤ 10 := itoa_len (by omega) (by omega)
      by_cases hi0 : 0 < i
      · have di : decide (0 < (i : Int)) = true := by simp; omega
        go_wp2_with fail
        refine (GoodProg_any _ l c B true Hg.out _ (by omega) hBw hpw).mono ?_
        rintro e w1 ⟨rfl, hb1⟩
        have hbel1 : Below w.heap.size w w1 := hbel.trans (hb1.mono hbel.size)
        obtain ⟨hc1, hc2⟩ := (hp.below (hbel1.mono hB)).cells Hx.out
        go_wp2_with fail
        refine (Num_any _ t (Nat.le_refl _) (by omega) (by omega) _).mono ?_
        rintro e w2 ⟨rfl, hb2⟩
        have hbel2 : Below w.heap.size w w2 := hbel1.trans (hb2.mono hbel1.size)
        clear hc1 hc2
        obtain ⟨hc1, hc2⟩ := (hp.below (hbel2.mono hB)).cells Hx.out
        by_cases h0 : 0 < s
        · have d0 : decide (0 < s) = true := by simpa using h0
          go_wp2_with fail
          refine (Num_any _ s (Nat.le_refl _) (by omega) (by omega) _).mono ?_
          rintro e w3 ⟨rfl, hb3⟩
          have hbel3 : Below w.heap.size w w3 := hbel2.trans (hb3.mono hbel2.size)
          go_wp2
          go_roundg (l.length - (i + 1))
          case measure => rw [Hk.out]; omega
          case rel =>
            refine ⟨i + 1, rfl, hlt, by go_num, ?_, hbel3⟩
            rw [textL_snoc Hx.out hi0]
            exact val_str (txt_pos _ _ _ h0)
        · have d0 : decide (0 < s) = false := by simpa using h0
          go_wp2
          go_roundg (l.length - (i + 1))
          case measure => rw [Hk.out]; omega
          case rel =>
            refine ⟨i + 1, rfl, hlt, by go_num, ?_, hbel2⟩
            rw [textL_snoc Hx.out hi0]
            exact val_str (txt_zero _ _ _ (by omega))
      · have I0 := Lib.hid (show i = 0 by omega)
        have di : decide (0 < (i : Int)) = false := by simp; omega
        go_wp2_with fail
        refine (GoodProg_any _ l c B true Hg.out _ (by omega) hBw hpw).mono ?_
        rintro e w1 ⟨rfl, hb1⟩
        have hbel1 : Below w.heap.size w w1 := hbel.trans (hb1.mono hbel.size)
        obtain ⟨hc1, hc2⟩ := (hp.below (hbel1.mono hB)).cells Hx.out
        go_wp2_with fail
        refine (Num_any _ t (Nat.le_refl _) (by omega) (by omega) _).mono ?_
        rintro e w2 ⟨rfl, hb2⟩
        have hbel2 : Below w.heap.size w w2 := hbel1.trans (hb2.mono hbel1.size)
        clear hc1 hc2
        obtain ⟨hc1, hc2⟩ := (hp.below (hbel2.mono hB)).cells Hx.out
        by_cases h0 : 0 < s
        · have d0 : decide (0 < s) = true := by simpa using h0
          go_wp2_with fail
          refine (Num_any _ s (Nat.le_refl _) (by omega) (by omega) _).mono ?_
          rintro e w3 ⟨rfl, hb3⟩
          have hbel3 : Below w.heap.size w w3 := hbel2.trans (hb3.mono hbel2.size)
          go_wp2
          go_roundg (l.length - (i + 1))
          case measure => rw [Hk.out]; omega
          case rel =>
            refine ⟨i + 1, rfl, hlt, by go_num, ?_, hbel3⟩
            obtain rfl := I0.out
            rw [textL_first Hx.out]
            exact val_str (txt_pos0 _ _ h0)
        · have d0 : decide (0 < s) = false := by simpa using h0
          go_wp2
          go_roundg (l.length - (i + 1))
          case measure => rw [Hk.out]; omega
          case rel =>
            refine ⟨i + 1, rfl, hlt, by go_num, ?_, hbel2⟩
            obtain rfl := I0.out
            rw [textL_first Hx.out]
            exact val_str (txt_zero0 _ _ (by omega))
    · have hile : i = l.length := by omega
      go_wp2
      go_ret
      exact ⟨ret_str (by rw [hile, List.take_of_length_le (Nat.le_refl _)]), hbel⟩
end Go.Proofs.YtnlmpkcninhnfaaDoor
