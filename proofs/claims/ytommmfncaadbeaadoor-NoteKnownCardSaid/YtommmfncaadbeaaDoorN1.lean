/-
  note's words and Text, as contracts.
-/
import Derived.Test.YtommmfncaadbeaaDoorWd
import Derived.Test.YtommmfncaadbeaaDoorM
import Derived.Test.YtommmfncaadbeaaDoorShelf
import Derived.Lib.AppendIntMem
import Derived.OwnWalk
import Derived.Deep.RegionWith
import Derived.Deep.DrawnRows
import Derived.WalkSpells
namespace Go.Proofs.YtommmfncaadbeaaDoor
open Go.RowKit
attribute [local go_sem ↓] Go.wp_at_zero Go.wp_at_succ

/-- the tables and variables of the library that the walks read -/
structure HT (w : World) : Prop where
  tab : Lib.TabIs Tryd.prog w "internal/strconv.uint64pow10" .u64 Lib.pow10Tab
  most : ∃ m, w.cell? ⟨3, 0, none⟩ = some (.int .i64 m)
  bad : ∃ t p, w.cell? ⟨1, 0, none⟩ = some (.iface t p)
  far : ∃ t p, w.cell? ⟨2, 0, none⟩ = some (.iface t p)

theorem Tryd.gtab : Tryd.prog.globalNamed "internal/strconv.uint64pow10" = some 0 := by kernel_rfl
theorem tabIs_below {n : String} {g : Nat} {k : IntKind} {zs : List Int} {w w' : World} (hg : Tryd.prog.globalNamed n = some g) (h : Lib.TabIs Tryd.prog w n k zs) (hb : Below w.heap.size w w') : Lib.TabIs Tryd.prog w' n k zs := by
  unfold Lib.TabIs World.var? at h ⊢
  rw [hg] at h ⊢
  simp only [Option.bind_some] at h ⊢
  have hlt : g < w.heap.size := by
    rcases Nat.lt_or_ge g w.heap.size with h' | h'
    · exact h'
    · rw [Array.getElem?_eq_none h'] at h; cases h
  rw [hb.block g hlt]
  exact h
theorem cell_kept {w w' : World} {b o : Nat} {v : Value} (hc : w.cell? ⟨b, o, none⟩ = some v) (hb : Below w.heap.size w w') : w'.cell? ⟨b, o, none⟩ = some v := below_cell hb (cell_lt hc) hc
theorem HT.below {w w' : World} (h : HT w) (hb : Below w.heap.size w w') : HT w' :=
  ⟨tabIs_below Tryd.gtab h.tab hb, h.most.imp fun _ k => cell_kept k hb, h.bad.imp fun _ k => k.imp fun _ k => cell_kept k hb, h.far.imp fun _ k => k.imp fun _ k => cell_kept k hb⟩

theorem Format_any (n : Int) (w : World) (h0 : 0 ≤ n) (h1 : n ≤ 9223372036854775807) (ht : HT w) :
    Calls Tryd.prog 18 #[.int .i64 n, .int .i64 10] w fun e w' => e = .returned (.string ⟨(Lib.itoa n).toArray⟩) ∧ Below w.heap.size w w' :=
  (Tryd.strconv_FormatInt_10 n (by omega) h1 w ht.tab).mono fun _ _ ⟨h, k, os, hw⟩ => ⟨h, by subst hw; exact Lib.below_grow _ _ (Nat.le_refl _) _ _⟩
theorem Itoa_any (n : Int) (w : World) (h0 : 0 ≤ n) (h1 : n ≤ 9223372036854775807) (ht : HT w) :
    Calls Tryd.prog 19 #[.int .i64 n] w fun e w' => e = .returned (.string ⟨(Lib.itoa n).toArray⟩) ∧ Below w.heap.size w w' :=
  (Tryd.strconv_Itoa n (by omega) h1 w ht.tab).mono fun _ _ ⟨h, k, os, hw⟩ => ⟨h, by subst hw; exact Lib.below_grow _ _ (Nat.le_refl _) _ _⟩
def str (l : List UInt8) : Value := .string ⟨l.toArray⟩
def wordsC : Array Value := #[.string ⟨#[]⟩, .string ⟨#[114, 101, 108, 101, 97, 115, 101, 32]⟩, .string ⟨#[100, 111, 110, 101, 32]⟩, .string ⟨#[97, 98, 111, 114, 116, 32]⟩, .string ⟨#[119, 97, 105, 116]⟩, .string ⟨#[116, 117, 114, 110]⟩, .string ⟨#[103, 114, 97, 110, 116, 32]⟩, .string ⟨#[100, 101, 97, 100]⟩, .string ⟨#[103, 97, 116, 101, 32]⟩, .string ⟨#[119, 97, 107, 101]⟩, .string ⟨#[105, 100, 108, 101]⟩]
theorem wordsC_eq : wordsC = (wordsB.map str).toArray := rfl
theorem words_any (w : World) : Calls Tryd.prog 16 #[] w fun e w' => e = .returned (.slice (some ⟨w.heap.size, 0, none⟩) 11 11) ∧ w.alloc (.cells wordsC 9) = w' := by
  go_enter Tryd.func16, Tryd.ntmps16
  go_wp2
  go_ret
  exact ⟨rfl, rfl⟩
theorem wordsC_get (k : Nat) (hk : k ≤ 10) : wordsC[k]? = some (.string ⟨(wordsB.getD k []).toArray⟩) := by
  have : k = 0 ∨ k = 1 ∨ k = 2 ∨ k = 3 ∨ k = 4 ∨ k = 5 ∨ k = 6 ∨ k = 7 ∨ k = 8 ∨ k = 9 ∨ k = 10 := by omega
  rcases this with rfl | rfl | rfl | rfl | rfl | rfl | rfl | rfl | rfl | rfl | rfl <;> rfl
theorem Cut_any (l : List UInt8) (w : World) (hs : l.length ≤ 1000000) (a : List UInt8) (b : Bool) (ha : Lib.trimSuffix l [32] = a) (hb : Lib.hasSuffix l [32] = b) :
    Calls Tryd.prog 17 #[.string ⟨l.toArray⟩, .string ⟨#[32]⟩] w fun e w' => e = .returned (.tuple #[.string ⟨a.toArray⟩, .bool b]) ∧ w = w' := by
  refine (Tryd.strings_CutSuffix ⟨l.toArray⟩ ⟨#[32]⟩ w (by show l.toArray.size ≤ _; simp; omega)).mono fun e w' ⟨h1, h2⟩ => ⟨?_, h2.symm⟩
  rw [h1, ← ha, ← hb]
theorem Text_bad (e : Ev) (w : World) (h : e.valid = false) : Calls Tryd.prog 6 #[.agg #[.int .i64 e.at_, .int .i64 e.kind, .int .i64 e.who, .int .i64 e.n]] w fun r w' => r = .returned (.string ⟨#[]⟩) ∧ Below w.heap.size w w' := by
  have hb : Below w.heap.size w ((w.alloc (.cells #[.int .i64 e.at_, .int .i64 e.kind, .int .i64 e.who, .int .i64 e.n] 23)).alloc (.cells wordsC 9)) := ((Below.refl _ _).alloc (Nat.le_refl _) _).alloc (by simp) _
  by_cases h1 : e.kind < 1
  · have d1 : decide (e.kind < 1) = true := by simpa using h1
    go_enter Tryd.func6, Tryd.ntmps6
    go_wp2_with (go_at_call 16; refine (words_any _).mono ?_; rintro r w' ⟨rfl, rfl⟩)
    go_ret
    exact ⟨rfl, hb⟩
  have d1 : decide (e.kind < 1) = false := by simpa using h1
  by_cases h2 : 11 ≤ e.kind
  · have d2 : decide (11 ≤ e.kind) = true := by simpa using h2
    go_enter Tryd.func6, Tryd.ntmps6
    go_wp2_with (go_at_call 16; refine (words_any _).mono ?_; rintro r w' ⟨rfl, rfl⟩)
    go_ret
    exact ⟨rfl, hb⟩
  have d2 : decide (11 ≤ e.kind) = false := by simpa using h2
  by_cases h3 : e.at_ < 0
  · have d3 : decide (e.at_ < 0) = true := by simpa using h3
    go_enter Tryd.func6, Tryd.ntmps6
    go_wp2_with (go_at_call 16; refine (words_any _).mono ?_; rintro r w' ⟨rfl, rfl⟩)
    go_ret
    exact ⟨rfl, hb⟩
  have d3 : decide (e.at_ < 0) = false := by simpa using h3
  by_cases h4 : e.who < 0
  · have d4 : decide (e.who < 0) = true := by simpa using h4
    go_enter Tryd.func6, Tryd.ntmps6
    go_wp2_with (go_at_call 16; refine (words_any _).mono ?_; rintro r w' ⟨rfl, rfl⟩)
    go_ret
    exact ⟨rfl, hb⟩
  have d4 : decide (e.who < 0) = false := by simpa using h4
  have d5 : decide (e.n < 0) = true := by
    have : ¬ e.valid = true := by rw [h]; simp
    rw [Ev.valid_iff] at this
    simp
    omega
  clear h1 h2 h3 h4
  go_enter Tryd.func6, Tryd.ntmps6
  go_wp2_with (go_at_call 16; refine (words_any _).mono ?_; rintro r w' ⟨rfl, rfl⟩)
  go_ret
  exact ⟨rfl, hb⟩
end Go.Proofs.YtommmfncaadbeaaDoor
