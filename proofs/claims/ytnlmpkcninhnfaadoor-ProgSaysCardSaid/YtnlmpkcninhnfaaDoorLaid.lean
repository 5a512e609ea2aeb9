/-
  What the row's list and the world's shape give a walk (HT); a world that meets the list; a program that came in.
-/
import Derived.Test.YtnlmpkcninhnfaaDoorRows
import Derived.Test.YtnlmpkcninhnfaaDoorP5
import Derived.Test.YtnlmpkcninhnfaaDoorRow
import Derived.ProofKit
import Derived.Lay
import Derived.Shelf.Vars
import Derived.Deep.DeepWitnessRowRef
import Derived.Deep.SlicePairs
import Derived.Stop.LaidErr
import Derived.Stop.Joined
import Derived.Lib.LaidTab
import Derived.Lib.LaidU8
import Derived.MakeChecks
import Derived.SizedLaws
namespace Go.Proofs.YtnlmpkcninhnfaaDoor
open Go.ChangeShapes Go.WideShapes Go.RowKit

theorem own : ownKnob Tryd.prog.godebug = none := by kernel_rfl
abbrev laidAllList : List (String × DataW Unit) := Rows.progBackRow.laid

theorem iface_cell {W : World} {n nm : String} {d : DataW Unit} {g ti : Nat} {ms : Array (String × TypeId)} (h : Lib.VarReads Tryd.prog W n (.iface nm d))
    (hg : Tryd.prog.globalNamed n = some g) (ht : (Tryd.prog.globals[g]?).map (·.type) = some ti) (hi : Tryd.prog.underlying ti = some (.interface ms)) : ∃ t p, W.cell? ⟨g, 0, none⟩ = some (.iface t p) := by
  obtain ⟨g0, t0, cs0, f0, p0, hg0, ht0, hv0, hd0⟩ := h
  obtain rfl := Option.some.inj (hg.symm.trans hg0)
  obtain rfl := Option.some.inj (ht.symm.trans ht0)
  obtain ⟨f1, u, v, hcs, _, _⟩ := iface_of_trod hi hd0
  refine ⟨u, v, ?_⟩
  have := World.var?_cell hg hv0 0
  obtain ⟨l0⟩ := cs0
  simp only at hcs
  subst hcs
  simpa using this

set_option maxRecDepth 100000 in
theorem handle_of_laid {W : World} (h : laidMetH Tryd.prog laidAllList W) (hsh : W.ShapedOpen Tryd.prog) : HT W := by
  rw [MakeChecks.laidMetH_plain _ _ _ (by kernel_rfl)] at h
  refine ⟨?_, ?_, ?_, ?_⟩
  · have h2 := laidMet.tail (laidMet.tail h)
    have e : Rows.laid_internal_strconv_uint64pow10 = (Lib.tabData .u64 Lib.pow10Tab : DataW Unit) := by kernel_rfl
    rw [e] at h2
    exact Lib.tabIs_of_head Tryd.gtab (t := 103) (e := 78) (n := 20) (by kernel_rfl) (by kernel_rfl) (by kernel_rfl) (by kernel_rfl) (by kernel_rfl) h2
  · exact Go.Proofs.cell_of_shapedOpen_int (g := 0) (t := 3) (zero := #[.int .i64 0]) hsh (of_decide_eq_true (by kernel_rfl)) (by kernel_rfl) rfl (by kernel_rfl) (by kernel_rfl) Tryd.underlying3
  · exact iface_cell (g := 1) (ti := 56) (Lib.laidMet.reads h (n := "strconv.ErrSyntax") (by simp [laidAllList, Rows.progBackRow]; rfl)) (by kernel_rfl) (by kernel_rfl) Tryd.underlying56
  · exact iface_cell (g := 2) (ti := 56) (Lib.laidMet.reads h (n := "strconv.ErrRange") (by simp [laidAllList, Rows.progBackRow]; rfl)) (by kernel_rfl) (by kernel_rfl) Tryd.underlying56

noncomputable def laidWorld (os : Os) : World := World.laidAll Tryd.prog os laidAllList
theorem laidWorld_met (os : Os) (args : Array Value) : laidMetH Tryd.prog laidAllList ((laidWorld os).forCall (fun _ _ => 0) ⟨#[], args, []⟩).memory := by
  rw [MakeChecks.laidMetH_plain _ _ _ (by kernel_rfl)]
  exact laidMet_laidAll _ (by kernel_rfl) (by kernel_rfl)

-- a program that came in
set_option maxRecDepth 100000 in
theorem open_steps0 {H : Type} {enc : TypeId × Value → H} {W : World} {v : Value} {d : DataW H} {ps : List MemPlace} {r : Reach} {b0 : Nat}
    (hval : Value.okWide Tryd.prog W r b0 22 v) (hd : DataW.Trod enc Tryd.prog W 0 (fun _ => true) true 22 v d ps) :
    ∃ A l cap, v = .slice A l.length cap ∧ Pg W W.heap.size A l ∧ (l.length ≤ 0 ∨ ∃ es sp, d = .slice es sp ∧ es.length = l.length) := by
  obtain ⟨A, n, cap, rfl⟩ := okWide_slice Tryd.underlying22 hval
  obtain ⟨fuel, hf⟩ := hd
  rcases Go.Deep.open_slice_pairs Tryd.underlying22 Tryd.underlying48 (by kernel_rfl) (by kernel_rfl) (by kernel_rfl) (by kernel_rfl) (by kernel_rfl) hf with ⟨hcs, _⟩ | ⟨a, len, cap', m, k, V0, V1, D0, D1, P0, P1, hcs, _, hl, hm, hmm, hd, hall⟩
  · have h1 : Value.slice A n cap = .slice none 0 0 := by simpa [Value.cells] using hcs
    injection h1 with h1 h2 h3
    subst h1; subst h2; subst h3
    exact ⟨none, [], 0, rfl, ⟨rfl, fun h => absurd h (by simp)⟩, .inl (by simp)⟩
  · have h1 : Value.slice A n cap = .slice (some a) len cap' := by simpa [Value.cells] using hcs
    injection h1 with h1 h2 h3
    subst h1; subst h2; subst h3
    simp only [if_true] at hmm
    subst hmm
    have each : ∀ i, i < n → ∃ z : Int × Int, W.cell? (a.add (i * 2)) = some (.int .i64 z.1) ∧ W.cell? (a.add (i * 2 + 1)) = some (.int .i64 z.2) := by
      intro i hi
      obtain ⟨c0, c1, t0, t1⟩ := hall i (by omega)
      obtain ⟨x, e0, _⟩ := DataW.trod_int Tryd.underlying3 t0
      obtain ⟨y, e1, _⟩ := DataW.trod_int Tryd.underlying2 t1
      simp only [List.cons.injEq, and_true] at e0 e1
      exact ⟨(x, y), by rw [c0, e0], by rw [c1, e1]⟩
    obtain ⟨q, hq⟩ := Go.Deep.choose_lt each
    simp only [Prod.mk.injEq] at hd
    refine ⟨some a, (List.range n).map q, m, by simp, ⟨by rw [flat_length], fun hn => ⟨a, rfl, ?_, ?_⟩⟩, .inr ⟨_, _, hd.1, by simp⟩⟩
    · have hn' : 0 < n := by simpa using hn
      have := World.block_lt_of_cell? W _ (hq 0 hn').1
      rwa [block_of_add] at this
    · intro j u hu
      have hj : j < n * 2 := by
        have := (List.getElem?_eq_some_iff.1 hu).1
        rw [flat_length] at this
        simpa using this
      have hk : j / 2 < n := by omega
      have g := flat_get ((List.range n).map q) (j / 2) (q (j / 2)) (by simp [hk])
      rcases Nat.mod_two_eq_zero_or_one j with e | e
      · have ej : j = j / 2 * 2 := by omega
        rw [ej] at hu ⊢
        rw [g.1] at hu
        rw [(hq _ hk).1, hu]
      · have ej : j = j / 2 * 2 + 1 := by omega
        rw [ej] at hu ⊢
        rw [g.2] at hu
        rw [(hq _ hk).2, hu]
theorem short_of {H : Type} {ts : List TypeId} {ds : List (DataW H)} {j n : Nat} {d : DataW H} (h : (DataW.weightsEach Tryd.prog ts ds).all (· ≤ reachBytes) = true) (ht : ts[j]? = some 22) (hd : ds[j]? = some d)
    (hn : n ≤ 0 ∨ ∃ es sp, d = .slice es sp ∧ es.length = n) : n ≤ 8796093022207 := by
  rcases hn with h0 | ⟨es, sp, rfl, rfl⟩
  · omega
  · have := sized_slice h ht hd Tryd.underlying22
    have hb : Tryd.prog.bytesOf 48 = 16 := by kernel_rfl
    rw [hb] at this
    unfold reachBytes at this
    omega
end Go.Proofs.YtnlmpkcninhnfaaDoor
