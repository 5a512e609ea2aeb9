/-
  Events that came in, opened to cells.
-/
import Derived.Test.YthjdogeobfcedaaRow
import Derived.Test.YthjdogeobfcedaaS6
import Derived.Deep.Slices
import Derived.Deep.Fields
import Derived.Deep.OwnShut
import Derived.Deep.SlicePairs
import Derived.ChangeSame
import Derived.ProofKit
namespace Go.Proofs.Ythjdogeobfcedaa
open Go.ChangeShapes Go.WideShapes Go.Deep Go.RowKit

section
variable {H : Type} {enc : TypeId × Value → H} {P : Program} {w : World} {base : Nat} {spare : Nat → Bool} {held : Bool}
theorem open_slice_fields {t e : TypeId} {fs : Array Field} {fuel : Nat} {cs : List Value} {x : DataW H × List MemPlace} (ht : P.underlying t = some (.slice e)) (he : P.underlying e = some (.struct fs))
    (hone : oneCellFields P fs = true) (hC : P.cellsOf e = fs.size) (h : DataW.trod enc P w base spare held fuel t cs = some x) :
    (cs = [.slice none 0 0] ∧ x = (.nil, [])) ∨
    ∃ (a : Addr) (len cap m : Nat) (D : Nat → DataW H) (Pl : Nat → List MemPlace), cs = [.slice (some a) len cap] ∧ base ≤ a.block ∧ len ≤ cap ∧ cap ≤ maxLen ∧ m = (if spare a.block then cap else len) ∧
      x = (.slice ((List.range len).map D) ((List.range (m - len)).map fun j => D (len + j)), MemPlace.row a (m * fs.size) ++ (List.range m).flatMap Pl) ∧
      ∀ i, i < m → ∃ (ys : List (DataW H × List MemPlace)) (n : Nat), D i = .agg (ys.map (·.1)) ∧ Pl i = ys.flatMap (·.2) ∧ ys.length = fs.size ∧
        ∀ (j : Nat) (f : Field), fs[j]? = some f → ∃ (v : Value) (y : DataW H × List MemPlace), w.cell? (a.add (i * fs.size + j)) = some v ∧ ys[j]? = some y ∧ DataW.trod enc P w base spare held n f.type [v] = some y := by
  rcases open_slice ht h with h0 | ⟨a, len, cap, m, n, D, Pl, hcs, hb, hl, hm, hmm, hx, hi⟩
  · exact .inl h0
  · refine .inr ⟨a, len, cap, m, D, Pl, hcs, hb, hl, hm, hmm, by rw [hC] at hx; exact hx, fun i him => ?_⟩
    obtain ⟨cs', hc, ht'⟩ := hi i him
    rw [hC] at hc
    obtain ⟨ys, n', hn', hy, hlen, hyl, hf⟩ := DataW.trod_struct he ht'
    obtain ⟨_, hcl, hat⟩ := World.cells?_some hc
    simp only [Prod.mk.injEq] at hy
    refine ⟨ys, n', hy.1, hy.2, hyl, fun j f hj => ?_⟩
    obtain ⟨ho, hk⟩ := hone_of hone j f hj
    have hjl : j < fs.size := (Array.getElem?_eq_some_iff.1 hj).1
    have hcell := hat j hjl
    have hv : cs'[j]? = some (cs'[j]'(by omega)) := List.getElem?_eq_getElem (by omega)
    have h1 := hf j f hj
    rw [ho, hk] at h1
    have hone' : (cs'.drop j).take 1 = [cs'[j]'(by omega)] := by
      rw [List.drop_eq_getElem_cons (by omega)]
      rfl
    rw [hone'] at h1
    have hys : ys[j]? = some (ys[j]'(by omega)) := List.getElem?_eq_getElem (by omega)
    refine ⟨_, _, ?_, hys, h1.trans hys⟩
    rw [← Go.Deep.add_add, hcell, hv]
end

theorem own : ownKnob Try.prog.godebug = none := by kernel_rfl
set_option maxRecDepth 100000 in
theorem open_events {H : Type} {enc : TypeId × Value → H} {W : World} {v : Value} {d : DataW H} {ps : List MemPlace} {r : Reach} {b0 : Nat}
    (hval : Value.okWide Try.prog W r b0 22 v) (hd : DataW.Trod enc Try.prog W 0 (fun _ => true) true 22 v d ps) :
    ∃ A l cap, v = .slice A l.length cap ∧ Evs W W.heap.size A l ∧ (∀ e ∈ l, e.Ok) ∧ l.length ≤ cap ∧ cap ≤ maxLen := by
  obtain ⟨A, n, cap, rfl⟩ := okWide_slice Try.underlying22 hval
  obtain ⟨fuel, hf⟩ := hd
  rcases open_slice_fields Try.underlying22 Try.underlying35 (by kernel_rfl) (by kernel_rfl) hf with ⟨hcs, _⟩ | ⟨a, len, cap', m, D, Pl, hcs, _, hl, hm, hmm, hd, hall⟩
  · have h1 : Value.slice A n cap = .slice none 0 0 := by simpa [Value.cells] using hcs
    injection h1 with h1 h2 h3
    subst h1; subst h2; subst h3
    exact ⟨none, [], 0, rfl, ⟨rfl, fun h => absurd h (by simp)⟩, by simp, by simp, by unfold maxLen; omega⟩
  · have h1 : Value.slice A n cap = .slice (some a) len cap' := by simpa [Value.cells] using hcs
    injection h1 with h1 h2 h3
    subst h1; subst h2; subst h3
    simp only [if_true] at hmm
    subst hmm
    have each : ∀ i, i < n → ∃ e : Ev, e.Ok ∧ W.cell? (a.add (i * 4)) = some (.int .i64 e.at_) ∧ W.cell? (a.add (i * 4 + 1)) = some (.int .i64 e.kind) ∧ W.cell? (a.add (i * 4 + 2)) = some (.int .i64 e.who) ∧ W.cell? (a.add (i * 4 + 3)) = some (.int .i64 e.n) := by
      intro i hi
      obtain ⟨ys, k, _, _, _, hfs⟩ := hall i (by omega)
      obtain ⟨v0, y0, c0, _, t0⟩ := hfs 0 _ rfl
      obtain ⟨v1, y1, c1, _, t1⟩ := hfs 1 _ rfl
      obtain ⟨v2, y2, c2, _, t2⟩ := hfs 2 _ rfl
      obtain ⟨v3, y3, c3, _, t3⟩ := hfs 3 _ rfl
      obtain ⟨x0, e0, _, w0⟩ := DataW.trod_int Try.underlying2 t0
      obtain ⟨x1, e1, _, w1⟩ := DataW.trod_int Try.underlying3 t1
      obtain ⟨x2, e2, _, w2⟩ := DataW.trod_int Try.underlying3 t2
      obtain ⟨x3, e3, _, w3⟩ := DataW.trod_int Try.underlying2 t3
      simp only [List.cons.injEq, and_true] at e0 e1 e2 e3
      exact ⟨⟨x0, x1, x2, x3⟩, ⟨w0, w1, w2, w3⟩, by rw [← e0]; exact c0, by rw [← e1]; exact c1, by rw [← e2]; exact c2, by rw [← e3]; exact c3⟩
    haveI : Inhabited Ev := ⟨⟨0, 0, 0, 0⟩⟩
    obtain ⟨q, hq⟩ := Go.Deep.choose_lt each
    refine ⟨some a, (List.range n).map q, m, by simp, ⟨by rw [flatE_length], fun hn => ⟨a, rfl, ?_, ?_⟩⟩, ?_, by simpa using hl, hm⟩
    · have hn' : 0 < n := by simpa using hn
      have := World.block_lt_of_cell? W _ (hq 0 hn').2.1
      rwa [block_of_add] at this
    · intro j u hu
      have hj : j < n * 4 := by
        have := (List.getElem?_eq_some_iff.1 hu).1
        rw [flatE_length] at this
        simpa using this
      have hk : j / 4 < n := by omega
      have g := flatE_get ((List.range n).map q) (j / 4) (q (j / 4)) (by simp [hk])
      obtain ⟨_, g0, g1, g2, g3⟩ := hq _ hk
      have e4 : j % 4 = 0 ∨ j % 4 = 1 ∨ j % 4 = 2 ∨ j % 4 = 3 := by omega
      rcases e4 with e | e | e | e
      · have ej : j = j / 4 * 4 := by omega
        rw [ej] at hu ⊢
        rw [g.1] at hu
        rw [g0, hu]
      · have ej : j = j / 4 * 4 + 1 := by omega
        rw [ej] at hu ⊢
        rw [g.2.1] at hu
        rw [g1, hu]
      · have ej : j = j / 4 * 4 + 2 := by omega
        rw [ej] at hu ⊢
        rw [g.2.2.1] at hu
        rw [g2, hu]
      · have ej : j = j / 4 * 4 + 3 := by omega
        rw [ej] at hu ⊢
        rw [g.2.2.2] at hu
        rw [g3, hu]
    · intro e he
      obtain ⟨i, hi, rfl⟩ := List.mem_map.1 he
      exact (hq i (by simpa using hi)).1
end Go.Proofs.Ythjdogeobfcedaa
