/-
  A law's row, closed: where the call returns true and nothing that was there when it began has turned, its post holds.
-/
import Derived.Test.YtommmfncaadbeaaDoorRows
import Derived.WalkKit
import Derived.ProofKit
import Derived.OpenShut
import Derived.ChangeSame
import Derived.ChangeVars
import Derived.RowKit
import Derived.Carry
import Derived.SliceStrings
import Derived.ChangeMaps5
import Derived.Test.YtommmfncaadbeaaDoorWd
namespace Go.Proofs.YtommmfncaadbeaaDoor
open Go.ChangeShapes Go.WideShapes Go.RowKit

theorem trodAll_below {H : Type} {enc : TypeId × Value → H} {P : Program} (hl : laidOutB P = true) {W W' : World} (hb : Below W.heap.size W W') :
    ∀ (ts : List TypeId) (vs : List Value) (ds : List (DataW H)) (ps : List MemPlace), (ts.all fun t => P.readableRec t && decide (t < P.types.size)) = true →
      DataW.TrodAll enc P W 0 (fun _ => true) true ts vs ds ps → (∀ x ∈ ps, x.block < W.heap.size) → DataW.TrodAll enc P W' 0 (fun b => decide (b < W.heap.size)) true ts vs ds ps
  | [], vs, ds, ps, _, h, _ => by
    obtain ⟨rfl, rfl, rfl⟩ := trodAll_nil h
    exact trodAll_mk0
  | t :: ts, vs, ds, ps, hr, h, hlt => by
    obtain ⟨v, vs', d, ds', p, q, rfl, rfl, rfl, h1, h2⟩ := trodAll_cons h
    rw [List.all_cons, Bool.and_eq_true, Bool.and_eq_true, decide_eq_true_eq] at hr
    exact trodAll_cons_mk (Below.trod hl hr.1.1 hr.1.2 h1 hb fun x hx => hlt x (List.mem_append_left _ hx)) (trodAll_below hl hb ts vs' ds' q hr.2 h2 fun x hx => hlt x (List.mem_append_right _ hx))

theorem post_true {H : Type} {enc : TypeId × Value → H} {P : Program} {f : Func} {s : ChangeSpec} {W W' : World} {args : Array Value} {ds gs : List (DataW H)} {before : List MemPlace} {tb : TypeId}
    (hW : DataW.Whole enc P f.params.toList s.vars false W args.toList ds gs before) (hvars : s.vars = []) (hres : f.resultTypes.toList = [tb]) (hbool : P.underlying tb = some .bool)
    (hspec : (s.fn H (ds ++ gs)).results = [.lit (.bool true)] ∧ (s.fn H (ds ++ gs)).args = ds ∧ (s.fn H (ds ++ gs)).vars = [])
    (hl : laidOutB P = true) (hr : (f.params.toList.all fun t => P.readableRec t && decide (t < P.types.size)) = true) (hb : Below W.heap.size W W') :
    s.post enc P f false true false false W args (.bool true) W' := by
  have hlt := hW.lt
  have hW' := hW
  obtain ⟨p, q, hA, hV, rfl, _, _⟩ := hW
  rw [hvars] at hV
  obtain ⟨rfl, rfl⟩ := trodVars_none hV
  have hsz : f.resultTypes.size = 1 := by have := congrArg List.length hres; simpa using this
  refine ⟨ds, [], p ++ [], [], p, [], hW', ?_, ?_, ?_, hb.frame _, fun h => by cases h⟩
  · rw [hspec.1, hres, hsz]
    exact trodAll_mk1 (shut_bool hbool true)
  · rw [hspec.2.1]
    exact trodAll_below hl hb _ _ _ _ hr hA fun x hx => hlt x (List.mem_append_left _ hx)
  · rw [hspec.2.2, hvars]
    rfl

/-- a slice of strings that came in: what it reads as -/
theorem open_strs {H : Type} {enc : TypeId × Value → H} {P : Program} {W : World} {t e : TypeId} {v : Value} {d : DataW H} {ps : List MemPlace} {r : Reach} {b0 : Nat}
    (ht : P.underlying t = some (.slice e)) (he : P.underlying e = some .string) (hc : P.cellsOf e = 1)
    (hval : Value.okWide P W r b0 t v) (hd : DataW.Trod enc P W 0 (fun _ => true) true t v d ps) :
    ∃ A n cap ss, v = .slice A n cap ∧ Reads W W.heap.size 1 A n (List.map Value.string ss) ∧ n ≤ cap ∧ cap ≤ maxLen := by
  obtain ⟨A, n, cap, rfl⟩ := okWide_slice ht hval
  obtain ⟨fuel, hf⟩ := hd
  refine ⟨A, n, cap, ?_⟩
  rcases open_strings ht he hc hf with ⟨hcs, hx⟩ | ⟨a, len, cap', zs, hcs, _, hl, hm, hz, hx, hcell, _⟩
  · have h1 : Value.slice A n cap = .slice none 0 0 := by simpa [Value.cells] using hcs
    injection h1 with h1 h2 h3
    subst h1; subst h2; subst h3
    exact ⟨[], rfl, Reads.none_, Nat.le_refl _, by unfold maxLen; omega⟩
  · have h1 : Value.slice A n cap = .slice (some a) len cap' := by simpa [Value.cells] using hcs
    injection h1 with h1 h2 h3
    subst h1; subst h2; subst h3
    simp only [if_true] at hz
    refine ⟨zs.take n, rfl, ⟨by simp; omega, fun hn => ⟨a, rfl, ?_, ?_⟩⟩, hl, hm⟩
    · have h0 := World.block_lt_of_cell? W _ (hcell 0 (by omega))
      rwa [block_of_add] at h0
    · intro j u hu
      rw [List.getElem?_map, List.getElem?_take] at hu
      split at hu
      · obtain ⟨x, h1, h2⟩ := Option.map_eq_some_iff.1 hu
        subst h2
        obtain ⟨hj, rfl⟩ := List.getElem?_eq_some_iff.1 h1
        rw [hcell j hj, List.getD_eq_getElem?_getD, List.getElem?_eq_getElem hj]
        rfl
      · cases hu
end Go.Proofs.YtommmfncaadbeaaDoor
