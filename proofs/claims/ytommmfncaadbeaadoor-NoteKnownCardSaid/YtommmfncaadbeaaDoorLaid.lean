/-
  What the row's list and the world's shape give a walk (HT); a world that meets the list; an Event that came in.
-/
import Derived.Test.YtommmfncaadbeaaDoorRows
import Derived.Test.YtommmfncaadbeaaDoorN7
import Derived.Test.YtommmfncaadbeaaDoorRow
import Derived.ProofKit
import Derived.Lay
import Derived.Shelf.Vars
import Derived.Deep.DeepWitnessRowRef
import Derived.Lib.SmallJoins
import Derived.Stop.LaidErr
import Derived.Stop.Joined
import Derived.Lib.LaidTab
import Derived.Lib.LaidU8
import Derived.MakeChecks
import Derived.SizedLaws
namespace Go.Proofs.YtommmfncaadbeaaDoor
open Go.ChangeShapes Go.WideShapes Go.RowKit

theorem own : ownKnob Tryd.prog.godebug = none := by kernel_rfl
abbrev laidAllList : List (String × DataW Unit) := Rows.noteApartRow.laid

theorem iface_cell {W : World} {n nm : String} {d : DataW Unit} {g ti : Nat} {ms : Array (String × TypeId)} (h : Lib.VarReads Tryd.prog W n (.iface nm d))
    (hg : Tryd.prog.globalNamed n = some g) (ht : (Tryd.prog.globals[g]?).map (·.type) = some ti) (hi : Tryd.prog.underlying ti = some (.interface ms)) : ∃ t p, W.cell? ⟨g, 0, none⟩ = some (.iface t p) := by
  obtain ⟨g0, t0, cs0, f0, p0, hg0, ht0, hv0, hd0⟩ := h
  obtain rfl := Option.some.inj (hg.symm.trans hg0)
  obtain rfl := Option.some.inj (ht.symm.trans ht0)
  obtain ⟨f1, u, v, hcs, _, _⟩ := iface_of_trod hi hd0
  refine ⟨u, v, ?_⟩
  have := World.var?_cell hg hv0 0
  obtain ⟨l0⟩ := cs0
  simp only at hcs
  subst hcs
  simpa using this

set_option maxRecDepth 100000 in
theorem handle_of_laid {W : World} (h : laidMetH Tryd.prog laidAllList W) (hsh : W.ShapedOpen Tryd.prog) : HT W := by
  rw [MakeChecks.laidMetH_plain _ _ _ (by kernel_rfl)] at h
  refine ⟨?_, ?_, ?_, ?_⟩
  · have h2 := laidMet.tail (laidMet.tail h)
    have e : Rows.laid_internal_strconv_uint64pow10 = (Lib.tabData .u64 Lib.pow10Tab : DataW Unit) := by kernel_rfl
    rw [e] at h2
    exact Lib.tabIs_of_head Tryd.gtab (t := 81) (e := 64) (n := 20) (by kernel_rfl) (by kernel_rfl) (by kernel_rfl) (by kernel_rfl) (by kernel_rfl) h2
  · exact Go.Proofs.cell_of_shapedOpen_int (g := 3) (t := 3) (zero := #[.int .i64 0]) hsh (of_decide_eq_true (by kernel_rfl)) (by kernel_rfl) rfl (by kernel_rfl) (by kernel_rfl) Tryd.underlying3
  · exact iface_cell (g := 1) (ti := 47) (Lib.laidMet.reads h (n := "strconv.ErrSyntax") (by simp [laidAllList, Rows.noteApartRow]; rfl)) (by kernel_rfl) (by kernel_rfl) Tryd.underlying47
  · exact iface_cell (g := 2) (ti := 47) (Lib.laidMet.reads h (n := "strconv.ErrRange") (by simp [laidAllList, Rows.noteApartRow]; rfl)) (by kernel_rfl) (by kernel_rfl) Tryd.underlying47

noncomputable def laidWorld (os : Os) : World := World.laidAll Tryd.prog os laidAllList
theorem laidWorld_met (os : Os) (args : Array Value) : laidMetH Tryd.prog laidAllList ((laidWorld os).forCall (fun _ _ => 0) ⟨#[], args, []⟩).memory := by
  rw [MakeChecks.laidMetH_plain _ _ _ (by kernel_rfl)]
  exact laidMet_laidAll _ (by kernel_rfl) (by kernel_rfl)

-- an Event that came in
set_option maxRecDepth 100000 in
theorem open_event {H : Type} {enc : TypeId × Value → H} {W : World} {v : Value} {d : DataW H} {ps : List MemPlace} {r : Reach} {b0 : Nat}
    (hval : Value.okWide Tryd.prog W r b0 23 v) (hd : DataW.Trod enc Tryd.prog W 0 (fun _ => true) true 23 v d ps) :
    ∃ e : Ev, v = .agg #[.int .i64 e.at_, .int .i64 e.kind, .int .i64 e.who, .int .i64 e.n] ∧ e.Ok := by
  obtain ⟨c0, c1, c2, c3, y0, y1, y2, y3, m, rfl, _, _, h0, h1, h2, h3⟩ := Go.Joins.open_agg4 Tryd.underlying23 (by kernel_rfl) (by kernel_rfl) hval hd
  obtain ⟨a, e0, _, wa⟩ := DataW.trod_int Tryd.underlying2 h0
  obtain ⟨k, e1, _, wk⟩ := DataW.trod_int Tryd.underlying3 h1
  obtain ⟨w, e2, _, ww⟩ := DataW.trod_int Tryd.underlying3 h2
  obtain ⟨n, e3, _, wn⟩ := DataW.trod_int Tryd.underlying2 h3
  simp only [List.cons.injEq, and_true] at e0 e1 e2 e3
  subst e0; subst e1; subst e2; subst e3
  exact ⟨⟨a, k, w, n⟩, rfl, ⟨wa, wk, ww, wn⟩⟩
end Go.Proofs.YtommmfncaadbeaaDoor
