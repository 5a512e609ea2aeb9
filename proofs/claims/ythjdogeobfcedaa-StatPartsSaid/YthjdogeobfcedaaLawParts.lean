/-
  StatParts: for every input the law returns true, and the arguments read behind the call as they read before.
  Conditions: none.
-/
import Derived.Test.YthjdogeobfcedaaRows
import Derived.Test.YthjdogeobfcedaaRow
import Derived.Test.YthjdogeobfcedaaS10
import Derived.Test.YthjdogeobfcedaaOpen
import Derived.WalkKit
import Derived.ProofKit
import Derived.OpenShut
import Derived.ChangeMaps5
namespace Go.Proofs.Ythjdogeobfcedaa.lawStatParts
open Go.ChangeShapes Go.WideShapes Go.ChangeAt Go.RowKit Go.ChangeMaps

theorem ownk : ownKnob Try.prog.godebug = none := by kernel_rfl

set_option maxRecDepth 100000 in
theorem lifted (os : Os) (started : os.Started) (H : Type) (enc : TypeId × Value → H) :
    ReturnsInHanded {} Try.checked os 3 .any (Rows.statPartsSpec.pre6 enc Try.prog Try.f3 Rows.statPartsRow.domain false) (Rows.statPartsSpec.post enc Try.prog Try.f3 false true false false) := by
  refine returnsInHanded_of_change (C := Try.checked) ownk started (by kernel_rfl) Try.func3
    (ChangeSpec.witness6 (enc := enc) (C := Try.checked) false ⟨#[], #[.slice none 0 0, .int .i64 0], []⟩ 8 (by kernel_rfl) (by kernel_rfl) (by kernel_rfl) (by kernel_rfl)) ?_
  intro W base args ds gs before hval0 hW _ _
  have hval : ∀ (j : Nat) t v, Try.f3.params[j]? = some t → args[j]? = some v → Value.okWide Try.prog W .any base t v := hval0
  have hW' := hW
  obtain ⟨p, q, hA0, hV, rfl, hfz, hnd⟩ := hW
  have hA : DataW.TrodAll enc Try.prog W 0 (fun _ => true) true Try.f3.params.toList args.toList ds p := hA0
  rw [Try.params3] at hA hval
  obtain ⟨v0, vs0, d0, ds0, p0, q0, hargs, rfl, rfl, h0, r0⟩ := trodAll_cons hA
  obtain ⟨v1, vs1, d1, ds1, p1, q1, rfl, rfl, rfl, h1, r1⟩ := trodAll_cons r0
  obtain ⟨rfl, rfl, rfl⟩ := trodAll_nil r1
  obtain rfl : args = #[v0, v1] := by cases args; simp_all
  obtain ⟨rfl, rfl⟩ := trodVars_none hV
  obtain ⟨A, l, c, rfl, hr, hok, hlc, hm⟩ := open_events (hval 0 22 v0 (by simp) (by simp)) h0
  obtain ⟨cut, rfl, rfl, rfl, wc⟩ := open_int Try.underlying3 (hval 1 3 v1 (by simp) (by simp)) h1
  unfold maxLen at hm
  clear hA0 hval0
  have fin : ∀ (e : Ending) (W' : World), e = .returned (.bool true) ∧ Below W.heap.size W W' → ∃ v, e = .returned v ∧ Rows.statPartsSpec.post enc Try.prog Try.f3 false true false false W _ v W' :=
    fun e W' h => ⟨_, h.1, post_true hW' rfl rfl Try.underlying4 ⟨rfl, rfl, rfl⟩ (by kernel_rfl) (by kernel_rfl) h.2⟩
  by_cases hg : 200 < l.length ∨ cut < 0 ∨ (l.length : Int) < cut
  · exact (parts_guard W A l.length c cut (by omega) hg).mono fun e W' h => fin e W' h
  · obtain ⟨k, rfl⟩ := Int.eq_ofNat_of_zero_le (a := cut) (by omega)
    exact (parts_walk W A l c k hr hok hlc (by omega) (by omega)).mono fun e W' h => fin e W' h

theorem proved : Rows.StatPartsSaid :=
  OpenClaim.holds_of_wide 3 Try.f3 rfl rfl rfl rfl rfl rfl rfl ⟨rfl, rfl, rfl, rfl, rfl⟩ rfl rfl rfl rfl rfl (by kernel_rfl) Try.func3 (by kernel_rfl)
    (of_decide_eq_true (by kernel_rfl)) (by unfold Func.isWrapper; first | (rw [if_pos (by decide +kernel)]; kernel_rfl) | (rw [if_neg (by decide +kernel)]; exact ⟨rfl, rfl⟩))
    (fun os started H enc _ => lifted os started H enc)
#print axioms proved
end Go.Proofs.Ythjdogeobfcedaa.lawStatParts
