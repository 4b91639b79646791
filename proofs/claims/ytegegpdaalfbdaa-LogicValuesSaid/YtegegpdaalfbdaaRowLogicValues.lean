/- For every value and every truth: a value as a truth, and a truth as a value, are as the reference tells; conditions: none. -/
import Derived.Test.YtegegpdaalfbdaaRows
import Derived.Test.YtegegpdaalfbdaaPureLogicValues
import Derived.WalkKit
import Derived.ProofKit
import Derived.OpenShut
import Derived.ShutString
import Derived.ChangeOld
import Derived.Below
import Derived.SizedLaws
import Derived.Lib.SmallJoins
import Derived.ChangeArms
import Derived.Deep.Slices
import Derived.Deep.Fields
import Derived.ChangeSame
namespace Go.Proofs.Ytegegpdaalfbdaa.logicValues
open Go.ChangeShapes Go.WideShapes Go.ChangeAt Go.RowKit Go.Joins Go.Deep
open Go.ChangeMaps (open_string shut_string)
set_option linter.unusedVariables false
theorem own : ownKnob Try.prog.godebug = none := by kernel_rfl
theorem laidOut : laidOutB Try.prog = true := by kernel_rfl
set_option maxRecDepth 100000 in
theorem lifted (os : Os) (started : os.Started) (H : Type) (enc : TypeId × Value → H) :
    ReturnsInHanded {} Try.checked os 6 .any (Rows.logicValuesSpec.pre6 enc Try.prog Try.f6 Rows.logicValuesRow.domain false) (Rows.logicValuesSpec.post enc Try.prog Try.f6 false true false false) := by
  refine returnsInHanded_of_change_sized (C := Try.checked) own started (by kernel_rfl) Try.func6
    (ChangeSpec.witness6 (enc := enc) (C := Try.checked) false ⟨#[], #[.agg #[.int .u8 0, .int .i64 0, .string ByteArray.empty], .int .u8 0], []⟩ 8 (by kernel_rfl) (by kernel_rfl) (by kernel_rfl) (by kernel_rfl)) ?_
  intro W base args ds gs before hval0 hW hcnd hsz0 _
  have hsz : (DataW.weightsEach Try.prog (Try.f6.params.toList ++ Rows.logicValuesSpec.plain.varTypes Try.prog) (ds ++ gs)).all (· ≤ reachBytes) = true := hsz0
  have hval : ∀ (j : Nat) t v, Try.f6.params[j]? = some t → args[j]? = some v → Value.okWide Try.prog W .any base t v := hval0
  have hW' := hW
  obtain ⟨p, q, hA0, hV, rfl, hfz, hnd⟩ := hW
  have hA : DataW.TrodAll enc Try.prog W 0 (fun _ => true) true Try.f6.params.toList args.toList ds p := hA0
  rw [Try.params6] at hA hval hsz
  obtain ⟨v0, vs0, d0, ds0, p0, q0, hargs, rfl, rfl, h0, r0⟩ := trodAll_cons hA
  obtain ⟨v1, vs1, d1, ds1, p1, q1, rfl, rfl, rfl, h1, r1⟩ := trodAll_cons r0
  obtain ⟨rfl, rfl, rfl⟩ := trodAll_nil r1
  obtain rfl : args = #[v0, v1] := by cases args; simp_all
  obtain ⟨rfl, rfl⟩ := trodVars_none hV
  have k0 := h0
  have lt0 : ∀ x ∈ p0, x.block < W.heap.size := by obtain ⟨m, hm⟩ := k0; exact DataW.trod_lt m _ _ _ hm
  have hv0 := hval 0 36 v0 rfl rfl
  have k1 := h1
  have lt1 : ∀ x ∈ p1, x.block < W.heap.size := by obtain ⟨m, hm⟩ := k1; exact DataW.trod_lt m _ _ _ hm
  have hv1 := hval 1 23 v1 rfl rfl
  obtain ⟨u0, u0', u0'', x0, x0', x0'', n0, rfl, rfl, rfl, f0, f0', f0''⟩ := open_agg3 Try.underlying36 (by kernel_rfl) (by kernel_rfl) hv0 h0
  obtain ⟨a0_0, e0, _, w0_0⟩ := DataW.trod_int Try.underlying5 f0
  obtain rfl : u0 = .int .u8 a0_0 := by simpa using e0
  obtain ⟨a0_1, e0', _, w0_1⟩ := DataW.trod_int Try.underlying2 f0'
  obtain rfl : u0' = .int .i64 a0_1 := by simpa using e0'
  obtain ⟨a0_2, e0'', _, w0_2⟩ := DataW.trod_string Try.underlying9 f0''
  obtain rfl : u0'' = .string a0_2 := by simpa using e0''
  obtain ⟨a1, rfl, rfl, rfl, w1⟩ := open_int Try.underlying23 hv1 h1
  clear hA0 hval0 hsz0 hsz
  refine (PLogicValues.rowlocklaw02_LogicValues.calls _ a0_0 a0_1 a0_2 a1 true W (Pure.LogicValues a0_0 a0_1 a0_2 a1 w1).choose_spec).mono fun e W' ⟨he, bel⟩ => ?_
  subst he
  exact ⟨_, rfl, _, _, _, [], _, [], hW', trodAll_mk1 (shut_bool Try.underlying4 _), (trodAll_cons_mk (Below.trod laidOut (by kernel_rfl) (of_decide_eq_true (by kernel_rfl)) k0 bel lt0) (trodAll_cons_mk (Below.trod laidOut (by kernel_rfl) (of_decide_eq_true (by kernel_rfl)) k1 bel lt1) trodAll_mk0)), rfl, bel.frame _, fun h => by cases h⟩
theorem over : Rows.logicValuesRow.holds Try.pinned (OpenSpec.ofChange Rows.logicValuesSpec) :=
  OpenClaim.holds_of_wide 6 Try.f6 rfl rfl rfl rfl rfl rfl rfl ⟨rfl, rfl, rfl, rfl, rfl⟩ rfl rfl rfl rfl rfl (by kernel_rfl) Try.func6 (by kernel_rfl)
    (of_decide_eq_true (by kernel_rfl)) (by unfold Func.isWrapper; first | (rw [if_pos (by decide +kernel)]; kernel_rfl) | (rw [if_neg (by decide +kernel)]; exact ⟨rfl, rfl⟩))
    (fun os started H enc _ => lifted os started H enc)
theorem proved : Rows.LogicValuesSaid := over
#print axioms proved
end Go.Proofs.Ytegegpdaalfbdaa.logicValues
namespace Go.Proofs.Ytegegpdaalfbdaa
/-- The row, under a short name, for the claim. -/
theorem logicValues_holds : Rows.LogicValuesSaid := logicValues.proved
end Go.Proofs.Ytegegpdaalfbdaa
