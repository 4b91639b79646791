/- For every op and every two values (great ones answer the fixed examples) how they stand is what the reference tells, and an op and its contrary are Not of each other unless there is an error; conditions: none. -/
import Derived.Test.YtegegpdaalfbdaaRows
import Derived.Test.YtegegpdaalfbdaaPureLogicTest
import Derived.WalkKit
import Derived.ProofKit
import Derived.OpenShut
import Derived.ShutString
import Derived.ChangeOld
import Derived.Below
import Derived.SizedLaws
import Derived.Lib.SmallJoins
import Derived.ChangeArms
import Derived.Deep.Slices
import Derived.Deep.Fields
import Derived.ChangeSame
namespace Go.Proofs.Ytegegpdaalfbdaa.logicTest
open Go.ChangeShapes Go.WideShapes Go.ChangeAt Go.RowKit Go.Joins Go.Deep
open Go.ChangeMaps (open_string shut_string)
set_option linter.unusedVariables false
theorem own : ownKnob Try.prog.godebug = none := by kernel_rfl
theorem laidOut : laidOutB Try.prog = true := by kernel_rfl
set_option maxRecDepth 100000 in
theorem lifted (os : Os) (started : os.Started) (H : Type) (enc : TypeId × Value → H) :
    ReturnsInHanded {} Try.checked os 7 .any (Rows.logicTestSpec.pre6 enc Try.prog Try.f7 Rows.logicTestRow.domain false) (Rows.logicTestSpec.post enc Try.prog Try.f7 false true false false) := by
  refine returnsInHanded_of_change_sized (C := Try.checked) own started (by kernel_rfl) Try.func7
    (ChangeSpec.witness6 (enc := enc) (C := Try.checked) false ⟨#[], #[.string ByteArray.empty, .agg #[.int .u8 0, .int .i64 0, .string ByteArray.empty], .agg #[.int .u8 0, .int .i64 0, .string ByteArray.empty]], []⟩ 8 (by kernel_rfl) (by kernel_rfl) (by kernel_rfl) (by kernel_rfl)) ?_
  intro W base args ds gs before hval0 hW hcnd hsz0 _
  have hsz : (DataW.weightsEach Try.prog (Try.f7.params.toList ++ Rows.logicTestSpec.plain.varTypes Try.prog) (ds ++ gs)).all (· ≤ reachBytes) = true := hsz0
  have hval : ∀ (j : Nat) t v, Try.f7.params[j]? = some t → args[j]? = some v → Value.okWide Try.prog W .any base t v := hval0
  have hW' := hW
  obtain ⟨p, q, hA0, hV, rfl, hfz, hnd⟩ := hW
  have hA : DataW.TrodAll enc Try.prog W 0 (fun _ => true) true Try.f7.params.toList args.toList ds p := hA0
  rw [Try.params7] at hA hval hsz
  obtain ⟨v0, vs0, d0, ds0, p0, q0, hargs, rfl, rfl, h0, r0⟩ := trodAll_cons hA
  obtain ⟨v1, vs1, d1, ds1, p1, q1, rfl, rfl, rfl, h1, r1⟩ := trodAll_cons r0
  obtain ⟨v2, vs2, d2, ds2, p2, q2, rfl, rfl, rfl, h2, r2⟩ := trodAll_cons r1
  obtain ⟨rfl, rfl, rfl⟩ := trodAll_nil r2
  obtain rfl : args = #[v0, v1, v2] := by cases args; simp_all
  obtain ⟨rfl, rfl⟩ := trodVars_none hV
  have k0 := h0
  have lt0 : ∀ x ∈ p0, x.block < W.heap.size := by obtain ⟨m, hm⟩ := k0; exact DataW.trod_lt m _ _ _ hm
  have hv0 := hval 0 9 v0 rfl rfl
  have k1 := h1
  have lt1 : ∀ x ∈ p1, x.block < W.heap.size := by obtain ⟨m, hm⟩ := k1; exact DataW.trod_lt m _ _ _ hm
  have hv1 := hval 1 36 v1 rfl rfl
  have k2 := h2
  have lt2 : ∀ x ∈ p2, x.block < W.heap.size := by obtain ⟨m, hm⟩ := k2; exact DataW.trod_lt m _ _ _ hm
  have hv2 := hval 2 36 v2 rfl rfl
  obtain ⟨a0, rfl, rfl, rfl, y0⟩ := open_string Try.underlying9 hv0 h0
  have w0 : a0.size ≤ 140737488351232 := by
    have z := sized_string hsz (j := 0) (t := 9) rfl rfl
    rw [Array.length_toList] at z
    exact z
  obtain ⟨u1, u1', u1'', x1, x1', x1'', n1, rfl, rfl, rfl, f1, f1', f1''⟩ := open_agg3 Try.underlying36 (by kernel_rfl) (by kernel_rfl) hv1 h1
  obtain ⟨a1_0, e1, _, w1_0⟩ := DataW.trod_int Try.underlying5 f1
  obtain rfl : u1 = .int .u8 a1_0 := by simpa using e1
  obtain ⟨a1_1, e1', _, w1_1⟩ := DataW.trod_int Try.underlying2 f1'
  obtain rfl : u1' = .int .i64 a1_1 := by simpa using e1'
  obtain ⟨a1_2, e1'', _, w1_2⟩ := DataW.trod_string Try.underlying9 f1''
  obtain rfl : u1'' = .string a1_2 := by simpa using e1''
  obtain ⟨u2, u2', u2'', x2, x2', x2'', n2, rfl, rfl, rfl, f2, f2', f2''⟩ := open_agg3 Try.underlying36 (by kernel_rfl) (by kernel_rfl) hv2 h2
  obtain ⟨a2_0, e2, _, w2_0⟩ := DataW.trod_int Try.underlying5 f2
  obtain rfl : u2 = .int .u8 a2_0 := by simpa using e2
  obtain ⟨a2_1, e2', _, w2_1⟩ := DataW.trod_int Try.underlying2 f2'
  obtain rfl : u2' = .int .i64 a2_1 := by simpa using e2'
  obtain ⟨a2_2, e2'', _, w2_2⟩ := DataW.trod_string Try.underlying9 f2''
  obtain rfl : u2'' = .string a2_2 := by simpa using e2''
  clear hA0 hval0 hsz0 hsz
  refine (XLogicTest.rowlocklaw02_LogicTest.calls _ a0 a1_0 a1_1 a1_2 a2_0 a2_1 a2_2 true W (Pure.LogicTest a0 a1_0 a1_1 a1_2 a2_0 a2_1 a2_2 w1_0 w2_0 w1_2 w2_2).choose_spec).mono fun e W' ⟨he, bel⟩ => ?_
  subst he
  exact ⟨_, rfl, _, _, _, [], _, [], hW', trodAll_mk1 (shut_bool Try.underlying4 _), (trodAll_cons_mk (Below.trod laidOut (by kernel_rfl) (of_decide_eq_true (by kernel_rfl)) k0 bel lt0) (trodAll_cons_mk (Below.trod laidOut (by kernel_rfl) (of_decide_eq_true (by kernel_rfl)) k1 bel lt1) (trodAll_cons_mk (Below.trod laidOut (by kernel_rfl) (of_decide_eq_true (by kernel_rfl)) k2 bel lt2) trodAll_mk0))), rfl, bel.frame _, fun h => by cases h⟩
theorem over : Rows.logicTestRow.holds Try.pinned (OpenSpec.ofChange Rows.logicTestSpec) :=
  OpenClaim.holds_of_wide 7 Try.f7 rfl rfl rfl rfl rfl rfl rfl ⟨rfl, rfl, rfl, rfl, rfl⟩ rfl rfl rfl rfl rfl (by kernel_rfl) Try.func7 (by kernel_rfl)
    (of_decide_eq_true (by kernel_rfl)) (by unfold Func.isWrapper; first | (rw [if_pos (by decide +kernel)]; kernel_rfl) | (rw [if_neg (by decide +kernel)]; exact ⟨rfl, rfl⟩))
    (fun os started H enc _ => lifted os started H enc)
theorem proved : Rows.LogicTestSaid := over
#print axioms proved
end Go.Proofs.Ytegegpdaalfbdaa.logicTest
namespace Go.Proofs.Ytegegpdaalfbdaa
/-- The row, under a short name, for the claim. -/
theorem logicTest_holds : Rows.LogicTestSaid := logicTest.proved
end Go.Proofs.Ytegegpdaalfbdaa
