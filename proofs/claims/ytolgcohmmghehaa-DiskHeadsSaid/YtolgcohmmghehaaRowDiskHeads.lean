/- For every head, all bytes (more than 600 answer the fixed example) and whether they are filled up: the head's page is the reference's and is got; the head of the bytes is the reference's; conditions: none. -/
import Derived.Test.YtolgcohmmghehaaRows
import Derived.Test.YtolgcohmmghehaaPureDiskHeads
import Derived.Test.YtolgcohmmghehaaOpen
import Derived.WalkKit
import Derived.ProofKit
import Derived.OpenShut
import Derived.ShutString
import Derived.ChangeOld
import Derived.Below
import Derived.SizedLaws
import Derived.Lib.SmallJoins
import Derived.ChangeArms
import Derived.Deep.Slices
import Derived.Deep.Fields
import Derived.ChangeSame
namespace Go.Proofs.Ytolgcohmmghehaa.diskHeads
open Go.ChangeShapes Go.WideShapes Go.ChangeAt Go.RowKit Go.Joins Go.Deep
open Go.ChangeMaps (open_string shut_string)
open Go.Proofs.YtolgcohmmghehaaW Go.Proofs.YtolgcohmmghehaaW.PrintWords
set_option linter.unusedVariables false
theorem own : ownKnob Try.prog.godebug = none := by kernel_rfl
theorem laidOut : laidOutB Try.prog = true := by kernel_rfl
set_option maxRecDepth 100000 in
theorem lifted (os : Os) (started : os.Started) (H : Type) (enc : TypeId × Value → H) :
    ReturnsInHanded {} Try.checked os 3 .any (Rows.diskHeadsSpec.pre6 enc Try.prog Try.f3 Rows.diskHeadsRow.domain false) (Rows.diskHeadsSpec.post enc Try.prog Try.f3 false true false false) := by
  refine returnsInHanded_of_change_sized (C := Try.checked) own started (by kernel_rfl) Try.func3
    (ChangeSpec.witness6 (enc := enc) (C := Try.checked) false ⟨#[], #[.agg #[.int .u8 0, .int .u16 0, .int .u32 0], .slice none 0 0, .bool false], []⟩ 8 (by kernel_rfl) (by kernel_rfl) (by kernel_rfl) (by kernel_rfl)) ?_
  intro W base args ds gs before hval0 hW hcnd hsz0 _
  have hsz : (DataW.weightsEach Try.prog (Try.f3.params.toList ++ Rows.diskHeadsSpec.plain.varTypes Try.prog) (ds ++ gs)).all (· ≤ reachBytes) = true := hsz0
  have hval : ∀ (j : Nat) t v, Try.f3.params[j]? = some t → args[j]? = some v → Value.okWide Try.prog W .any base t v := hval0
  have hW' := hW
  obtain ⟨p, q, hA0, hV, rfl, hfz, hnd⟩ := hW
  have hA : DataW.TrodAll enc Try.prog W 0 (fun _ => true) true Try.f3.params.toList args.toList ds p := hA0
  rw [Try.params3] at hA hval hsz
  obtain ⟨v0, vs0, d0, ds0, p0, q0, hargs, rfl, rfl, h0, r0⟩ := trodAll_cons hA
  obtain ⟨v1, vs1, d1, ds1, p1, q1, rfl, rfl, rfl, h1, r1⟩ := trodAll_cons r0
  obtain ⟨v2, vs2, d2, ds2, p2, q2, rfl, rfl, rfl, h2, r2⟩ := trodAll_cons r1
  obtain ⟨rfl, rfl, rfl⟩ := trodAll_nil r2
  obtain rfl : args = #[v0, v1, v2] := by cases args; simp_all
  obtain ⟨rfl, rfl⟩ := trodVars_none hV
  have k0 := h0
  have lt0 : ∀ x ∈ p0, x.block < W.heap.size := by obtain ⟨m, hm⟩ := k0; exact DataW.trod_lt m _ _ _ hm
  have hv0 := hval 0 25 v0 rfl rfl
  have k1 := h1
  have lt1 : ∀ x ∈ p1, x.block < W.heap.size := by obtain ⟨m, hm⟩ := k1; exact DataW.trod_lt m _ _ _ hm
  have hv1 := hval 1 26 v1 rfl rfl
  have k2 := h2
  have lt2 : ∀ x ∈ p2, x.block < W.heap.size := by obtain ⟨m, hm⟩ := k2; exact DataW.trod_lt m _ _ _ hm
  have hv2 := hval 2 4 v2 rfl rfl
  obtain ⟨u0, u0', u0'', x0, x0', x0'', n0, rfl, rfl, rfl, f0, f0', f0''⟩ := open_agg3 Try.underlying25 (by kernel_rfl) (by kernel_rfl) hv0 h0
  obtain ⟨a0_0, e0, _, w0_0⟩ := DataW.trod_int Try.underlying5 f0
  obtain rfl : u0 = .int .u8 a0_0 := by simpa using e0
  obtain ⟨a0_1, e0', _, w0_1⟩ := DataW.trod_int Try.underlying22 f0'
  obtain rfl : u0' = .int .u16 a0_1 := by simpa using e0'
  obtain ⟨a0_2, e0'', _, w0_2⟩ := DataW.trod_int Try.underlying23 f0''
  obtain rfl : u0'' = .int .u32 a0_2 := by simpa using e0''
  obtain ⟨A1, c1, l1, rfl, hl1, hC1, hm1, hG1⟩ := Open.open_rows Try.underlying26 (by kernel_rfl) (Open.opens_int Try.underlying5) hv1 h1
  obtain ⟨a2, rfl, rfl, rfl⟩ := open_bool Try.underlying4 hv2 h2
  clear hA0 hval0 hsz0 hsz
  refine (PureH.DiskHeads_ok a0_0 a0_1 a0_2 A1 c1 l1 a2 W hC1 hl1 hG1 w0_0 w0_1 w0_2).mono fun e W' ⟨he, bel⟩ => ?_
  subst he
  exact ⟨_, rfl, _, _, _, [], _, [], hW', trodAll_mk1 (shut_bool Try.underlying4 _), (trodAll_cons_mk (Below.trod laidOut (by kernel_rfl) (of_decide_eq_true (by kernel_rfl)) k0 bel lt0) (trodAll_cons_mk (Below.trod laidOut (by kernel_rfl) (of_decide_eq_true (by kernel_rfl)) k1 bel lt1) (trodAll_cons_mk (Below.trod laidOut (by kernel_rfl) (of_decide_eq_true (by kernel_rfl)) k2 bel lt2) trodAll_mk0))), rfl, bel.frame _, fun h => by cases h⟩
theorem over : Rows.diskHeadsRow.holds Try.pinned (OpenSpec.ofChange Rows.diskHeadsSpec) :=
  OpenClaim.holds_of_wide 3 Try.f3 rfl rfl rfl rfl rfl rfl rfl ⟨rfl, rfl, rfl, rfl, rfl⟩ rfl rfl rfl rfl rfl (by kernel_rfl) Try.func3 (by kernel_rfl)
    (of_decide_eq_true (by kernel_rfl)) (by unfold Func.isWrapper; first | (rw [if_pos (by decide +kernel)]; kernel_rfl) | (rw [if_neg (by decide +kernel)]; exact ⟨rfl, rfl⟩))
    (fun os started H enc _ => lifted os started H enc)
theorem proved : Rows.DiskHeadsSaid := over
#print axioms proved
end Go.Proofs.Ytolgcohmmghehaa.diskHeads
namespace Go.Proofs.Ytolgcohmmghehaa
/-- The row, under a short name, for the claim. -/
theorem diskHeads_holds : Rows.DiskHeadsSaid := diskHeads.proved
end Go.Proofs.Ytolgcohmmghehaa
