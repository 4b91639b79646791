/- For all kinds of pages and bytes behind them (great ones answer the fixed example): the disk of the image shows its pages and which are taken, and so does the disk of its own image; other images are refused; conditions: none. -/
import Derived.Test.YtolgcohmmghehaaRows
import Derived.Test.YtolgcohmmghehaaTDiskLoads
import Derived.Test.YtolgcohmmghehaaKinds
import Derived.Test.YtolgcohmmghehaaOpen
import Derived.WalkKit
import Derived.ProofKit
import Derived.OpenShut
import Derived.ShutString
import Derived.ChangeOld
import Derived.Below
import Derived.SizedLaws
import Derived.Lib.SmallJoins
import Derived.ChangeArms
import Derived.Deep.Slices
import Derived.Deep.Fields
import Derived.ChangeSame
namespace Go.Proofs.Ytolgcohmmghehaa.diskLoads
open Go.ChangeShapes Go.WideShapes Go.ChangeAt Go.RowKit Go.Joins Go.Deep
open Go.ChangeMaps (open_string shut_string)
open Go.Proofs.YtolgcohmmghehaaW Go.Proofs.YtolgcohmmghehaaW.PrintWords
set_option linter.unusedVariables false
theorem own : ownKnob Try.prog.godebug = none := by kernel_rfl
theorem laidOut : laidOutB Try.prog = true := by kernel_rfl
theorem opens40 {H : Type} {enc : TypeId × Value → H} {w : World} {base : Nat} {spare : Nat → Bool} {held : Bool} :
    Open.Opens enc Try.prog w base spare held 40 Dsk.k40 (fun x => ((Lit.int .i64 x.f0).wf = true) ∧ ((Lit.int .u32 x.f1).wf = true) ∧ ((Lit.int .u8 x.f2).wf = true) ∧ (True)) := by
  refine Open.opens_struct (f := fun x : Dsk.S40 => (x.f0, x.f1, x.f2, x.f3)) (G := fun x : (Int) × (Int) × (Int) × (Bool) => ((Lit.int .i64 x.1).wf = true) ∧ ((Lit.int .u32 x.2.1).wf = true) ∧ ((Lit.int .u8 x.2.2.1).wf = true) ∧ (True)) (fun x => ⟨x.1, x.2.1, x.2.2.1, x.2.2.2⟩) (fun _ => rfl) Try.underlying40 ?_
  rw [show Try.prog.cellsOf 40 = 1 + (1 + (1 + (1))) from by kernel_rfl]
  refine Open.seq_cons (s0 := 1) (G := fun x : Int => (Lit.int .i64 x).wf = true) (G' := fun x : (Int) × (Int) × (Bool) => ((Lit.int .u32 x.1).wf = true) ∧ ((Lit.int .u8 x.2.1).wf = true) ∧ (True)) ?h0_0 ?hs_0 ?hf_0 ?ho_0 ?hr_0
  case h0_0 => rfl
  case hs_0 => kernel_rfl
  case hf_0 => decide
  case ho_0 => exact Open.opens_int Try.underlying3
  refine Open.seq_cons (s0 := 1) (G := fun x : Int => (Lit.int .u32 x).wf = true) (G' := fun x : (Int) × (Bool) => ((Lit.int .u8 x.1).wf = true) ∧ (True)) ?h0_1 ?hs_1 ?hf_1 ?ho_1 ?hr_1
  case h0_1 => rfl
  case hs_1 => kernel_rfl
  case hf_1 => decide
  case ho_1 => exact Open.opens_int Try.underlying23
  refine Open.seq_cons (s0 := 1) (G := fun x : Int => (Lit.int .u8 x).wf = true) (G' := fun x : (Bool) => (True)) ?h0_2 ?hs_2 ?hf_2 ?ho_2 ?hr_2
  case h0_2 => rfl
  case hs_2 => kernel_rfl
  case hf_2 => decide
  case ho_2 => exact Open.opens_int Try.underlying5
  exact Open.seq_last rfl (by kernel_rfl) (Open.opens_bool Try.underlying4)
set_option maxRecDepth 100000 in
theorem lifted (os : Os) (started : os.Started) (H : Type) (enc : TypeId × Value → H) :
    ReturnsInHanded {} Try.checked os 5 .any (Rows.diskLoadsSpec.pre6 enc Try.prog Try.f5 Rows.diskLoadsRow.domain false) (Rows.diskLoadsSpec.post enc Try.prog Try.f5 false true false false) := by
  refine returnsInHanded_of_change_sized (C := Try.checked) own started (by kernel_rfl) Try.func5
    (ChangeSpec.witness6 (enc := enc) (C := Try.checked) false ⟨#[], #[.slice none 0 0, .int .u16 0, .slice none 0 0], []⟩ 8 (by kernel_rfl) (by kernel_rfl) (by kernel_rfl) (by kernel_rfl)) ?_
  intro W base args ds gs before hval0 hW hcnd hsz0 _
  have hsz : (DataW.weightsEach Try.prog (Try.f5.params.toList ++ Rows.diskLoadsSpec.plain.varTypes Try.prog) (ds ++ gs)).all (· ≤ reachBytes) = true := hsz0
  have hval : ∀ (j : Nat) t v, Try.f5.params[j]? = some t → args[j]? = some v → Value.okWide Try.prog W .any base t v := hval0
  have hW' := hW
  obtain ⟨p, q, hA0, hV, rfl, hfz, hnd⟩ := hW
  have hA : DataW.TrodAll enc Try.prog W 0 (fun _ => true) true Try.f5.params.toList args.toList ds p := hA0
  rw [Try.params5] at hA hval hsz
  obtain ⟨v0, vs0, d0, ds0, p0, q0, hargs, rfl, rfl, h0, r0⟩ := trodAll_cons hA
  obtain ⟨v1, vs1, d1, ds1, p1, q1, rfl, rfl, rfl, h1, r1⟩ := trodAll_cons r0
  obtain ⟨v2, vs2, d2, ds2, p2, q2, rfl, rfl, rfl, h2, r2⟩ := trodAll_cons r1
  obtain ⟨rfl, rfl, rfl⟩ := trodAll_nil r2
  obtain rfl : args = #[v0, v1, v2] := by cases args; simp_all
  obtain ⟨rfl, rfl⟩ := trodVars_none hV
  have k0 := h0
  have lt0 : ∀ x ∈ p0, x.block < W.heap.size := by obtain ⟨m, hm⟩ := k0; exact DataW.trod_lt m _ _ _ hm
  have hv0 := hval 0 26 v0 rfl rfl
  have k1 := h1
  have lt1 : ∀ x ∈ p1, x.block < W.heap.size := by obtain ⟨m, hm⟩ := k1; exact DataW.trod_lt m _ _ _ hm
  have hv1 := hval 1 22 v1 rfl rfl
  have k2 := h2
  have lt2 : ∀ x ∈ p2, x.block < W.heap.size := by obtain ⟨m, hm⟩ := k2; exact DataW.trod_lt m _ _ _ hm
  have hv2 := hval 2 34 v2 rfl rfl
  obtain ⟨A0, c0, l0, rfl, hl0, hC0, hm0, hG0⟩ := Open.open_rows Try.underlying26 (by kernel_rfl) (Open.opens_int Try.underlying5) hv0 h0
  obtain ⟨a1, rfl, rfl, rfl, w1⟩ := open_int Try.underlying22 hv1 h1
  obtain ⟨A2, c2, l2, rfl, hl2, hC2, hm2, hG2⟩ := Open.open_rows Try.underlying34 (by kernel_rfl) (opens40) hv2 h2
  clear hA0 hval0 hsz0 hsz
  refine (Dsk.DiskLoads_ok A0 c0 l0 a1 A2 l2.length c2 W hC0 hG0 w1).mono fun e W' ⟨he, bel⟩ => ?_
  subst he
  exact ⟨_, rfl, _, _, _, [], _, [], hW', trodAll_mk1 (shut_bool Try.underlying4 _), (trodAll_cons_mk (Below.trod laidOut (by kernel_rfl) (of_decide_eq_true (by kernel_rfl)) k0 bel lt0) (trodAll_cons_mk (Below.trod laidOut (by kernel_rfl) (of_decide_eq_true (by kernel_rfl)) k1 bel lt1) (trodAll_cons_mk (Below.trod laidOut (by kernel_rfl) (of_decide_eq_true (by kernel_rfl)) k2 bel lt2) trodAll_mk0))), rfl, bel.frame _, fun h => by cases h⟩
theorem over : Rows.diskLoadsRow.holds Try.pinned (OpenSpec.ofChange Rows.diskLoadsSpec) :=
  OpenClaim.holds_of_wide 5 Try.f5 rfl rfl rfl rfl rfl rfl rfl ⟨rfl, rfl, rfl, rfl, rfl⟩ rfl rfl rfl rfl rfl (by kernel_rfl) Try.func5 (by kernel_rfl)
    (of_decide_eq_true (by kernel_rfl)) (by unfold Func.isWrapper; first | (rw [if_pos (by decide +kernel)]; kernel_rfl) | (rw [if_neg (by decide +kernel)]; exact ⟨rfl, rfl⟩))
    (fun os started H enc _ => lifted os started H enc)
theorem proved : Rows.DiskLoadsSaid := over
#print axioms proved
end Go.Proofs.Ytolgcohmmghehaa.diskLoads
namespace Go.Proofs.Ytolgcohmmghehaa
/-- The row, under a short name, for the claim. -/
theorem diskLoads_holds : Rows.DiskLoadsSaid := diskLoads.proved
end Go.Proofs.Ytolgcohmmghehaa
