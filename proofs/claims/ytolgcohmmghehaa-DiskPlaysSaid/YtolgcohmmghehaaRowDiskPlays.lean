/- For every number of pages and row of operations (great ones answer the fixed example): each operation is answered, and the disk left, as the reference tells; a copy goes on as the disk; conditions: none. -/
import Derived.Test.YtolgcohmmghehaaRows
import Derived.Test.YtolgcohmmghehaaTDiskPlays
import Derived.Test.YtolgcohmmghehaaOpen
import Derived.WalkKit
import Derived.ProofKit
import Derived.OpenShut
import Derived.ShutString
import Derived.ChangeOld
import Derived.Below
import Derived.SizedLaws
import Derived.Lib.SmallJoins
import Derived.ChangeArms
import Derived.Deep.Slices
import Derived.Deep.Fields
import Derived.ChangeSame
namespace Go.Proofs.Ytolgcohmmghehaa.diskPlays
open Go.ChangeShapes Go.WideShapes Go.ChangeAt Go.RowKit Go.Joins Go.Deep
open Go.ChangeMaps (open_string shut_string)
open Go.Proofs.YtolgcohmmghehaaW Go.Proofs.YtolgcohmmghehaaW.PrintWords
set_option linter.unusedVariables false
theorem own : ownKnob Try.prog.godebug = none := by kernel_rfl
theorem laidOut : laidOutB Try.prog = true := by kernel_rfl
theorem opens40 {H : Type} {enc : TypeId × Value → H} {w : World} {base : Nat} {spare : Nat → Bool} {held : Bool} :
    Open.Opens enc Try.prog w base spare held 40 Dsk.k40 (fun x => ((Lit.int .i64 x.f0).wf = true) ∧ ((Lit.int .u32 x.f1).wf = true) ∧ ((Lit.int .u8 x.f2).wf = true) ∧ (True)) := by
  refine Open.opens_struct (f := fun x : Dsk.S40 => (x.f0, x.f1, x.f2, x.f3)) (G := fun x : (Int) × (Int) × (Int) × (Bool) => ((Lit.int .i64 x.1).wf = true) ∧ ((Lit.int .u32 x.2.1).wf = true) ∧ ((Lit.int .u8 x.2.2.1).wf = true) ∧ (True)) (fun x => ⟨x.1, x.2.1, x.2.2.1, x.2.2.2⟩) (fun _ => rfl) Try.underlying40 ?_
  rw [show Try.prog.cellsOf 40 = 1 + (1 + (1 + (1))) from by kernel_rfl]
  refine Open.seq_cons (s0 := 1) (G := fun x : Int => (Lit.int .i64 x).wf = true) (G' := fun x : (Int) × (Int) × (Bool) => ((Lit.int .u32 x.1).wf = true) ∧ ((Lit.int .u8 x.2.1).wf = true) ∧ (True)) ?h0_0 ?hs_0 ?hf_0 ?ho_0 ?hr_0
  case h0_0 => rfl
  case hs_0 => kernel_rfl
  case hf_0 => decide
  case ho_0 => exact Open.opens_int Try.underlying3
  refine Open.seq_cons (s0 := 1) (G := fun x : Int => (Lit.int .u32 x).wf = true) (G' := fun x : (Int) × (Bool) => ((Lit.int .u8 x.1).wf = true) ∧ (True)) ?h0_1 ?hs_1 ?hf_1 ?ho_1 ?hr_1
  case h0_1 => rfl
  case hs_1 => kernel_rfl
  case hf_1 => decide
  case ho_1 => exact Open.opens_int Try.underlying23
  refine Open.seq_cons (s0 := 1) (G := fun x : Int => (Lit.int .u8 x).wf = true) (G' := fun x : (Bool) => (True)) ?h0_2 ?hs_2 ?hf_2 ?ho_2 ?hr_2
  case h0_2 => rfl
  case hs_2 => kernel_rfl
  case hf_2 => decide
  case ho_2 => exact Open.opens_int Try.underlying5
  exact Open.seq_last rfl (by kernel_rfl) (Open.opens_bool Try.underlying4)
theorem opw {x : Dsk.S40} (h : ((Lit.int .i64 x.f0).wf = true) ∧ ((Lit.int .u32 x.f1).wf = true) ∧ ((Lit.int .u8 x.f2).wf = true) ∧ True) : Dsk.Opw x := by
  simp [Lit.wf, IntKind.min, IntKind.max, IntKind.signed, IntKind.bits] at h
  unfold Dsk.Opw
  omega
set_option maxRecDepth 100000 in
theorem lifted (os : Os) (started : os.Started) (H : Type) (enc : TypeId × Value → H) :
    ReturnsInHanded {} Try.checked os 6 .any (Rows.diskPlaysSpec.pre6 enc Try.prog Try.f6 Rows.diskPlaysRow.domain false) (Rows.diskPlaysSpec.post enc Try.prog Try.f6 false true false false) := by
  refine returnsInHanded_of_change_sized (C := Try.checked) own started (by kernel_rfl) Try.func6
    (ChangeSpec.witness6 (enc := enc) (C := Try.checked) false ⟨#[], #[.int .i64 0, .slice none 0 0], []⟩ 8 (by kernel_rfl) (by kernel_rfl) (by kernel_rfl) (by kernel_rfl)) ?_
  intro W base args ds gs before hval0 hW hcnd hsz0 _
  have hsz : (DataW.weightsEach Try.prog (Try.f6.params.toList ++ Rows.diskPlaysSpec.plain.varTypes Try.prog) (ds ++ gs)).all (· ≤ reachBytes) = true := hsz0
  have hval : ∀ (j : Nat) t v, Try.f6.params[j]? = some t → args[j]? = some v → Value.okWide Try.prog W .any base t v := hval0
  have hW' := hW
  obtain ⟨p, q, hA0, hV, rfl, hfz, hnd⟩ := hW
  have hA : DataW.TrodAll enc Try.prog W 0 (fun _ => true) true Try.f6.params.toList args.toList ds p := hA0
  rw [Try.params6] at hA hval hsz
  obtain ⟨v0, vs0, d0, ds0, p0, q0, hargs, rfl, rfl, h0, r0⟩ := trodAll_cons hA
  obtain ⟨v1, vs1, d1, ds1, p1, q1, rfl, rfl, rfl, h1, r1⟩ := trodAll_cons r0
  obtain ⟨rfl, rfl, rfl⟩ := trodAll_nil r1
  obtain rfl : args = #[v0, v1] := by cases args; simp_all
  obtain ⟨rfl, rfl⟩ := trodVars_none hV
  have k0 := h0
  have lt0 : ∀ x ∈ p0, x.block < W.heap.size := by obtain ⟨m, hm⟩ := k0; exact DataW.trod_lt m _ _ _ hm
  have hv0 := hval 0 3 v0 rfl rfl
  have k1 := h1
  have lt1 : ∀ x ∈ p1, x.block < W.heap.size := by obtain ⟨m, hm⟩ := k1; exact DataW.trod_lt m _ _ _ hm
  have hv1 := hval 1 34 v1 rfl rfl
  obtain ⟨a0, rfl, rfl, rfl, w0⟩ := open_int Try.underlying3 hv0 h0
  obtain ⟨A1, c1, l1, rfl, hl1, hC1, hm1, hG1⟩ := Open.open_rows Try.underlying34 (by kernel_rfl) (opens40) hv1 h1
  clear hA0 hval0 hsz0 hsz
  refine (Dsk.DiskPlays_ok a0 A1 c1 l1 W hC1 (fun x hx => opw (hG1 x hx))).mono fun e W' ⟨he, bel⟩ => ?_
  subst he
  exact ⟨_, rfl, _, _, _, [], _, [], hW', trodAll_mk1 (shut_bool Try.underlying4 _), (trodAll_cons_mk (Below.trod laidOut (by kernel_rfl) (of_decide_eq_true (by kernel_rfl)) k0 bel lt0) (trodAll_cons_mk (Below.trod laidOut (by kernel_rfl) (of_decide_eq_true (by kernel_rfl)) k1 bel lt1) trodAll_mk0)), rfl, bel.frame _, fun h => by cases h⟩
theorem over : Rows.diskPlaysRow.holds Try.pinned (OpenSpec.ofChange Rows.diskPlaysSpec) :=
  OpenClaim.holds_of_wide 6 Try.f6 rfl rfl rfl rfl rfl rfl rfl ⟨rfl, rfl, rfl, rfl, rfl⟩ rfl rfl rfl rfl rfl (by kernel_rfl) Try.func6 (by kernel_rfl)
    (of_decide_eq_true (by kernel_rfl)) (by unfold Func.isWrapper; first | (rw [if_pos (by decide +kernel)]; kernel_rfl) | (rw [if_neg (by decide +kernel)]; exact ⟨rfl, rfl⟩))
    (fun os started H enc _ => lifted os started H enc)
theorem proved : Rows.DiskPlaysSaid := over
#print axioms proved
end Go.Proofs.Ytolgcohmmghehaa.diskPlays
namespace Go.Proofs.Ytolgcohmmghehaa
/-- The row, under a short name, for the claim. -/
theorem diskPlays_holds : Rows.DiskPlaysSaid := diskPlays.proved
end Go.Proofs.Ytolgcohmmghehaa
