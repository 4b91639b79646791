/- For every row of values (great ones answer the fixed example) its writing is what the reference tells, or it is refused as there, its size is the writing's length, and it is read as it was; conditions: none. -/
import Derived.Test.YtegegpdaalfbdaaRows
import Derived.Test.YtegegpdaalfbdaaPureRowcodePuts
import Derived.Test.YtegegpdaalfbdaaOpen
import Derived.WalkKit
import Derived.ProofKit
import Derived.OpenShut
import Derived.ShutString
import Derived.ChangeOld
import Derived.Below
import Derived.SizedLaws
import Derived.Lib.SmallJoins
import Derived.ChangeArms
import Derived.Deep.Slices
import Derived.Deep.Fields
import Derived.ChangeSame
namespace Go.Proofs.Ytegegpdaalfbdaa.rowcodePuts
open Go.ChangeShapes Go.WideShapes Go.ChangeAt Go.RowKit Go.Joins Go.Deep
open Go.ChangeMaps (open_string shut_string)
open Go.Proofs.YtegegpdaalfbdaaW Go.Proofs.YtegegpdaalfbdaaW.PrintWords
set_option linter.unusedVariables false
theorem own : ownKnob Try.prog.godebug = none := by kernel_rfl
theorem laidOut : laidOutB Try.prog = true := by kernel_rfl
theorem opens36 {H : Type} {enc : TypeId × Value → H} {w : World} {base : Nat} {spare : Nat → Bool} {held : Bool} :
    Open.Opens enc Try.prog w base spare held 36 XRowcodePuts.k36 (fun x => ((Lit.int .u8 x.f0).wf = true) ∧ ((Lit.int .i64 x.f1).wf = true) ∧ (x.f2.size ≤ maxLen)) := by
  refine Open.opens_struct (f := fun x : XRowcodePuts.S36 => (x.f0, x.f1, x.f2)) (G := fun x : (Int) × (Int) × (ByteArray) => ((Lit.int .u8 x.1).wf = true) ∧ ((Lit.int .i64 x.2.1).wf = true) ∧ (x.2.2.size ≤ maxLen)) (fun x => ⟨x.1, x.2.1, x.2.2⟩) (fun _ => rfl) Try.underlying36 ?_
  rw [show Try.prog.cellsOf 36 = 1 + (1 + (1)) from by kernel_rfl]
  refine Open.seq_cons (s0 := 1) (G := fun x : Int => (Lit.int .u8 x).wf = true) (G' := fun x : (Int) × (ByteArray) => ((Lit.int .i64 x.1).wf = true) ∧ (x.2.size ≤ maxLen)) ?h0_0 ?hs_0 ?hf_0 ?ho_0 ?hr_0
  case h0_0 => rfl
  case hs_0 => kernel_rfl
  case hf_0 => decide
  case ho_0 => exact Open.opens_int Try.underlying5
  refine Open.seq_cons (s0 := 1) (G := fun x : Int => (Lit.int .i64 x).wf = true) (G' := fun x : (ByteArray) => (x.size ≤ maxLen)) ?h0_1 ?hs_1 ?hf_1 ?ho_1 ?hr_1
  case h0_1 => rfl
  case hs_1 => kernel_rfl
  case hf_1 => decide
  case ho_1 => exact Open.opens_int Try.underlying2
  exact Open.seq_last rfl (by kernel_rfl) (Open.opens_string Try.underlying9)
set_option maxRecDepth 100000 in
theorem lifted (os : Os) (started : os.Started) (H : Type) (enc : TypeId × Value → H) :
    ReturnsInHanded {} Try.checked os 10 .any (Rows.rowcodePutsSpec.pre6 enc Try.prog Try.f10 Rows.rowcodePutsRow.domain false) (Rows.rowcodePutsSpec.post enc Try.prog Try.f10 false true false false) := by
  refine returnsInHanded_of_change_sized (C := Try.checked) own started (by kernel_rfl) Try.func10
    (ChangeSpec.witness6 (enc := enc) (C := Try.checked) false ⟨#[], #[.slice none 0 0], []⟩ 8 (by kernel_rfl) (by kernel_rfl) (by kernel_rfl) (by kernel_rfl)) ?_
  intro W base args ds gs before hval0 hW hcnd hsz0 _
  have hsz : (DataW.weightsEach Try.prog (Try.f10.params.toList ++ Rows.rowcodePutsSpec.plain.varTypes Try.prog) (ds ++ gs)).all (· ≤ reachBytes) = true := hsz0
  have hval : ∀ (j : Nat) t v, Try.f10.params[j]? = some t → args[j]? = some v → Value.okWide Try.prog W .any base t v := hval0
  have hW' := hW
  obtain ⟨p, q, hA0, hV, rfl, hfz, hnd⟩ := hW
  have hA : DataW.TrodAll enc Try.prog W 0 (fun _ => true) true Try.f10.params.toList args.toList ds p := hA0
  rw [Try.params10] at hA hval hsz
  obtain ⟨v0, vs0, d0, ds0, p0, q0, hargs, rfl, rfl, h0, r0⟩ := trodAll_cons hA
  obtain ⟨rfl, rfl, rfl⟩ := trodAll_nil r0
  obtain rfl : args = #[v0] := by cases args; simp_all
  obtain ⟨rfl, rfl⟩ := trodVars_none hV
  have k0 := h0
  have lt0 : ∀ x ∈ p0, x.block < W.heap.size := by obtain ⟨m, hm⟩ := k0; exact DataW.trod_lt m _ _ _ hm
  have hv0 := hval 0 43 v0 rfl rfl
  obtain ⟨A0, c0, l0, rfl, hl0, hC0, hm0, hG0⟩ := Open.open_rows Try.underlying43 (by kernel_rfl) (opens36) hv0 h0
  clear hA0 hval0 hsz0 hsz
  refine (XRowcodePuts.rowlocklaw04_RowcodePuts.calls _ A0 c0 l0 true W hC0 hl0 (PureP.RowcodePuts_wf l0 hm0 hG0).choose_spec).mono fun e W' ⟨he, bel⟩ => ?_
  subst he
  exact ⟨_, rfl, _, _, _, [], _, [], hW', trodAll_mk1 (shut_bool Try.underlying4 _), (trodAll_cons_mk (Below.trod laidOut (by kernel_rfl) (of_decide_eq_true (by kernel_rfl)) k0 bel lt0) trodAll_mk0), rfl, bel.frame _, fun h => by cases h⟩
theorem over : Rows.rowcodePutsRow.holds Try.pinned (OpenSpec.ofChange Rows.rowcodePutsSpec) :=
  OpenClaim.holds_of_wide 10 Try.f10 rfl rfl rfl rfl rfl rfl rfl ⟨rfl, rfl, rfl, rfl, rfl⟩ rfl rfl rfl rfl rfl (by kernel_rfl) Try.func10 (by kernel_rfl)
    (of_decide_eq_true (by kernel_rfl)) (by unfold Func.isWrapper; first | (rw [if_pos (by decide +kernel)]; kernel_rfl) | (rw [if_neg (by decide +kernel)]; exact ⟨rfl, rfl⟩))
    (fun os started H enc _ => lifted os started H enc)
theorem proved : Rows.RowcodePutsSaid := over
#print axioms proved
end Go.Proofs.Ytegegpdaalfbdaa.rowcodePuts
namespace Go.Proofs.Ytegegpdaalfbdaa
/-- The row, under a short name, for the claim. -/
theorem rowcodePuts_holds : Rows.RowcodePutsSaid := rowcodePuts.proved
end Go.Proofs.Ytegegpdaalfbdaa
