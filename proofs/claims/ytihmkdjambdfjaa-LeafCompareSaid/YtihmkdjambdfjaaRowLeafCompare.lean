/- For any three entries (great ones answer the fixed example) how two of them stand is what the reference tells, turned round it is the other way, and three stand in a row; conditions: none. -/
import Derived.Test.YtihmkdjambdfjaaRows
import Derived.Test.YtihmkdjambdfjaaPureLeafA
import Derived.Test.YtihmkdjambdfjaaOpen
import Derived.WalkKit
import Derived.ProofKit
import Derived.OpenShut
import Derived.ShutString
import Derived.ChangeOld
import Derived.Below
import Derived.SizedLaws
import Derived.Lib.SmallJoins
import Derived.ChangeArms
import Derived.Deep.Slices
import Derived.Deep.Fields
import Derived.ChangeSame
namespace Go.Proofs.Ytihmkdjambdfjaa.leafCompare
open Go.ChangeShapes Go.WideShapes Go.ChangeAt Go.RowKit Go.Joins Go.Deep
open Go.ChangeMaps (open_string shut_string)
open Go.Proofs.YtihmkdjambdfjaaW Go.Proofs.YtihmkdjambdfjaaW.PrintWords Go.Proofs.Ytihmkdjambdfjaa.XLeaf
set_option linter.unusedVariables false
theorem own : ownKnob Try.prog.godebug = none := by kernel_rfl
theorem laidOut : laidOutB Try.prog = true := by kernel_rfl
theorem opens25 {H : Type} {enc : TypeId × Value → H} {w : World} {base : Nat} {spare : Nat → Bool} {held : Bool} :
    Open.Opens enc Try.prog w base spare held 25 XLeaf.k25 (fun x => ((Lit.int .u32 x.f0).wf = true) ∧ ((Lit.int .u16 x.f1).wf = true)) := by
  refine Open.opens_struct (f := fun x : XLeaf.S25 => (x.f0, x.f1)) (G := fun x : (Int) × (Int) => ((Lit.int .u32 x.1).wf = true) ∧ ((Lit.int .u16 x.2).wf = true)) (fun x => ⟨x.1, x.2⟩) (fun _ => rfl) Try.underlying25 ?_
  rw [show Try.prog.cellsOf 25 = 1 + (1) from by kernel_rfl]
  refine Open.seq_cons (s0 := 1) (G := fun x : Int => (Lit.int .u32 x).wf = true) (G' := fun x : (Int) => ((Lit.int .u16 x).wf = true)) ?h0_0 ?hs_0 ?hf_0 ?ho_0 ?hr_0
  case h0_0 => rfl
  case hs_0 => kernel_rfl
  case hf_0 => decide
  case ho_0 => exact Open.opens_int Try.underlying22
  exact Open.seq_last rfl (by kernel_rfl) (Open.opens_int Try.underlying23)
theorem opens27 {H : Type} {enc : TypeId × Value → H} {w : World} {base : Nat} {spare : Nat → Bool} {held : Bool} :
    Open.Opens enc Try.prog w base spare held 27 XLeaf.k27 (fun x => (x.f0.size ≤ maxLen) ∧ (((Lit.int .u32 (XLeaf.S25.f0 x.f1)).wf = true) ∧ ((Lit.int .u16 (XLeaf.S25.f1 x.f1)).wf = true))) := by
  refine Open.opens_struct (f := fun x : XLeaf.S27 => (x.f0, x.f1)) (G := fun x : (ByteArray) × (XLeaf.S25) => (x.1.size ≤ maxLen) ∧ (((Lit.int .u32 (XLeaf.S25.f0 x.2)).wf = true) ∧ ((Lit.int .u16 (XLeaf.S25.f1 x.2)).wf = true))) (fun x => ⟨x.1, x.2⟩) (fun _ => rfl) Try.underlying27 ?_
  rw [show Try.prog.cellsOf 27 = 1 + (2) from by kernel_rfl]
  refine Open.seq_cons (s0 := 1) (G := fun x : ByteArray => x.size ≤ maxLen) (G' := fun x : (XLeaf.S25) => (((Lit.int .u32 (XLeaf.S25.f0 x)).wf = true) ∧ ((Lit.int .u16 (XLeaf.S25.f1 x)).wf = true))) ?h0_0 ?hs_0 ?hf_0 ?ho_0 ?hr_0
  case h0_0 => rfl
  case hs_0 => kernel_rfl
  case hf_0 => decide
  case ho_0 => exact Open.opens_string Try.underlying9
  exact Open.seq_last rfl (by kernel_rfl) (opens25)
set_option maxRecDepth 100000 in
theorem lifted (os : Os) (started : os.Started) (H : Type) (enc : TypeId × Value → H) :
    ReturnsInHanded {} Try.checked os 3 .any (Rows.leafCompareSpec.pre6 enc Try.prog Try.f3 Rows.leafCompareRow.domain false) (Rows.leafCompareSpec.post enc Try.prog Try.f3 false true false false) := by
  refine returnsInHanded_of_change_sized (C := Try.checked) own started (by kernel_rfl) Try.func3
    (ChangeSpec.witness6 (enc := enc) (C := Try.checked) false ⟨#[], #[.agg #[.string ByteArray.empty, .int .u32 0, .int .u16 0], .agg #[.string ByteArray.empty, .int .u32 0, .int .u16 0], .agg #[.string ByteArray.empty, .int .u32 0, .int .u16 0]], []⟩ 8 (by kernel_rfl) (by kernel_rfl) (by kernel_rfl) (by kernel_rfl)) ?_
  intro W base args ds gs before hval0 hW hcnd hsz0 _
  have hsz : (DataW.weightsEach Try.prog (Try.f3.params.toList ++ Rows.leafCompareSpec.plain.varTypes Try.prog) (ds ++ gs)).all (· ≤ reachBytes) = true := hsz0
  have hval : ∀ (j : Nat) t v, Try.f3.params[j]? = some t → args[j]? = some v → Value.okWide Try.prog W .any base t v := hval0
  have hW' := hW
  obtain ⟨p, q, hA0, hV, rfl, hfz, hnd⟩ := hW
  have hA : DataW.TrodAll enc Try.prog W 0 (fun _ => true) true Try.f3.params.toList args.toList ds p := hA0
  rw [Try.params3] at hA hval hsz
  obtain ⟨v0, vs0, d0, ds0, p0, q0, hargs, rfl, rfl, h0, r0⟩ := trodAll_cons hA
  obtain ⟨v1, vs1, d1, ds1, p1, q1, rfl, rfl, rfl, h1, r1⟩ := trodAll_cons r0
  obtain ⟨v2, vs2, d2, ds2, p2, q2, rfl, rfl, rfl, h2, r2⟩ := trodAll_cons r1
  obtain ⟨rfl, rfl, rfl⟩ := trodAll_nil r2
  obtain rfl : args = #[v0, v1, v2] := by cases args; simp_all
  obtain ⟨rfl, rfl⟩ := trodVars_none hV
  have k0 := h0
  have lt0 : ∀ x ∈ p0, x.block < W.heap.size := by obtain ⟨m, hm⟩ := k0; exact DataW.trod_lt m _ _ _ hm
  have hv0 := hval 0 27 v0 rfl rfl
  have k1 := h1
  have lt1 : ∀ x ∈ p1, x.block < W.heap.size := by obtain ⟨m, hm⟩ := k1; exact DataW.trod_lt m _ _ _ hm
  have hv1 := hval 1 27 v1 rfl rfl
  have k2 := h2
  have lt2 : ∀ x ∈ p2, x.block < W.heap.size := by obtain ⟨m, hm⟩ := k2; exact DataW.trod_lt m _ _ _ hm
  have hv2 := hval 2 27 v2 rfl rfl
  obtain ⟨cs0, rfl, _⟩ := okWide_struct Try.underlying27 hv0
  obtain ⟨n0, f0⟩ := h0
  obtain ⟨x0, K0, G0⟩ := opens27 _ _ _ f0
  obtain rfl : cs0 = #[.string x0.f0, .int .u32 x0.f1.f0, .int .u16 x0.f1.f1] := Array.toList_inj.1 (XLeaf.k27_open K0)
  obtain ⟨cs1, rfl, _⟩ := okWide_struct Try.underlying27 hv1
  obtain ⟨n1, f1⟩ := h1
  obtain ⟨x1, K1, G1⟩ := opens27 _ _ _ f1
  obtain rfl : cs1 = #[.string x1.f0, .int .u32 x1.f1.f0, .int .u16 x1.f1.f1] := Array.toList_inj.1 (XLeaf.k27_open K1)
  obtain ⟨cs2, rfl, _⟩ := okWide_struct Try.underlying27 hv2
  obtain ⟨n2, f2⟩ := h2
  obtain ⟨x2, K2, G2⟩ := opens27 _ _ _ f2
  obtain rfl : cs2 = #[.string x2.f0, .int .u32 x2.f1.f0, .int .u16 x2.f1.f1] := Array.toList_inj.1 (XLeaf.k27_open K2)
  clear hA0 hval0 hsz0 hsz
  refine (XLeaf.rowlocklaw10_LeafCompare.calls _ x0.f0 x0.f1.f0 x0.f1.f1 x1.f0 x1.f1.f0 x1.f1.f1 x2.f0 x2.f1.f0 x2.f1.f1 true W (PureL.LeafCompare x0 x1 x2).choose_spec).mono fun e W' ⟨he, bel⟩ => ?_
  subst he
  exact ⟨_, rfl, _, _, _, [], _, [], hW', trodAll_mk1 (shut_bool Try.underlying4 _), (trodAll_cons_mk (Below.trod laidOut (by kernel_rfl) (of_decide_eq_true (by kernel_rfl)) k0 bel lt0) (trodAll_cons_mk (Below.trod laidOut (by kernel_rfl) (of_decide_eq_true (by kernel_rfl)) k1 bel lt1) (trodAll_cons_mk (Below.trod laidOut (by kernel_rfl) (of_decide_eq_true (by kernel_rfl)) k2 bel lt2) trodAll_mk0))), rfl, bel.frame _, fun h => by cases h⟩
theorem over : Rows.leafCompareRow.holds Try.pinned (OpenSpec.ofChange Rows.leafCompareSpec) :=
  OpenClaim.holds_of_wide 3 Try.f3 rfl rfl rfl rfl rfl rfl rfl ⟨rfl, rfl, rfl, rfl, rfl⟩ rfl rfl rfl rfl rfl (by kernel_rfl) Try.func3 (by kernel_rfl)
    (of_decide_eq_true (by kernel_rfl)) (by unfold Func.isWrapper; first | (rw [if_pos (by decide +kernel)]; kernel_rfl) | (rw [if_neg (by decide +kernel)]; exact ⟨rfl, rfl⟩))
    (fun os started H enc _ => lifted os started H enc)
theorem proved : Rows.LeafCompareSaid := over
#print axioms proved
end Go.Proofs.Ytihmkdjambdfjaa.leafCompare
namespace Go.Proofs.Ytihmkdjambdfjaa
/-- The row, under a short name, for the claim. -/
theorem leafCompare_holds : Rows.LeafCompareSaid := leafCompare.proved
end Go.Proofs.Ytihmkdjambdfjaa
