/- For any entries, put as a leaf or an inner page, spoilt and cut as told (great ones answer the fixed example): what the bytes are as a page is what the reference tells, and it is put as it stood; conditions: none. -/
import Derived.Test.YtihmkdjambdfjaaRows
import Derived.Test.YtihmkdjambdfjaaLfRm
import Derived.Test.YtihmkdjambdfjaaOpen
import Derived.WalkKit
import Derived.ProofKit
import Derived.OpenShut
import Derived.ShutString
import Derived.ChangeOld
import Derived.Below
import Derived.SizedLaws
import Derived.Lib.SmallJoins
import Derived.ChangeArms
import Derived.Deep.Slices
import Derived.Deep.Fields
import Derived.ChangeSame
namespace Go.Proofs.Ytihmkdjambdfjaa.leafGets
open Go.ChangeShapes Go.WideShapes Go.ChangeAt Go.RowKit Go.Joins Go.Deep
open Go.ChangeMaps (open_string shut_string)
open Go.Proofs.YtihmkdjambdfjaaW Go.Proofs.YtihmkdjambdfjaaW.PrintWords Go.Proofs.Ytihmkdjambdfjaa.XLeaf
set_option linter.unusedVariables false
theorem own : ownKnob Try.prog.godebug = none := by kernel_rfl
theorem laidOut : laidOutB Try.prog = true := by kernel_rfl
theorem opens25 {H : Type} {enc : TypeId × Value → H} {w : World} {base : Nat} {spare : Nat → Bool} {held : Bool} :
    Open.Opens enc Try.prog w base spare held 25 XLeaf.k25 (fun x => ((Lit.int .u32 x.f0).wf = true) ∧ ((Lit.int .u16 x.f1).wf = true)) := by
  refine Open.opens_struct (f := fun x : XLeaf.S25 => (x.f0, x.f1)) (G := fun x : (Int) × (Int) => ((Lit.int .u32 x.1).wf = true) ∧ ((Lit.int .u16 x.2).wf = true)) (fun x => ⟨x.1, x.2⟩) (fun _ => rfl) Try.underlying25 ?_
  rw [show Try.prog.cellsOf 25 = 1 + (1) from by kernel_rfl]
  refine Open.seq_cons (s0 := 1) (G := fun x : Int => (Lit.int .u32 x).wf = true) (G' := fun x : (Int) => ((Lit.int .u16 x).wf = true)) ?h0_0 ?hs_0 ?hf_0 ?ho_0 ?hr_0
  case h0_0 => rfl
  case hs_0 => kernel_rfl
  case hf_0 => decide
  case ho_0 => exact Open.opens_int Try.underlying22
  exact Open.seq_last rfl (by kernel_rfl) (Open.opens_int Try.underlying23)
theorem opens27 {H : Type} {enc : TypeId × Value → H} {w : World} {base : Nat} {spare : Nat → Bool} {held : Bool} :
    Open.Opens enc Try.prog w base spare held 27 XLeaf.k27 (fun x => (x.f0.size ≤ maxLen) ∧ (((Lit.int .u32 (XLeaf.S25.f0 x.f1)).wf = true) ∧ ((Lit.int .u16 (XLeaf.S25.f1 x.f1)).wf = true))) := by
  refine Open.opens_struct (f := fun x : XLeaf.S27 => (x.f0, x.f1)) (G := fun x : (ByteArray) × (XLeaf.S25) => (x.1.size ≤ maxLen) ∧ (((Lit.int .u32 (XLeaf.S25.f0 x.2)).wf = true) ∧ ((Lit.int .u16 (XLeaf.S25.f1 x.2)).wf = true))) (fun x => ⟨x.1, x.2⟩) (fun _ => rfl) Try.underlying27 ?_
  rw [show Try.prog.cellsOf 27 = 1 + (2) from by kernel_rfl]
  refine Open.seq_cons (s0 := 1) (G := fun x : ByteArray => x.size ≤ maxLen) (G' := fun x : (XLeaf.S25) => (((Lit.int .u32 (XLeaf.S25.f0 x)).wf = true) ∧ ((Lit.int .u16 (XLeaf.S25.f1 x)).wf = true))) ?h0_0 ?hs_0 ?hf_0 ?ho_0 ?hr_0
  case h0_0 => rfl
  case hs_0 => kernel_rfl
  case hf_0 => decide
  case ho_0 => exact Open.opens_string Try.underlying9
  exact Open.seq_last rfl (by kernel_rfl) (opens25)
theorem wf16 {n : Int} (h : (Lit.int .u16 n).wf = true) : 0 ≤ n ∧ n < 65536 := by
  simp [Lit.wf, IntKind.min, IntKind.max, IntKind.signed, IntKind.bits] at h
  omega
theorem wf32 {n : Int} (h : (Lit.int .u32 n).wf = true) : 0 ≤ n ∧ n < 4294967296 := by
  simp [Lit.wf, IntKind.min, IntKind.max, IntKind.signed, IntKind.bits] at h
  omega
theorem wf8 {n : Int} (h : (Lit.int .u8 n).wf = true) : 0 ≤ n ∧ n ≤ 255 := by
  simp [Lit.wf, IntKind.min, IntKind.max, IntKind.signed, IntKind.bits] at h
  omega
set_option maxRecDepth 100000 in
theorem lifted (os : Os) (started : os.Started) (H : Type) (enc : TypeId × Value → H) :
    ReturnsInHanded {} Try.checked os 7 .any (Rows.leafGetsSpec.pre6 enc Try.prog Try.f7 Rows.leafGetsRow.domain false) (Rows.leafGetsSpec.post enc Try.prog Try.f7 false true false false) := by
  refine returnsInHanded_of_change_sized (C := Try.checked) own started (by kernel_rfl) Try.func7
    (ChangeSpec.witness6 (enc := enc) (C := Try.checked) false ⟨#[], #[.slice none 0 0, .bool false, .slice none 0 0, .slice none 0 0, .int .i64 0], []⟩ 8 (by kernel_rfl) (by kernel_rfl) (by kernel_rfl) (by kernel_rfl)) ?_
  intro W base args ds gs before hval0 hW hcnd hsz0 _
  have hsz : (DataW.weightsEach Try.prog (Try.f7.params.toList ++ Rows.leafGetsSpec.plain.varTypes Try.prog) (ds ++ gs)).all (· ≤ reachBytes) = true := hsz0
  have hval : ∀ (j : Nat) t v, Try.f7.params[j]? = some t → args[j]? = some v → Value.okWide Try.prog W .any base t v := hval0
  have hW' := hW
  obtain ⟨p, q, hA0, hV, rfl, hfz, hnd⟩ := hW
  have hA : DataW.TrodAll enc Try.prog W 0 (fun _ => true) true Try.f7.params.toList args.toList ds p := hA0
  rw [Try.params7] at hA hval hsz
  obtain ⟨v0, vs0, d0, ds0, p0, q0, hargs, rfl, rfl, h0, r0⟩ := trodAll_cons hA
  obtain ⟨v1, vs1, d1, ds1, p1, q1, rfl, rfl, rfl, h1, r1⟩ := trodAll_cons r0
  obtain ⟨v2, vs2, d2, ds2, p2, q2, rfl, rfl, rfl, h2, r2⟩ := trodAll_cons r1
  obtain ⟨v3, vs3, d3, ds3, p3, q3, rfl, rfl, rfl, h3, r3⟩ := trodAll_cons r2
  obtain ⟨v4, vs4, d4, ds4, p4, q4, rfl, rfl, rfl, h4, r4⟩ := trodAll_cons r3
  obtain ⟨rfl, rfl, rfl⟩ := trodAll_nil r4
  obtain rfl : args = #[v0, v1, v2, v3, v4] := by cases args; simp_all
  obtain ⟨rfl, rfl⟩ := trodVars_none hV
  have k0 := h0
  have lt0 : ∀ x ∈ p0, x.block < W.heap.size := by obtain ⟨m, hm⟩ := k0; exact DataW.trod_lt m _ _ _ hm
  have hv0 := hval 0 29 v0 rfl rfl
  have k1 := h1
  have lt1 : ∀ x ∈ p1, x.block < W.heap.size := by obtain ⟨m, hm⟩ := k1; exact DataW.trod_lt m _ _ _ hm
  have hv1 := hval 1 4 v1 rfl rfl
  have k2 := h2
  have lt2 : ∀ x ∈ p2, x.block < W.heap.size := by obtain ⟨m, hm⟩ := k2; exact DataW.trod_lt m _ _ _ hm
  have hv2 := hval 2 55 v2 rfl rfl
  have k3 := h3
  have lt3 : ∀ x ∈ p3, x.block < W.heap.size := by obtain ⟨m, hm⟩ := k3; exact DataW.trod_lt m _ _ _ hm
  have hv3 := hval 3 36 v3 rfl rfl
  have k4 := h4
  have lt4 : ∀ x ∈ p4, x.block < W.heap.size := by obtain ⟨m, hm⟩ := k4; exact DataW.trod_lt m _ _ _ hm
  have hv4 := hval 4 3 v4 rfl rfl
  obtain ⟨A0, c0, l0, rfl, hl0, hC0, hm0, hG0⟩ := Open.open_rows Try.underlying29 (by kernel_rfl) (opens27) hv0 h0
  obtain ⟨a1, rfl, rfl, rfl⟩ := open_bool Try.underlying4 hv1 h1
  obtain ⟨A2, c2, l2, rfl, hl2, hC2, hm2, hG2⟩ := Open.open_rows Try.underlying55 (by kernel_rfl) (Open.opens_int Try.underlying23) hv2 h2
  obtain ⟨A3, c3, l3, rfl, hl3, hC3, hm3, hG3⟩ := Open.open_rows Try.underlying36 (by kernel_rfl) (Open.opens_int Try.underlying5) hv3 h3
  obtain ⟨a4, rfl, rfl, rfl, w4⟩ := open_int Try.underlying3 hv4 h4
  clear hA0 hval0 hsz0 hsz
  refine (PureL.LeafGets_ok A0 c0 l0 a1 A2 c2 l2 A3 c3 l3 a4 W hC0 hl0 (by unfold maxLen at hm0; omega) (fun x hx => ⟨(wf32 (hG0 x hx).2.1).1, (wf32 (hG0 x hx).2.1).2, (wf16 (hG0 x hx).2.2).1, (wf16 (hG0 x hx).2.2).2⟩) hC2 hC3 (fun x hx => wf16 (hG2 x hx)) (fun x hx => wf8 (hG3 x hx))).mono fun e W' ⟨he, bel⟩ => ?_
  subst he
  exact ⟨_, rfl, _, _, _, [], _, [], hW', trodAll_mk1 (shut_bool Try.underlying4 _), (trodAll_cons_mk (Below.trod laidOut (by kernel_rfl) (of_decide_eq_true (by kernel_rfl)) k0 bel lt0) (trodAll_cons_mk (Below.trod laidOut (by kernel_rfl) (of_decide_eq_true (by kernel_rfl)) k1 bel lt1) (trodAll_cons_mk (Below.trod laidOut (by kernel_rfl) (of_decide_eq_true (by kernel_rfl)) k2 bel lt2) (trodAll_cons_mk (Below.trod laidOut (by kernel_rfl) (of_decide_eq_true (by kernel_rfl)) k3 bel lt3) (trodAll_cons_mk (Below.trod laidOut (by kernel_rfl) (of_decide_eq_true (by kernel_rfl)) k4 bel lt4) trodAll_mk0))))), rfl, bel.frame _, fun h => by cases h⟩
theorem over : Rows.leafGetsRow.holds Try.pinned (OpenSpec.ofChange Rows.leafGetsSpec) :=
  OpenClaim.holds_of_wide 7 Try.f7 rfl rfl rfl rfl rfl rfl rfl ⟨rfl, rfl, rfl, rfl, rfl⟩ rfl rfl rfl rfl rfl (by kernel_rfl) Try.func7 (by kernel_rfl)
    (of_decide_eq_true (by kernel_rfl)) (by unfold Func.isWrapper; first | (rw [if_pos (by decide +kernel)]; kernel_rfl) | (rw [if_neg (by decide +kernel)]; exact ⟨rfl, rfl⟩))
    (fun os started H enc _ => lifted os started H enc)
theorem proved : Rows.LeafGetsSaid := over
#print axioms proved
end Go.Proofs.Ytihmkdjambdfjaa.leafGets
namespace Go.Proofs.Ytihmkdjambdfjaa
/-- The row, under a short name, for the claim. -/
theorem leafGets_holds : Rows.LeafGetsSaid := leafGets.proved
end Go.Proofs.Ytihmkdjambdfjaa
