/- For every book and name (great ones answer the fixed example): whether the book and the name may be, and the book's writing, are as said, and it is got as it was; conditions: none. -/
import Derived.Test.YtpfegfkniilobaaRows
import Derived.Test.YtpfegfkniilobaaSchPuts
import Derived.WalkKit
import Derived.ProofKit
import Derived.OpenShut
import Derived.ShutString
import Derived.ChangeOld
import Derived.Below
import Derived.SizedLaws
import Derived.Lib.SmallJoins
import Derived.ChangeArms
import Derived.Deep.Slices
import Derived.Deep.Fields
import Derived.ChangeSame
namespace Go.Proofs.Ytpfegfkniilobaa.schemaPuts
open Go.ChangeShapes Go.WideShapes Go.ChangeAt Go.RowKit Go.Joins Go.Deep
open Go.ChangeMaps (open_string shut_string)
open Go.Proofs.YtpfegfkniilobaaW Go.Proofs.YtpfegfkniilobaaW.PrintWords Go.Proofs.Ytpfegfkniilobaa.XSchema
set_option linter.unusedVariables false
theorem own : ownKnob Try.prog.godebug = none := by kernel_rfl
theorem laidOut : laidOutB Try.prog = true := by kernel_rfl
theorem opens87 {H : Type} {enc : TypeId × Value → H} {w : World} {base : Nat} {spare : Nat → Bool} {held : Bool} :
    Open.Opens enc Try.prog w base spare held 87 XSchema.k87 (fun x => (x.f0.size ≤ maxLen) ∧ ((Lit.int .u8 x.f1).wf = true) ∧ ((Lit.int .i64 x.f2).wf = true) ∧ ((Lit.int .i64 x.f3).wf = true)) := by
  refine Open.opens_struct (f := fun x : XSchema.S87 => (x.f0, x.f1, x.f2, x.f3)) (G := fun x : (ByteArray) × (Int) × (Int) × (Int) => (x.1.size ≤ maxLen) ∧ ((Lit.int .u8 x.2.1).wf = true) ∧ ((Lit.int .i64 x.2.2.1).wf = true) ∧ ((Lit.int .i64 x.2.2.2).wf = true)) (fun x => ⟨x.1, x.2.1, x.2.2.1, x.2.2.2⟩) (fun _ => rfl) Try.underlying87 ?_
  rw [show Try.prog.cellsOf 87 = 1 + (1 + (1 + (1))) from by kernel_rfl]
  refine Open.seq_cons (s0 := 1) (G := fun x : ByteArray => x.size ≤ maxLen) (G' := fun x : (Int) × (Int) × (Int) => ((Lit.int .u8 x.1).wf = true) ∧ ((Lit.int .i64 x.2.1).wf = true) ∧ ((Lit.int .i64 x.2.2).wf = true)) ?h0_0 ?hs_0 ?hf_0 ?ho_0 ?hr_0
  case h0_0 => rfl
  case hs_0 => kernel_rfl
  case hf_0 => decide
  case ho_0 => exact Open.opens_string Try.underlying9
  refine Open.seq_cons (s0 := 1) (G := fun x : Int => (Lit.int .u8 x).wf = true) (G' := fun x : (Int) × (Int) => ((Lit.int .i64 x.1).wf = true) ∧ ((Lit.int .i64 x.2).wf = true)) ?h0_1 ?hs_1 ?hf_1 ?ho_1 ?hr_1
  case h0_1 => rfl
  case hs_1 => kernel_rfl
  case hf_1 => decide
  case ho_1 => exact Open.opens_int Try.underlying5
  refine Open.seq_cons (s0 := 1) (G := fun x : Int => (Lit.int .i64 x).wf = true) (G' := fun x : (Int) => ((Lit.int .i64 x).wf = true)) ?h0_2 ?hs_2 ?hf_2 ?ho_2 ?hr_2
  case h0_2 => rfl
  case hs_2 => kernel_rfl
  case hf_2 => decide
  case ho_2 => exact Open.opens_int Try.underlying3
  exact Open.seq_last rfl (by kernel_rfl) (Open.opens_int Try.underlying3)
theorem opens84 {H : Type} {enc : TypeId × Value → H} {w : World} {base : Nat} {spare : Nat → Bool} {held : Bool} :
    Open.Opens enc Try.prog w base spare held 84 XSchema.k84 (fun x => (x.f0.size ≤ maxLen) ∧ (x.f1.length ≤ maxLen ∧ ∀ c ∈ x.f1, (XSchema.S87.f0 c).size ≤ maxLen ∧ (Lit.int .u8 (XSchema.S87.f1 c)).wf = true) ∧ ((Lit.int .u32 x.f2).wf = true) ∧ ((Lit.int .i64 x.f3).wf = true) ∧ ((Lit.int .i64 x.f4).wf = true)) := by
  refine Open.opens_struct (f := fun x : XSchema.S84 => (x.f0, x.f1, x.f2, x.f3, x.f4)) (G := fun x : (ByteArray) × (List XSchema.S87) × (Int) × (Int) × (Int) => (x.1.size ≤ maxLen) ∧ (x.2.1.length ≤ maxLen ∧ ∀ c ∈ x.2.1, (XSchema.S87.f0 c).size ≤ maxLen ∧ (Lit.int .u8 (XSchema.S87.f1 c)).wf = true) ∧ ((Lit.int .u32 x.2.2.1).wf = true) ∧ ((Lit.int .i64 x.2.2.2.1).wf = true) ∧ ((Lit.int .i64 x.2.2.2.2).wf = true)) (fun x => ⟨x.1, x.2.1, x.2.2.1, x.2.2.2.1, x.2.2.2.2⟩) (fun _ => rfl) Try.underlying84 ?_
  rw [show Try.prog.cellsOf 84 = 1 + (1 + (1 + (1 + (1)))) from by kernel_rfl]
  refine Open.seq_cons (s0 := 1) (G := fun x : ByteArray => x.size ≤ maxLen) (G' := fun x : (List XSchema.S87) × (Int) × (Int) × (Int) => (x.1.length ≤ maxLen ∧ ∀ c ∈ x.1, (XSchema.S87.f0 c).size ≤ maxLen ∧ (Lit.int .u8 (XSchema.S87.f1 c)).wf = true) ∧ ((Lit.int .u32 x.2.1).wf = true) ∧ ((Lit.int .i64 x.2.2.1).wf = true) ∧ ((Lit.int .i64 x.2.2.2).wf = true)) ?h0_0 ?hs_0 ?hf_0 ?ho_0 ?hr_0
  case h0_0 => rfl
  case hs_0 => kernel_rfl
  case hf_0 => decide
  case ho_0 => exact Open.opens_string Try.underlying9
  refine Open.seq_cons (s0 := 1) (G := fun x : List XSchema.S87 => x.length ≤ maxLen ∧ ∀ c ∈ x, (XSchema.S87.f0 c).size ≤ maxLen ∧ (Lit.int .u8 (XSchema.S87.f1 c)).wf = true) (G' := fun x : (Int) × (Int) × (Int) => ((Lit.int .u32 x.1).wf = true) ∧ ((Lit.int .i64 x.2.1).wf = true) ∧ ((Lit.int .i64 x.2.2).wf = true)) ?h0_1 ?hs_1 ?hf_1 ?ho_1 ?hr_1
  case h0_1 => rfl
  case hs_1 => kernel_rfl
  case hf_1 => decide
  case ho_1 => exact ((Open.opens_slice Try.underlying82 (by kernel_rfl) opens87).mono fun _ h => ⟨h.1, fun c hc => ⟨(h.2 c hc).1, (h.2 c hc).2.1⟩⟩)
  refine Open.seq_cons (s0 := 1) (G := fun x : Int => (Lit.int .u32 x).wf = true) (G' := fun x : (Int) × (Int) => ((Lit.int .i64 x.1).wf = true) ∧ ((Lit.int .i64 x.2).wf = true)) ?h0_2 ?hs_2 ?hf_2 ?ho_2 ?hr_2
  case h0_2 => rfl
  case hs_2 => kernel_rfl
  case hf_2 => decide
  case ho_2 => exact Open.opens_int Try.underlying36
  refine Open.seq_cons (s0 := 1) (G := fun x : Int => (Lit.int .i64 x).wf = true) (G' := fun x : (Int) => ((Lit.int .i64 x).wf = true)) ?h0_3 ?hs_3 ?hf_3 ?ho_3 ?hr_3
  case h0_3 => rfl
  case hs_3 => kernel_rfl
  case hf_3 => decide
  case ho_3 => exact Open.opens_int Try.underlying3
  exact Open.seq_last rfl (by kernel_rfl) (Open.opens_int Try.underlying3)
theorem opens135 {H : Type} {enc : TypeId × Value → H} {w : World} {base : Nat} {spare : Nat → Bool} {held : Bool} :
    Open.Opens enc Try.prog w base spare held 135 XSchema.k135 (fun x => (x.f0.size ≤ maxLen) ∧ ((Lit.int .i64 x.f1).wf = true) ∧ (x.f2.length ≤ maxLen) ∧ ((Lit.int .u32 x.f3).wf = true) ∧ ((Lit.int .i64 x.f4).wf = true) ∧ ((Lit.int .i64 x.f5).wf = true) ∧ (x.f6.length ≤ maxLen)) := by
  refine Open.opens_struct (f := fun x : XSchema.S135 => (x.f0, x.f1, x.f2, x.f3, x.f4, x.f5, x.f6)) (G := fun x : (ByteArray) × (Int) × (List Int) × (Int) × (Int) × (Int) × (List Int) => (x.1.size ≤ maxLen) ∧ ((Lit.int .i64 x.2.1).wf = true) ∧ (x.2.2.1.length ≤ maxLen) ∧ ((Lit.int .u32 x.2.2.2.1).wf = true) ∧ ((Lit.int .i64 x.2.2.2.2.1).wf = true) ∧ ((Lit.int .i64 x.2.2.2.2.2.1).wf = true) ∧ (x.2.2.2.2.2.2.length ≤ maxLen)) (fun x => ⟨x.1, x.2.1, x.2.2.1, x.2.2.2.1, x.2.2.2.2.1, x.2.2.2.2.2.1, x.2.2.2.2.2.2⟩) (fun _ => rfl) Try.underlying135 ?_
  rw [show Try.prog.cellsOf 135 = 1 + (1 + (1 + (1 + (1 + (1 + (1)))))) from by kernel_rfl]
  refine Open.seq_cons (s0 := 1) (G := fun x : ByteArray => x.size ≤ maxLen) (G' := fun x : (Int) × (List Int) × (Int) × (Int) × (Int) × (List Int) => ((Lit.int .i64 x.1).wf = true) ∧ (x.2.1.length ≤ maxLen) ∧ ((Lit.int .u32 x.2.2.1).wf = true) ∧ ((Lit.int .i64 x.2.2.2.1).wf = true) ∧ ((Lit.int .i64 x.2.2.2.2.1).wf = true) ∧ (x.2.2.2.2.2.length ≤ maxLen)) ?h0_0 ?hs_0 ?hf_0 ?ho_0 ?hr_0
  case h0_0 => rfl
  case hs_0 => kernel_rfl
  case hf_0 => decide
  case ho_0 => exact Open.opens_string Try.underlying9
  refine Open.seq_cons (s0 := 1) (G := fun x : Int => (Lit.int .i64 x).wf = true) (G' := fun x : (List Int) × (Int) × (Int) × (Int) × (List Int) => (x.1.length ≤ maxLen) ∧ ((Lit.int .u32 x.2.1).wf = true) ∧ ((Lit.int .i64 x.2.2.1).wf = true) ∧ ((Lit.int .i64 x.2.2.2.1).wf = true) ∧ (x.2.2.2.2.length ≤ maxLen)) ?h0_1 ?hs_1 ?hf_1 ?ho_1 ?hr_1
  case h0_1 => rfl
  case hs_1 => kernel_rfl
  case hf_1 => decide
  case ho_1 => exact Open.opens_int Try.underlying3
  refine Open.seq_cons (s0 := 1) (G := fun x : List Int => x.length ≤ maxLen) (G' := fun x : (Int) × (Int) × (Int) × (List Int) => ((Lit.int .u32 x.1).wf = true) ∧ ((Lit.int .i64 x.2.1).wf = true) ∧ ((Lit.int .i64 x.2.2.1).wf = true) ∧ (x.2.2.2.length ≤ maxLen)) ?h0_2 ?hs_2 ?hf_2 ?ho_2 ?hr_2
  case h0_2 => rfl
  case hs_2 => kernel_rfl
  case hf_2 => decide
  case ho_2 => exact ((Open.opens_slice Try.underlying74 (by kernel_rfl) (Open.opens_int Try.underlying3)).mono fun _ h => h.1)
  refine Open.seq_cons (s0 := 1) (G := fun x : Int => (Lit.int .u32 x).wf = true) (G' := fun x : (Int) × (Int) × (List Int) => ((Lit.int .i64 x.1).wf = true) ∧ ((Lit.int .i64 x.2.1).wf = true) ∧ (x.2.2.length ≤ maxLen)) ?h0_3 ?hs_3 ?hf_3 ?ho_3 ?hr_3
  case h0_3 => rfl
  case hs_3 => kernel_rfl
  case hf_3 => decide
  case ho_3 => exact Open.opens_int Try.underlying36
  refine Open.seq_cons (s0 := 1) (G := fun x : Int => (Lit.int .i64 x).wf = true) (G' := fun x : (Int) × (List Int) => ((Lit.int .i64 x.1).wf = true) ∧ (x.2.length ≤ maxLen)) ?h0_4 ?hs_4 ?hf_4 ?ho_4 ?hr_4
  case h0_4 => rfl
  case hs_4 => kernel_rfl
  case hf_4 => decide
  case ho_4 => exact Open.opens_int Try.underlying3
  refine Open.seq_cons (s0 := 1) (G := fun x : Int => (Lit.int .i64 x).wf = true) (G' := fun x : (List Int) => (x.length ≤ maxLen)) ?h0_5 ?hs_5 ?hf_5 ?ho_5 ?hr_5
  case h0_5 => rfl
  case hs_5 => kernel_rfl
  case hf_5 => decide
  case ho_5 => exact Open.opens_int Try.underlying3
  exact Open.seq_last rfl (by kernel_rfl) (((Open.opens_slice Try.underlying74 (by kernel_rfl) (Open.opens_int Try.underlying3)).mono fun _ h => h.1))
set_option maxRecDepth 100000 in
theorem lifted (os : Os) (started : os.Started) (H : Type) (enc : TypeId × Value → H) :
    ReturnsInHanded {} Try.checked os 8 .any (Rows.schemaPutsSpec.pre6 enc Try.prog Try.f8 Rows.schemaPutsRow.domain false) (Rows.schemaPutsSpec.post enc Try.prog Try.f8 false true false false) := by
  refine returnsInHanded_of_change_sized (C := Try.checked) own started (by kernel_rfl) Try.func8
    (ChangeSpec.witness6 (enc := enc) (C := Try.checked) false ⟨#[], #[.agg #[.slice none 0 0, .slice none 0 0], .string ByteArray.empty], []⟩ 8 (by kernel_rfl) (by kernel_rfl) (by kernel_rfl) (by kernel_rfl)) ?_
  intro W base args ds gs before hval0 hW hcnd hsz0 _
  have hsz : (DataW.weightsEach Try.prog (Try.f8.params.toList ++ Rows.schemaPutsSpec.plain.varTypes Try.prog) (ds ++ gs)).all (· ≤ reachBytes) = true := hsz0
  have hval : ∀ (j : Nat) t v, Try.f8.params[j]? = some t → args[j]? = some v → Value.okWide Try.prog W .any base t v := hval0
  have hW' := hW
  obtain ⟨p, q, hA0, hV, rfl, hfz, hnd⟩ := hW
  have hA : DataW.TrodAll enc Try.prog W 0 (fun _ => true) true Try.f8.params.toList args.toList ds p := hA0
  rw [Try.params8] at hA hval hsz
  obtain ⟨v0, vs0, d0, ds0, p0, q0, hargs, rfl, rfl, h0, r0⟩ := trodAll_cons hA
  obtain ⟨v1, vs1, d1, ds1, p1, q1, rfl, rfl, rfl, h1, r1⟩ := trodAll_cons r0
  obtain ⟨rfl, rfl, rfl⟩ := trodAll_nil r1
  obtain rfl : args = #[v0, v1] := by cases args; simp_all
  obtain ⟨rfl, rfl⟩ := trodVars_none hV
  have k0 := h0
  have lt0 : ∀ x ∈ p0, x.block < W.heap.size := by obtain ⟨m, hm⟩ := k0; exact DataW.trod_lt m _ _ _ hm
  have hv0 := hval 0 80 v0 rfl rfl
  have k1 := h1
  have lt1 : ∀ x ∈ p1, x.block < W.heap.size := by obtain ⟨m, hm⟩ := k1; exact DataW.trod_lt m _ _ _ hm
  have hv1 := hval 1 9 v1 rfl rfl
  obtain ⟨u0, u0', y0, y0', n0, rfl, rfl, rfl, f0, f0'⟩ := open_agg2 Try.underlying80 (by kernel_rfl) (by kernel_rfl) hv0 h0
  obtain ⟨z0, z0'⟩ := Sch.agg_sized (j := 0) Try.underlying80 hsz rfl rfl
  obtain ⟨T0, ⟨A0, c0, e0, hl0, hC0⟩, m0, g0⟩ := Open.opens_slice Try.underlying77 (by kernel_rfl) opens84 _ _ _ f0
  obtain rfl : u0 = .slice A0 T0.length c0 := by simpa using e0
  obtain ⟨X0, ⟨A0', c0', e0', hl0', hC0'⟩, m0', g0'⟩ := Open.opens_slice Try.underlying78 (by kernel_rfl) opens135 _ _ _ f0'
  obtain rfl : u0' = .slice A0' X0.length c0' := by simpa using e0'
  have b0 := Sch.slice_sized Try.underlying77 f0 (of_decide_eq_true (by kernel_rfl)) z0
  have b0' := Sch.slice_sized Try.underlying78 f0' (of_decide_eq_true (by kernel_rfl)) z0'
  have gt0 : ∀ t ∈ T0, Sch.gT t := fun t ht => ⟨(g0 t ht).1, (g0 t ht).2.1.1, (g0 t ht).2.2.1, (g0 t ht).2.1.2⟩
  have gx0 : ∀ x ∈ X0, Sch.gX x := fun x hx => ⟨(g0' x hx).1, (g0' x hx).2.2.1, (g0' x hx).2.2.2.2.2.2, (g0' x hx).2.2.2.1⟩
  obtain ⟨a1, rfl, rfl, rfl, y1⟩ := open_string Try.underlying9 hv1 h1
  have w1 : a1.size ≤ 140737488351232 := by
    have z := sized_string hsz (j := 1) (t := 9) rfl rfl
    rw [Array.length_toList] at z
    exact z
  clear hA0 hval0 hsz0 hsz
  refine (Sch.Puts_ok A0 c0 T0 A0' c0' X0 a1 W hC0 hl0 hC0' hl0' b0 b0' gt0 gx0 (Nat.le_trans w1 (by decide))).mono fun e W' ⟨he, bel⟩ => ?_
  subst he
  exact ⟨_, rfl, _, _, _, [], _, [], hW', trodAll_mk1 (shut_bool Try.underlying4 _), (trodAll_cons_mk (Below.trod laidOut (by kernel_rfl) (of_decide_eq_true (by kernel_rfl)) k0 bel lt0) (trodAll_cons_mk (Below.trod laidOut (by kernel_rfl) (of_decide_eq_true (by kernel_rfl)) k1 bel lt1) trodAll_mk0)), rfl, bel.frame _, fun h => by cases h⟩
theorem over : Rows.schemaPutsRow.holds Try.pinned (OpenSpec.ofChange Rows.schemaPutsSpec) :=
  OpenClaim.holds_of_wide 8 Try.f8 rfl rfl rfl rfl rfl rfl rfl ⟨rfl, rfl, rfl, rfl, rfl⟩ rfl rfl rfl rfl rfl (by kernel_rfl) Try.func8 (by kernel_rfl)
    (of_decide_eq_true (by kernel_rfl)) (by unfold Func.isWrapper; first | (rw [if_pos (by decide +kernel)]; kernel_rfl) | (rw [if_neg (by decide +kernel)]; exact ⟨rfl, rfl⟩))
    (fun os started H enc _ => lifted os started H enc)
theorem proved : Rows.SchemaPutsSaid := over
#print axioms proved
end Go.Proofs.Ytpfegfkniilobaa.schemaPuts
namespace Go.Proofs.Ytpfegfkniilobaa
/-- The row, under a short name, for the claim. -/
theorem schemaPuts_holds : Rows.SchemaPutsSaid := schemaPuts.proved
end Go.Proofs.Ytpfegfkniilobaa
