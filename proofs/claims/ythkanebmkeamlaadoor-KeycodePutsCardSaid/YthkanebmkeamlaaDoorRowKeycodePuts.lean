/- For any row (great ones answer the fixed examples) the key is the reference's and is got as it was; conditions: the listed library variables read as Go's text lays them. -/
import Derived.Test.YthkanebmkeamlaaDoorRows
import Derived.Test.YthkanebmkeamlaaDoorPkPm
import Derived.Test.YthkanebmkeamlaaDoorRwA
import Derived.Test.YthkanebmkeamlaaDoorOpen
import Derived.Test.YthkanebmkeamlaaDoorTie
import Derived.Test.YthkanebmkeamlaaDoorCards
import Derived.WalkKit
import Derived.ProofKit
import Derived.OpenShut
import Derived.ShutString
import Derived.ChangeOld
import Derived.Below
import Derived.SizedLaws
import Derived.Lib.SmallJoins
import Derived.ChangeArms
import Derived.Deep.Slices
import Derived.Deep.Fields
import Derived.ChangeSame
import Derived.Lay
import Derived.SevenTiedAt
import Derived.Stop.Joined
namespace Go.Proofs.YthkanebmkeamlaaDoor.keycodePuts
open Go.ChangeShapes Go.WideShapes Go.ChangeAt Go.RowKit Go.Joins Go.Deep
open Go.ChangeMaps (open_string shut_string)
open Go.Proofs.YthkanebmkeamlaaDoorW Go.Proofs.YthkanebmkeamlaaDoorW.PrintWords Go.Proofs.YthkanebmkeamlaaDoor.XKey
set_option linter.unusedVariables false
theorem own : ownKnob Tryd.prog.godebug = none := by kernel_rfl
theorem laidOut : laidOutB Tryd.prog = true := by kernel_rfl
theorem opens34 {H : Type} {enc : TypeId × Value → H} {w : World} {base : Nat} {spare : Nat → Bool} {held : Bool} :
    Open.Opens enc Tryd.prog w base spare held 34 XKey.k34 (fun x => ((Lit.int .u8 x.f0).wf = true) ∧ ((Lit.int .i64 x.f1).wf = true) ∧ (x.f2.size ≤ maxLen)) := by
  refine Open.opens_struct (f := fun x : XKey.S34 => (x.f0, x.f1, x.f2)) (G := fun x : (Int) × (Int) × (ByteArray) => ((Lit.int .u8 x.1).wf = true) ∧ ((Lit.int .i64 x.2.1).wf = true) ∧ (x.2.2.size ≤ maxLen)) (fun x => ⟨x.1, x.2.1, x.2.2⟩) (fun _ => rfl) Tryd.underlying34 ?_
  rw [show Tryd.prog.cellsOf 34 = 1 + (1 + (1)) from by kernel_rfl]
  refine Open.seq_cons (s0 := 1) (G := fun x : Int => (Lit.int .u8 x).wf = true) (G' := fun x : (Int) × (ByteArray) => ((Lit.int .i64 x.1).wf = true) ∧ (x.2.size ≤ maxLen)) ?h0_0 ?hs_0 ?hf_0 ?ho_0 ?hr_0
  case h0_0 => rfl
  case hs_0 => kernel_rfl
  case hf_0 => decide
  case ho_0 => exact Open.opens_int Tryd.underlying5
  refine Open.seq_cons (s0 := 1) (G := fun x : Int => (Lit.int .i64 x).wf = true) (G' := fun x : (ByteArray) => (x.size ≤ maxLen)) ?h0_1 ?hs_1 ?hf_1 ?ho_1 ?hr_1
  case h0_1 => rfl
  case hs_1 => kernel_rfl
  case hf_1 => decide
  case ho_1 => exact Open.opens_int Tryd.underlying2
  exact Open.seq_last rfl (by kernel_rfl) (Open.opens_string Tryd.underlying9)
theorem rng_of {x : XKey.S34} (h : ((Lit.int .u8 x.f0).wf = true) ∧ ((Lit.int .i64 x.f1).wf = true) ∧ (x.f2.size ≤ maxLen)) : Ky.rng x := by
  obtain ⟨h0, h1, _⟩ := h
  simp [Lit.wf, IntKind.min, IntKind.max, IntKind.signed, IntKind.bits] at h0 h1
  exact ⟨h0.1, by omega, by omega, by omega⟩
theorem wf8 {n : Int} (h : (Lit.int .u8 n).wf = true) : 0 ≤ n ∧ n ≤ 255 := by
  simp [Lit.wf, IntKind.min, IntKind.max, IntKind.signed, IntKind.bits] at h
  omega
set_option maxRecDepth 100000 in
theorem lifted (os : Os) (started : os.Started) (H : Type) (enc : TypeId × Value → H) :
    ReturnsInHanded {} Tryd.checked os 7 .any (fun w args => (Rows.keycodePutsSpec.pre enc Tryd.prog Tryd.f7 Rows.keycodePutsRow.domain false w args ∧ laidMetH Tryd.prog laidL w) ∧ sizedMet enc Tryd.prog Tryd.f7 (OpenSpec.ofChange Rows.keycodePutsSpec) false w args)
      (Rows.keycodePutsSpec.post enc Tryd.prog Tryd.f7 false true false false) := by
  refine wrap_laid (C := Tryd.checked) (X := fun w _ => laidMetH Tryd.prog laidL w) own started (by kernel_rfl) Tryd.func7
    (ChangeSpec.witness_shaped (enc := enc) (C := Tryd.checked) (os := os) (X := fun w _ => laidMetH Tryd.prog laidL w) false (World.laidAll Tryd.prog os laidL) #[.slice none 0 0] 8 (World.laidAll_os _ _ _) (door_shaped os _) (by kernel_rfl) (by kernel_rfl) (by kernel_rfl) (door_met os _)) ?_
  intro W base args ds gs before hval0 hW hcnd hsz0 hsh _
  have hmx := mx_of hsh
  have hsz : (DataW.weightsEach Tryd.prog (Tryd.f7.params.toList ++ Rows.keycodePutsSpec.plain.varTypes Tryd.prog) (ds ++ gs)).all (· ≤ reachBytes) = true := hsz0
  have hval : ∀ (j : Nat) t v, Tryd.f7.params[j]? = some t → args[j]? = some v → Value.okWide Tryd.prog W .any base t v := hval0
  have hW' := hW
  obtain ⟨p, q, hA0, hV, rfl, hfz, hnd⟩ := hW
  have hA : DataW.TrodAll enc Tryd.prog W 0 (fun _ => true) true Tryd.f7.params.toList args.toList ds p := hA0
  rw [Tryd.params7] at hA hval hsz
  obtain ⟨v0, vs0, d0, ds0, p0, q0, hargs, rfl, rfl, h0, r0⟩ := trodAll_cons hA
  obtain ⟨rfl, rfl, rfl⟩ := trodAll_nil r0
  obtain rfl : args = #[v0] := by cases args; simp_all
  obtain ⟨rfl, rfl⟩ := trodVars_none hV
  have k0 := h0
  have lt0 : ∀ x ∈ p0, x.block < W.heap.size := by obtain ⟨m, hm⟩ := k0; exact DataW.trod_lt m _ _ _ hm
  have hv0 := hval 0 22 v0 rfl rfl
  obtain ⟨A0, c0, l0, rfl, hl0, hC0, hm0, hG0⟩ := Open.open_rows Tryd.underlying22 (by kernel_rfl) (opens34) hv0 h0
  clear hA0 hval0 hsz0 hsz
  refine (XKey.rowlocklaw05_KeycodePuts.calls _ A0 c0 l0 true W hC0 hl0 (Ev.rounds (Pk.Puts l0 (fun x hx => rng_of (hG0 x hx)) (by unfold maxLen at hm0; omega))).choose_spec hmx).mono fun e W' ⟨he, bel⟩ => ?_
  subst he
  exact ⟨_, rfl, _, _, _, [], _, [], hW', trodAll_mk1 (shut_bool Tryd.underlying4 _), (trodAll_cons_mk (Below.trod laidOut (by kernel_rfl) (of_decide_eq_true (by kernel_rfl)) k0 bel lt0) trodAll_mk0), rfl, bel.frame _, fun h => by cases h⟩
theorem over : Rows.keycodePutsRow.holds Tryd.pinned (OpenSpec.ofChange Rows.keycodePutsSpec) :=
  OpenClaim.holds_of_wide 7 Tryd.f7 rfl rfl rfl rfl rfl rfl rfl ⟨rfl, rfl, rfl, rfl, rfl⟩ rfl rfl rfl rfl rfl (by kernel_rfl) Tryd.func7 (by kernel_rfl)
    (of_decide_eq_true (by kernel_rfl)) (by unfold Func.isWrapper; first | (rw [if_pos (by decide +kernel)]; kernel_rfl) | (rw [if_neg (by decide +kernel)]; exact ⟨rfl, rfl⟩))
    (fun os started H enc _ => lifted os started H enc)
theorem proved : Rows.KeycodePutsSaid := over
#print axioms proved
end Go.Proofs.YthkanebmkeamlaaDoor.keycodePuts
namespace Go.Proofs.YthkanebmkeamlaaDoor
/-- The row, under a short name, for the claim. -/
theorem keycodePuts_holds : Rows.KeycodePutsSaid := keycodePuts.proved
set_option maxRecDepth 100000 in
/-- The tied card, for the claim. -/
theorem keycodePutsCard_holds : Rows.KeycodePutsCardSaid :=
  Claim7.holds_tied_plain_at .later [] [.data, .pinned] true (true, "3c6c76d3d8d0d8218643d8fa9001b1fc6a3d0bcf219755dc30d6d33e52c6d796") false
    keycodePuts_holds (fun _ h => by cases h) (by kernel_rfl) (fun _ h => by cases h) keycodePuts_row_tie rfl ⟨rfl, rfl⟩ (by kernel_rfl) rfl
    (fun f fn hf hfn => by
      obtain rfl : f = 7 := Option.some.inj ((show Tryd.prog.funcNamed "rowlock/rowlocklaw05.KeycodePuts" = some 7 by kernel_rfl).symm.trans hf) |>.symm
      obtain rfl : fn = Tryd.f7 := (Option.some.inj (Tryd.func7.symm.trans hfn)).symm
      exact ⟨by kernel_rfl, fun j t ht => by
        rw [Tryd.params7] at ht
        have hm : t ∈ [22] := by simpa using Array.mem_of_getElem? ht
        have hall : ([22].all fun u => !Tryd.prog.wantsStandIn u) = true := by kernel_rfl
        exact (show Tryd.prog.wantsStandIn t = false by simpa using List.all_eq_true.1 hall t hm)⟩)
    (by kernel_rfl)
#print axioms keycodePutsCard_holds
end Go.Proofs.YthkanebmkeamlaaDoor
