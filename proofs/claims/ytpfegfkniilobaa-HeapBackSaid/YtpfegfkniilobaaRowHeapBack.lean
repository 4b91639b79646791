/- For every two rows of records and a pool's size (great ones, and such as don't fit, answer the fixed example): what was filled is scanned, in order, and fetched where it stands; conditions: none. -/
import Derived.Test.YtpfegfkniilobaaRows
import Derived.Test.YtpfegfkniilobaaHpBm
import Derived.Test.YtpfegfkniilobaaOpen
import Derived.WalkKit
import Derived.ProofKit
import Derived.OpenShut
import Derived.ShutString
import Derived.ChangeOld
import Derived.Below
import Derived.SizedLaws
import Derived.Lib.SmallJoins
import Derived.ChangeArms
import Derived.Deep.Slices
import Derived.Deep.Fields
import Derived.ChangeSame
namespace Go.Proofs.Ytpfegfkniilobaa.heapBack
open Go.ChangeShapes Go.WideShapes Go.ChangeAt Go.RowKit Go.Joins Go.Deep
open Go.ChangeMaps (open_string shut_string)
open Go.Proofs.YtpfegfkniilobaaW Go.Proofs.YtpfegfkniilobaaW.PrintWords
set_option linter.unusedVariables false
theorem own : ownKnob Try.prog.godebug = none := by kernel_rfl
theorem laidOut : laidOutB Try.prog = true := by kernel_rfl
theorem slice_sized {H : Type} {enc : TypeId × Value → H} {w : World} {base : Nat} {spare : Nat → Bool} {held : Bool} {t e : TypeId} {fuel : Nat} {A : Option Addr} {n c : Nat} {x : DataW H × List MemPlace} (ht : Try.prog.underlying t = some (.slice e)) (h : DataW.trod enc Try.prog w base spare held fuel t [.slice A n c] = some x) (hb : 1 ≤ Try.prog.bytesOf e)
    (hz : ∀ k ∈ x.1.weights Try.prog t, k ≤ reachBytes) : n ≤ reachBytes := by
  rcases Go.Deep.open_slice ht h with ⟨he, _⟩ | ⟨a, len, cap, m, n', D, Pl, he, _, _, _, _, rfl, _⟩
  · injection he with he _
    injection he with _ he _
    rw [he]
    exact Nat.zero_le _
  · injection he with he _
    injection he with _ he _
    subst he
    have := hz _ (by simp only [DataW.weights, ht]; exact List.mem_cons_self)
    rw [List.length_map, List.length_range] at this
    exact Nat.le_trans (Nat.le_trans (Nat.le_add_right n _) (Nat.le_mul_of_pos_right _ hb)) this
theorem wf8 {x : Int} (h : (Lit.int .u8 x).wf = true) : 0 ≤ x ∧ x < 256 := by
  simp [Lit.wf, IntKind.min, IntKind.max, IntKind.signed, IntKind.bits] at h
  omega
set_option maxRecDepth 100000 in
theorem lifted (os : Os) (started : os.Started) (H : Type) (enc : TypeId × Value → H) :
    ReturnsInHanded {} Try.checked os 5 .any (Rows.heapBackSpec.pre6 enc Try.prog Try.f5 Rows.heapBackRow.domain false) (Rows.heapBackSpec.post enc Try.prog Try.f5 false true false false) := by
  refine returnsInHanded_of_change_sized (C := Try.checked) own started (by kernel_rfl) Try.func5
    (ChangeSpec.witness6 (enc := enc) (C := Try.checked) false ⟨#[], #[.slice none 0 0, .slice none 0 0, .int .u8 0], []⟩ 8 (by kernel_rfl) (by kernel_rfl) (by kernel_rfl) (by kernel_rfl)) ?_
  intro W base args ds gs before hval0 hW hcnd hsz0 _
  have hsz : (DataW.weightsEach Try.prog (Try.f5.params.toList ++ Rows.heapBackSpec.plain.varTypes Try.prog) (ds ++ gs)).all (· ≤ reachBytes) = true := hsz0
  have hval : ∀ (j : Nat) t v, Try.f5.params[j]? = some t → args[j]? = some v → Value.okWide Try.prog W .any base t v := hval0
  have hW' := hW
  obtain ⟨p, q, hA0, hV, rfl, hfz, hnd⟩ := hW
  have hA : DataW.TrodAll enc Try.prog W 0 (fun _ => true) true Try.f5.params.toList args.toList ds p := hA0
  rw [Try.params5] at hA hval hsz
  obtain ⟨v0, vs0, d0, ds0, p0, q0, hargs, rfl, rfl, h0, r0⟩ := trodAll_cons hA
  obtain ⟨v1, vs1, d1, ds1, p1, q1, rfl, rfl, rfl, h1, r1⟩ := trodAll_cons r0
  obtain ⟨v2, vs2, d2, ds2, p2, q2, rfl, rfl, rfl, h2, r2⟩ := trodAll_cons r1
  obtain ⟨rfl, rfl, rfl⟩ := trodAll_nil r2
  obtain rfl : args = #[v0, v1, v2] := by cases args; simp_all
  obtain ⟨rfl, rfl⟩ := trodVars_none hV
  have k0 := h0
  have lt0 : ∀ x ∈ p0, x.block < W.heap.size := by obtain ⟨m, hm⟩ := k0; exact DataW.trod_lt m _ _ _ hm
  have hv0 := hval 0 22 v0 rfl rfl
  have k1 := h1
  have lt1 : ∀ x ∈ p1, x.block < W.heap.size := by obtain ⟨m, hm⟩ := k1; exact DataW.trod_lt m _ _ _ hm
  have hv1 := hval 1 22 v1 rfl rfl
  have k2 := h2
  have lt2 : ∀ x ∈ p2, x.block < W.heap.size := by obtain ⟨m, hm⟩ := k2; exact DataW.trod_lt m _ _ _ hm
  have hv2 := hval 2 5 v2 rfl rfl
  obtain ⟨A0, c0, l0, rfl, hl0, hC0, hm0, hG0⟩ := Open.open_rows Try.underlying22 (by kernel_rfl) ((Open.opens_slice Try.underlying52 (by kernel_rfl) (Open.opens_int Try.underlying5))) hv0 h0
  have z0 : l0.length ≤ 140737488351232 := by
    obtain ⟨m, hm⟩ := k0
    have hall := List.all_eq_true.1 hsz
    exact slice_sized Try.underlying22 hm (of_decide_eq_true (by kernel_rfl)) (fun k hk => of_decide_eq_true (hall k (DataW.weights_mem_each (j := 0) rfl rfl k hk)))
  obtain ⟨A1, c1, l1, rfl, hl1, hC1, hm1, hG1⟩ := Open.open_rows Try.underlying22 (by kernel_rfl) ((Open.opens_slice Try.underlying52 (by kernel_rfl) (Open.opens_int Try.underlying5))) hv1 h1
  have z1 : l1.length ≤ 140737488351232 := by
    obtain ⟨m, hm⟩ := k1
    have hall := List.all_eq_true.1 hsz
    exact slice_sized Try.underlying22 hm (of_decide_eq_true (by kernel_rfl)) (fun k hk => of_decide_eq_true (hall k (DataW.weights_mem_each (j := 1) rfl rfl k hk)))
  obtain ⟨a2, rfl, rfl, rfl, w2⟩ := open_int Try.underlying5 hv2 h2
  clear hA0 hval0 hsz0 hsz
  refine (Hp.HeapBack_ok a2 A0 A1 c0 c1 l0 l1 W ⟨hC0, hl0, fun r hr => Hp.by_wf (hG0 r hr).2⟩ ⟨hC1, hl1, fun r hr => Hp.by_wf (hG1 r hr).2⟩ z0 z1 (wf8 w2)).mono fun e W' ⟨he, bel⟩ => ?_
  subst he
  exact ⟨_, rfl, _, _, _, [], _, [], hW', trodAll_mk1 (shut_bool Try.underlying4 _), (trodAll_cons_mk (Below.trod laidOut (by kernel_rfl) (of_decide_eq_true (by kernel_rfl)) k0 bel lt0) (trodAll_cons_mk (Below.trod laidOut (by kernel_rfl) (of_decide_eq_true (by kernel_rfl)) k1 bel lt1) (trodAll_cons_mk (Below.trod laidOut (by kernel_rfl) (of_decide_eq_true (by kernel_rfl)) k2 bel lt2) trodAll_mk0))), rfl, bel.frame _, fun h => by cases h⟩
theorem over : Rows.heapBackRow.holds Try.pinned (OpenSpec.ofChange Rows.heapBackSpec) :=
  OpenClaim.holds_of_wide 5 Try.f5 rfl rfl rfl rfl rfl rfl rfl ⟨rfl, rfl, rfl, rfl, rfl⟩ rfl rfl rfl rfl rfl (by kernel_rfl) Try.func5 (by kernel_rfl)
    (of_decide_eq_true (by kernel_rfl)) (by unfold Func.isWrapper; first | (rw [if_pos (by decide +kernel)]; kernel_rfl) | (rw [if_neg (by decide +kernel)]; exact ⟨rfl, rfl⟩))
    (fun os started H enc _ => lifted os started H enc)
theorem proved : Rows.HeapBackSaid := over
#print axioms proved
end Go.Proofs.Ytpfegfkniilobaa.heapBack
namespace Go.Proofs.Ytpfegfkniilobaa
/-- The row, under a short name, for the claim. -/
theorem heapBack_holds : Rows.HeapBackSaid := heapBack.proved
end Go.Proofs.Ytpfegfkniilobaa
