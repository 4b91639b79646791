/- disk.Put and bytes.Clone in the print's words. Conditions: a length that a machine has. -/
import Derived.Test.YtpfegfkniilobaaWRepsOne
import Derived.Test.YtpfegfkniilobaaDskF
namespace Go.Proofs.Ytpfegfkniilobaa.XHeap
open Go.RowKit Go.Proofs.YtpfegfkniilobaaW.PrintWords Go.Proofs.YtpfegfkniilobaaW.PrintLast Go.Proofs.YtpfegfkniilobaaW.PrintMore Go.Proofs.Ytpfegfkniilobaa.Dsk
set_option linter.unusedVariables false
set_option linter.unusedSimpArgs false
/-- A head's eight bytes. -/
def disk_Put.hd (a0 a1 a2 : Int) : List Int := [a0, 0, a1 / 256 % 256, a1 % 256, a2 / 16777216 % 256, a2 / 65536 % 256, a2 / 256 % 256, a2 % 256]
def disk_Put.f (a0 a1 a2 : Int) : Option (List Int) := some (disk_Put.hd a0 a1 a2 ++ List.replicate 504 0)
set_option maxRecDepth 100000 in
theorem disk_Put.calls (a0_0 a0_1 a0_2 : Int) (r : List Int) (w : World) (h : disk_Put.f a0_0 a0_1 a0_2 = some r) : Calls Try.prog 123 #[.agg #[.int .u8 a0_0, .int .u16 a0_1, .int .u32 a0_2]] w fun e w' => ∃ v : Value, e = .returned v ∧ Kd.R (Kd.int .u8) 5 w' w.heap.size (fun _ => True) v r ∧ Below w.heap.size w w' := by
  obtain rfl := Option.some.inj h
  clear h
  go_enter Try.func123, Try.ntmps123
  go_wp2_with (first | ((with_reducible refine gate_dst (N := 4) rfl ?_); refine Kd.R_make (Kd.int .u8) _ 5 rfl (N := 4) rfl 52 _ _ rfl 512 rfl rfl Try.underlying52 (.int .u8 0) 1 info5 rfl (by decide) (by omega) 0 (ok := fun _ => True) (okp := fun _ => True) rfl (fun _ hk => hk) trivial (by omega) (by omega) (Below.refl _ _) (Nat.le_refl _) ?_; intro v w2 ho2 hb2 hg2 hnew2; have HO2 := Aside0.mk ho2; have HL2 := Aside0.mk hb2; have HR2 := Aside0.mk (blk_below (blk_new w _) hb2); clear ho2 hb2 hg2 hnew2; have hr0 := (blk_cell HR2.out 0).trans rfl; have hr1 := (blk_cell HR2.out 1).trans rfl; have hr2 := (blk_cell HR2.out 2).trans rfl) | ((with_reducible refine gate_dst (N := 30) rfl ?_); refine Kd.R_lit (Kd.int .u8) _ 5 ?hg (N := 30) ?hd (xs := disk_Put.hd a0_0 a0_1 a0_2) (inner := [.int .u8 a0_0, .int .u8 0, .int .u8 (a0_1 / 256 % 256), .int .u8 (a0_1 % 256), .int .u8 (a0_2 / 16777216 % 256), .int .u8 (a0_2 / 65536 % 256), .int .u8 (a0_2 / 256 % 256), .int .u8 (a0_2 % 256)]) (ok := fun _ => True) (okp := fun _ => True) ?hr ?hp (fun _ hk => hk) trivial (Below.refl _ _) (Nat.le_refl _) (by simp [disk_Put.hd]) ?_; (case hd => rfl); (case hg => rfl); (case hr => first | (go_simp; done) | (go_simp; rfl)); (case hp => exact (Reps.one (show Kd.M (Kd.int .u8) _ _ _ a0_0 [.int .u8 a0_0] from rfl) (Reps.one (show Kd.M (Kd.int .u8) _ _ _ 0 [.int .u8 0] from rfl) (Reps.one (show Kd.M (Kd.int .u8) _ _ _ (a0_1 / 256 % 256) [.int .u8 (a0_1 / 256 % 256)] from rfl) (Reps.one (show Kd.M (Kd.int .u8) _ _ _ (a0_1 % 256) [.int .u8 (a0_1 % 256)] from rfl) (Reps.one (show Kd.M (Kd.int .u8) _ _ _ (a0_2 / 16777216 % 256) [.int .u8 (a0_2 / 16777216 % 256)] from rfl) (Reps.one (show Kd.M (Kd.int .u8) _ _ _ (a0_2 / 65536 % 256) [.int .u8 (a0_2 / 65536 % 256)] from rfl) (Reps.one (show Kd.M (Kd.int .u8) _ _ _ (a0_2 / 256 % 256) [.int .u8 (a0_2 / 256 % 256)] from rfl) (Reps.one (show Kd.M (Kd.int .u8) _ _ _ (a0_2 % 256) [.int .u8 (a0_2 % 256)] from rfl) (Reps.none _ _)))))))))); intro v3 w3 ho3 hb3 hg3 hnew3; have HO3 := Aside0.mk ho3; have HL3 := Aside0.mk hb3; have HOa := Aside0.mk (Kd.R_below HO2.out hb3); clear hg3 hnew3 ho3 hb3; obtain ⟨A3, c3, e3⟩ := Kd.R_slice HO3.out; subst e3) | ((with_reducible refine gate_builtin (b := .copy) (xs := #[.tmp 5, .tmp 30]) rfl ?_); refine Kd.R_copy (enc := Value.int .u8) (h1 := fun _ => rfl) (0 : Int) (w0 := w) w.heap.size rfl (.tmp 5) (.tmp 30) 52 52 5 rfl Try.underlying52 (by kernel_rfl) v (List.replicate 512 0) (disk_Put.hd a0_0 a0_1 a0_2) _ _ _ (fun _ => True) rfl rfl ?cO ?cR ?cB ?cS ?_; (case cO => exact Kd.R_lower HOa.out (by simp)); (case cR => exact (Kd.R_reads' HO3.out).2.2); (case cB => exact below_then (below_then (below_alloc (Below.refl _ _) _) (by simp) HL2.out) (by have := HL2.out.size; simp at this; omega) HL3.out); (case cS => have h2 := HL2.out.size; have h3 := HL3.out.size; simp at h2; omega); intro w4 ho4 hb4 hg4; have HO4 := Aside0.mk ho4; have HB4 := Aside0.mk hb4; clear ho4 hb4 hg4))
  go_ret
  refine ⟨v, rfl, ?_, HB4.out⟩
  have h := HO4.out
  rw [show min (disk_Put.hd a0_0 a0_1 a0_2).length (List.replicate 512 (0 : Int)).length = 8 by simp [disk_Put.hd], show (disk_Put.hd a0_0 a0_1 a0_2).take 8 = disk_Put.hd a0_0 a0_1 a0_2 from rfl, List.drop_replicate] at h
  exact h
def bytes_Clone.f (l0 : List Int) : Option (List Int) := if l0.length ≤ 140737488355328 then some l0 else none
theorem bytes_Clone.calls (A0 : Option Addr) (c0 : Nat) (l0 : List Int) (r : List Int) (w : World) (hr0 : Kd.C (Kd.int .u8) w A0 l0.length l0) (hc0 : l0.length ≤ c0) (h : bytes_Clone.f l0 = some r) :
    Calls Try.prog 49 #[.slice A0 l0.length c0] w fun e w' => ∃ v : Value, e = .returned v ∧ Kd.R (Kd.int .u8) 5 w' w.heap.size (fun _ => True) v r ∧ Below w.heap.size w w' := by
  unfold bytes_Clone.f at h
  split at h
  case isFalse => exact absurd h (by simp)
  case isTrue hb =>
  obtain rfl := Option.some.inj h
  cases A0 with
  | none =>
    have h0 : l0.length = 0 := by
      rcases Nat.eq_zero_or_pos l0.length with h0 | h0
      · exact h0
      · obtain ⟨ad, he, _⟩ := Kd.at_int hr0 0 (by omega) (by omega)
        cases he
    obtain rfl := List.eq_nil_of_length_eq_zero h0
    refine (Try.bytes_Clone_nil _ c0 w).mono ?_
    rintro e w' ⟨rfl, rfl⟩
    exact ⟨_, rfl, Kd.R_nil _ _ _ _ _, Below.refl _ _⟩
  | some a =>
    refine (Try.bytes_Clone_at a l0.length c0 l0 w rfl hb ?_).mono ?_
    · intro i hi
      obtain ⟨ad, he, hx⟩ := Kd.at_int hr0 (i : Int) (by omega) (by omega)
      injection he with he
      subst he
      exact hx
    · rintro e w' ⟨v, rfl, ho, _, hB⟩
      exact ⟨v, rfl, Kd.R_of_own (h1 := fun _ => rfl) ho (fun _ _ => trivial), hB⟩
end Go.Proofs.Ytpfegfkniilobaa.XHeap
