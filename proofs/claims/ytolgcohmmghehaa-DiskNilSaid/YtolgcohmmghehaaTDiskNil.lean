/- The law DiskNil is true at every number. Conditions: the number is no negative one. -/
import Derived.Test.YtolgcohmmghehaaDskD
import Derived.Deep.OwnRows
namespace Go.Proofs.Ytolgcohmmghehaa.Dsk
open Go.RowKit Go.Proofs.YtolgcohmmghehaaW.PrintWords Go.Proofs.YtolgcohmmghehaaW.PrintLast Go.Proofs.YtolgcohmmghehaaW.PrintMore
set_option linter.unusedVariables false
set_option linter.unusedSimpArgs false
set_option maxRecDepth 100000
theorem wf_u32 {a : Int} (h : (Lit.int .u32 a).wf = true) : 0 ≤ a ∧ a < 4294967296 := by
  simp [Lit.wf, IntKind.min, IntKind.max, IntKind.signed, IntKind.bits] at h
  omega
set_option maxHeartbeats 8000000 in
theorem DiskNil_ok (a : Int) (w : World) (h0 : 0 ≤ a) : Calls Try.prog 7 #[.int .u32 a] w fun e w' => e = .returned (.bool true) ∧ Below w.heap.size w w' := by
  have H0 := Aside0.mk h0
  clear h0
  have hmk : ∀ W : World, (Instr.makeSlice 26 (.int .i64 512) (.int .i64 512)).run Try.prog W = .ok (.slice (some ⟨W.heap.size, 0, none⟩) 512 512) (W.alloc (.cells (madeCells #[.int .u8 0] 512) 5)) := fun W => run_make_row' (P := Try.prog) 26 5 (.int .u8 0) 1 Try.underlying26 info5 rfl .i64 .i64 512 (by decide) (by decide) W
  go_enter Try.func7, Try.ntmps7
  go_wp2_with (first
    | (go_at_call 28; (with_reducible refine (read_nil _ a H0.out).mono ?_); rintro en w1 ⟨rfl, rfl⟩)
    | (go_at_call 30; (with_reducible refine (take_nil _).mono ?_); rintro en w2 ⟨rfl, rfl⟩)
    | (go_at_call 15; (with_reducible refine (fixed_ok _).mono ?_); rintro en w3 ⟨rfl, hb⟩; have HB3 := Aside0.mk hb; clear hb)
    | (go_at_call 21; (with_reducible refine (write_nil _ a _ H0.out).mono ?_); rintro en w5 ⟨rfl, rfl⟩)
    | (go_at_call 33; (with_reducible refine (len_nil _).mono ?_); rintro en w6 ⟨rfl, rfl⟩)
    | (go_at_call 34; (with_reducible refine (left_nil _).mono ?_); rintro en w7 ⟨rfl, rfl⟩)
    | (go_at_call 23; (with_reducible refine (image_nil _).mono ?_); rintro en w8 ⟨rfl, rfl⟩)
    | (go_at_call 32; (with_reducible refine (copy_nil _).mono ?_); rintro en w9 ⟨rfl, rfl⟩))
  go_ret
  exact ⟨rfl, below_alloc HB3.out _⟩
end Go.Proofs.Ytolgcohmmghehaa.Dsk
