/- Law 09, HeapFills, walked. Conditions: the records are bytes, a machine holds them. (printed by wip/r4/h/genlf.py) -/
import Derived.Test.YtpfegfkniilobaaHpI
import Derived.Test.YtpfegfkniilobaaPureHp
import Derived.Test.YtpfegfkniilobaaWEqStruct
import Derived.Deep.QuietTactic
import Derived.BigQuiet
import Derived.Laws.StructEq
namespace Go.Proofs.Ytpfegfkniilobaa.Hp
open Go.RowKit Go.Proofs.YtpfegfkniilobaaW.PrintWords Go.Proofs.YtpfegfkniilobaaW.PrintLast Go.Proofs.YtpfegfkniilobaaW.PrintMore Go.Proofs.Ytpfegfkniilobaa.Byt Go.Proofs.Ytpfegfkniilobaa.Dsk Go.Proofs.Ytpfegfkniilobaa.XHeap
open Go.Proofs.Ytpfegfkniilobaa.PureSl (room Ok txt)
set_option linter.unusedVariables false
set_option linter.unusedSimpArgs false
set_option maxRecDepth 100000
theorem own_ne {w0 W : World} {ok ok' : Nat → Prop} {v0 v1 : Value} {P : List ByteArray} {T : List Bool} (h0 : Kd.R Kd.string 9 W w0.heap.size ok v0 P) (h1 : Kd.R Kd.bool 4 W w0.heap.size ok' v1 T) {g t : Nat} {cs : Array Value} (hb : W.heap[g]? = some (.cells cs t (0, 0))) (ht : t ≠ 9 ∧ t ≠ 4) : ¬ Sv v0 v1 (.slice none 0 0) (.slice none 0 0) g := by
  rintro (e | e | e | e)
  · exact Kd.R_ne h0 hb ht.1.symm e
  · exact Kd.R_ne h1 hb ht.2.symm e
  · cases e
  · cases e
/-- What stands in memory while a row of records is looked at. -/
structure Fy (w W : World) (D : Nat → Prop) (gd g9 g48 n : Nat) (d : List Int) (t : List Bool) (c9 c48 : Array Value) (vO v0 v1 v6 : Value) (OX O : List S50) : Prop where
  dk : Dk W D gd d t
  h9 : W.heap[g9]? = some (.cells c9 32 (0, 0))
  h48 : W.heap[g48]? = some (.cells c48 22 (0, 0))
  ho : Kd.R k50 50 W w.heap.size (fun _ => True) vO OX
  h0 : Kd.R Kd.string 9 W w.heap.size (fun k => ¬ D k) v0 (pgs d n)
  h1 : Kd.R Kd.bool 4 W w.heap.size (fun k => ¬ D k) v1 t
  h6 : Kd.R k50 50 W w.heap.size (fun _ => True) v6 O
  hb : Below w.heap.size w W
theorem Fy.below {w W W2 : World} {D : Nat → Prop} {gd g9 g48 n : Nat} {d : List Int} {t : List Bool} {c9 c48 : Array Value} {vO v0 v1 v6 : Value} {OX O : List S50} (h : Fy w W D gd g9 g48 n d t c9 c48 vO v0 v1 v6 OX O) (hb : Below W.heap.size W W2) : Fy w W2 D gd g9 g48 n d t c9 c48 vO v0 v1 v6 OX O :=
  ⟨h.dk.below hb, blk_below h.h9 hb, blk_below h.h48 hb, Kd.R_below h.ho hb, Kd.R_below h.h0 hb, Kd.R_below h.h1 hb, Kd.R_below h.h6 hb, below_then h.hb h.hb.size hb⟩
theorem eqA50 (d : Nat) (w : World) (x0 y0 x1 y1 : Int) : (Op.equalIn (d + 2) 50 (.agg #[.int .u32 x0, .int .u16 x1]) (.agg #[.int .u32 y0, .int .u16 y1])).run Try.prog w = .ok (x0 == y0 && (x1 == y1)) w := by
  refine eqA_of Try.underlying50 (by kernel_rfl) ?_
  refine eqf_cons (by rfl) (by go_simp; rfl) (by go_simp; rfl) (by go_simp) ?_
  exact eqf_last (by rfl) (by go_simp; rfl) (by go_simp; rfl) (by go_simp)
theorem nq50 (W : World) (x0 x1 : Int) : (binOp .neq 50 (.agg #[.int .u32 x0, .int .u16 x1]) (.agg #[.int .u32 x0, .int .u16 x1])).run Try.prog W = .ok (.bool false) W := by
  rw [run_neq_struct, eqA50 9998]
  simp
theorem by_wf {l : List Int} (h : ∀ x ∈ l, (Lit.int .u8 x).wf = true) : By l := fun x hx => by
  have h3 := h x hx
  simp [Lit.wf, IntKind.min, IntKind.max, IntKind.signed, IntKind.bits] at h3
  omega
end Go.Proofs.Ytpfegfkniilobaa.Hp
