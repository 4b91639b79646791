/- Law 09, HeapFills, walked. Conditions: the records are bytes, a machine holds them. (printed by wip/r4/h/genlf.py) -/
import Derived.Test.YtpfegfkniilobaaHpI
import Derived.Test.YtpfegfkniilobaaPureHp
import Derived.Test.YtpfegfkniilobaaWEqStruct
import Derived.Deep.QuietTactic
import Derived.BigQuiet
import Derived.Laws.StructEq
namespace Go.Proofs.Ytpfegfkniilobaa.Hp
open Go.RowKit Go.Proofs.YtpfegfkniilobaaW.PrintWords Go.Proofs.YtpfegfkniilobaaW.PrintLast Go.Proofs.YtpfegfkniilobaaW.PrintMore Go.Proofs.Ytpfegfkniilobaa.Byt Go.Proofs.Ytpfegfkniilobaa.Dsk Go.Proofs.Ytpfegfkniilobaa.XHeap
open Go.Proofs.Ytpfegfkniilobaa.PureSl (room Ok txt)
set_option linter.unusedVariables false
set_option linter.unusedSimpArgs false
set_option maxRecDepth 100000
theorem fillF_ok {d : List Int} {t : List Bool} (l : List (List Int)) (h : d.length = 512 * t.length ∧ 0 < t.length ∧ t.length ≤ 4096 ∧ By d) (hby : ∀ r ∈ l, By r) : (fillF d t l).2.1.t.length = t.length ∧ By (fillF d t l).2.1.d := by
  have hs0 : SOk (s0_ d t) := s0_okr h
  have hgo : ∀ (l : List (List Int)) (s : St) (o : List S50), SOk s → s.beg = true → (∀ r ∈ l, By r) → l.any badR = false → SOk (fillS l s o).2.1 ∧ (fillS l s o).2.1.t.length = s.t.length := by
    intro l
    induction l with
    | nil => intro s o h _ _ _; exact ⟨h, rfl⟩
    | cons r l ih =>
      intro s o h hb hy hg
      have hr : badR r = false := by
        rw [List.any_cons, Bool.or_eq_false_iff] at hg
        exact hg.1
      have hg2 : l.any badR = false := by
        rw [List.any_cons, Bool.or_eq_false_iff] at hg
        exact hg.2
      have hr2 := badR_false.mp hr
      have h1 := addS_ok h r hr2.1 hr2.2 (hy r (List.mem_cons_self ..))
      have h2 := addS_len s r
      rw [fillS]
      split
      · have h3 := ih (addS s r).2.1 (o ++ [(addS s r).2.2]) h1 (addS_beg r hb) (fun x hx => hy x (List.mem_cons_of_mem _ hx)) hg2
        exact ⟨h3.1, h3.2.trans h2⟩
      · exact ⟨h1, h2⟩
  unfold fillF
  split
  · exact ⟨rfl, h.2.2.2⟩
  · rename_i hg
    have hg2 : l.any badR = false := by simpa using hg
    split
    · rename_i hz
      have h1 := nextS_ok hs0
      have h2 := nextS_len (s0_ d t)
      have h3 := hgo l (nextS (s0_ d t)).2 [] h1 (nextS_zero hz).2 hby hg2
      have hx : ∀ x, fillS l (nextS (s0_ d t)).2 [] = x → SOk x.2.1 ∧ x.2.1.t.length = (nextS (s0_ d t)).2.t.length := fun x e => by rw [← e]; exact h3
      split
      rename_i e s o heq
      have h4 := hx _ heq
      split
      · exact ⟨(wrG_len _ _ _ _).trans (h4.2.trans h2), wrG_by _ _ h4.1.by_ (PureSl.pg_by 0 s.rs h4.1.rs.by_)⟩
      · exact ⟨h4.2.trans h2, h4.1.by_⟩
    · exact ⟨nextS_len (s0_ d t), (nextS_ok hs0).by_⟩
theorem zeros_by (n : Nat) : By (List.replicate n 0) := By.zeros n
theorem ld_len (n : Nat) (h : 1 ≤ n) : (ld (List.replicate (n * 512) 0)).length = n := by
  rw [ld_zeros, List.length_map, List.length_range]
theorem own_ne {w0 W : World} {ok ok' : Nat → Prop} {v0 v1 : Value} {P : List ByteArray} {T : List Bool} (h0 : Kd.R Kd.string 9 W w0.heap.size ok v0 P) (h1 : Kd.R Kd.bool 4 W w0.heap.size ok' v1 T) {g t : Nat} {cs : Array Value} (hb : W.heap[g]? = some (.cells cs t (0, 0))) (ht : t ≠ 9 ∧ t ≠ 4) : ¬ Sv v0 v1 (.slice none 0 0) (.slice none 0 0) g := by
  rintro (e | e | e | e)
  · exact Kd.R_ne h0 hb ht.1.symm e
  · exact Kd.R_ne h1 hb ht.2.symm e
  · cases e
  · cases e
/-- What stands in memory while a row of records is looked at. -/
structure Fy (w W : World) (D : Nat → Prop) (gd g9 g48 n : Nat) (d : List Int) (t : List Bool) (c9 c48 : Array Value) (vO v0 v1 v6 : Value) (OX O : List S50) : Prop where
  dk : Dk W D gd d t
  h9 : W.heap[g9]? = some (.cells c9 32 (0, 0))
  h48 : W.heap[g48]? = some (.cells c48 22 (0, 0))
  ho : Kd.R k50 50 W w.heap.size (fun _ => True) vO OX
  h0 : Kd.R Kd.string 9 W w.heap.size (fun k => ¬ D k) v0 (pgs d n)
  h1 : Kd.R Kd.bool 4 W w.heap.size (fun k => ¬ D k) v1 t
  h6 : Kd.R k50 50 W w.heap.size (fun _ => True) v6 O
  hb : Below w.heap.size w W
theorem Fy.below {w W W2 : World} {D : Nat → Prop} {gd g9 g48 n : Nat} {d : List Int} {t : List Bool} {c9 c48 : Array Value} {vO v0 v1 v6 : Value} {OX O : List S50} (h : Fy w W D gd g9 g48 n d t c9 c48 vO v0 v1 v6 OX O) (hb : Below W.heap.size W W2) : Fy w W2 D gd g9 g48 n d t c9 c48 vO v0 v1 v6 OX O :=
  ⟨h.dk.below hb, blk_below h.h9 hb, blk_below h.h48 hb, Kd.R_below h.ho hb, Kd.R_below h.h0 hb, Kd.R_below h.h1 hb, Kd.R_below h.h6 hb, below_then h.hb h.hb.size hb⟩
theorem eqA50 (d : Nat) (w : World) (x0 y0 x1 y1 : Int) : (Op.equalIn (d + 2) 50 (.agg #[.int .u32 x0, .int .u16 x1]) (.agg #[.int .u32 y0, .int .u16 y1])).run Try.prog w = .ok (x0 == y0 && (x1 == y1)) w := by
  refine eqA_of Try.underlying50 (by kernel_rfl) ?_
  refine eqf_cons (by rfl) (by go_simp; rfl) (by go_simp; rfl) (by go_simp) ?_
  exact eqf_last (by rfl) (by go_simp; rfl) (by go_simp; rfl) (by go_simp)
theorem nq50 (W : World) (x0 x1 : Int) : (binOp .neq 50 (.agg #[.int .u32 x0, .int .u16 x1]) (.agg #[.int .u32 x0, .int .u16 x1])).run Try.prog W = .ok (.bool false) W := by
  rw [run_neq_struct, eqA50 9998]
  simp
/-- What the law asks of a row of records. -/
def RecOk (w : World) (A : Option Addr) (c : Nat) (l : List (List Int)) : Prop := Kd.C (Kd.slice 5 (Kd.int .u8)) w A l.length l ∧ l.length ≤ c ∧ ∀ r ∈ l, By r
theorem by_wf {l : List Int} (h : ∀ x ∈ l, (Lit.int .u8 x).wf = true) : By l := fun x hx => by
  have h3 := h x hx
  simp [Lit.wf, IntKind.min, IntKind.max, IntKind.signed, IntKind.bits] at h3
  omega
end Go.Proofs.Ytpfegfkniilobaa.Hp
