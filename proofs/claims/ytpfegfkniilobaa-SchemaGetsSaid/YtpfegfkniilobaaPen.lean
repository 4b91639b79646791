/- The chapter's example: the empty book's writing; two names. Conditions: stated in each theorem. -/
import Derived.Test.YtpfegfkniilobaaXSchemax3
import Derived.Test.YtpfegfkniilobaaFnv
namespace Go.Proofs.Ytpfegfkniilobaa.Sch
open Go.RowKit Go.Proofs.YtpfegfkniilobaaW.PrintWords Go.Proofs.YtpfegfkniilobaaW.PrintLast Go.Proofs.YtpfegfkniilobaaW.PrintMore
open Go.Proofs.Ytpfegfkniilobaa.XSchema
set_option linter.unusedVariables false
set_option linter.unusedSimpArgs false
set_option maxRecDepth 100000
theorem wr_in (n : Int) (h : -9223372036854775808 ≤ n ∧ n ≤ 9223372036854775807) : wrap64 n = n := by
  unfold wrap64
  omega
theorem blk_step' {B g : Nat} {w w1 : World} {o : Obj} (hb : Below B w w1) (hg : g < B) (h : w.heap[g]? = some o) : w1.heap[g]? = some o := (hb.block g hg).trans h
theorem below_low {B C : Nat} {w w1 w2 : World} (h : Below B w w1) (hBC : B ≤ C) (hb : Below C w1 w2) : Below B w w2 := h.trans ⟨hb.os, hb.tape, hb.output, hb.size, fun k hk => hb.block k (Nat.lt_of_lt_of_le hk hBC)⟩
theorem below_via {w w1 w2 : World} {o : Obj} (h : Below w.heap.size w w1) (hb : Below w1.heap.size (w1.alloc o) w2) : Below w.heap.size w w2 := below_low (below_alloc h o) h.size hb
theorem names_nil (w : World) : Calls Try.prog 73 #[.slice none 0 0] w fun e w' => e = .returned (.bool true) ∧ w' = w := by
  go_enter Try.func73, Try.ntmps73
  go_wp2
  go_loopg [7] 0 (fun kq v7 w' => v7 = .int .i64 0 ∧ w' = w)
  case atStart => exact ⟨rfl, rfl⟩
  case round =>
    obtain ⟨rfl, rfl⟩ := hrel
    go_wp2
    go_ret
    exact ⟨rfl, rfl⟩
theorem may_nil (w : World) : Calls Try.prog 36 #[.agg #[.slice none 0 0, .slice none 0 0]] w fun e w' => e = .returned (.bool true) ∧ Below w.heap.size w w' := by
  go_enter Try.func36, Try.ntmps36
  go_upto_region 1 with fail
  have HB1 := Aside0.mk (below_alloc (Below.refl w.heap.size w) (.cells #[.slice none 0 0, .slice none 0 0] 80))
  have HX1 := Aside0.mk (blk_new w (.cells #[.slice none 0 0, .slice none 0 0] 80))
  generalize hw1 : w.alloc (.cells #[.slice none 0 0, .slice none 0 0] 80) = w1 at HB1 HX1 ⊢
  clear hw1
  have hx0 := (blk_cell HX1.out 0).trans rfl
  have hx1 := (blk_cell HX1.out 1).trans rfl
  go_wp2
  go_loopg [3, 22] 0 (fun kq v3 v22 w' => v3 = .slice none 0 0 ∧ v22 = .int .i64 0 ∧ w' = w1)
  case atStart => exact ⟨rfl, rfl, rfl⟩
  case round =>
    obtain ⟨rfl, rfl, rfl⟩ := hrel
    go_wp2
    go_loopg [4, 38] 0 (fun kq v4 v38 w' => v4 = .slice none 0 0 ∧ v38 = .int .i64 0 ∧ w' = wr)
    case atStart => exact ⟨rfl, rfl, rfl⟩
    case round =>
      obtain ⟨rfl, rfl, rfl⟩ := hrel
      go_wp2_with (go_at_call 73; (with_reducible refine (names_nil _).mono ?_); rintro en w2 ⟨rfl, rfl⟩)
      go_ret
      exact ⟨rfl, HB1.out⟩
theorem count_ok (w : World) (base g : Nat) (v : Value) (xs : List Int) (n : Int) (hg : base ≤ g) (hb : w.heap[g]? = some (.cells #[v] 148 (0, 0))) (ho : Kd.R (Kd.int .u8) 5 w base (fun _ => True) v xs) (hl : xs.length ≤ 100000) (hs : base ≤ w.heap.size) :
    Calls Try.prog 68 #[.pointer (some ⟨g, 0, none⟩), .int .i64 n] w fun e w' => e = .returned (.tuple #[]) ∧ ∃ v', w'.heap[g]? = some (.cells #[v'] 148 (0, 0)) ∧ Kd.R (Kd.int .u8) 5 w' base (fun _ => True) v' (xs ++ [n % 256]) ∧ Below base w w' := by
  have HX := Aside0.mk hb
  have HO := Aside0.mk ho
  have HL := Aside0.mk (And.intro hl (And.intro hs hg))
  have hx0 := (blk_cell HX.out 0).trans rfl
  clear hb ho hl hs hg
  go_enter Try.func68, Try.ntmps68
  go_wp2_with (((with_reducible refine gate_builtin (b := .append) (xs := #[.tmp 8, .tmp 11]) rfl ?_); at_builtin; refine Kd.R_append (Kd.int .u8) (w0 := w) base rfl (.tmp 8) (.tmp 11) 52 5 (.int .u8 0) 1 rfl Try.underlying52 info5 rfl (by decide) (by omega) v xs (n % 256) [.int .u8 (n % 256)] (fun _ => True) (fun _ => False) rfl (by first | (go_simp; done) | (go_simp; rfl)) ?aP (fun _ hk => hk.elim) ?aF ?aO ?aB ?aS ?aL ?_; (case aP => exact rfl); (case aB => exact (by repeat (first | exact Below.refl _ _ | apply below_alloc))); (case aF => exact (fun _ _ => trivial)); (case aO => first | exact HO.out | exact Kd.R_alloc HO.out _); (case aS => first | exact HL.out.2.1 | (rw [World.size_alloc]; have := HL.out; omega)); (case aL => have := HL.out; omega)); intro v2 w2 ho2 hb2 hg2 hat2; obtain ⟨A2, cc2, e2⟩ := Kd.R_slice ho2; subst e2; have HO2 := Aside0.mk ho2; have HB2 := Aside0.mk hb2; have HX2 := Aside0.mk (blk_grown HX.out hg2 (Kd.R_ne HO.out HX.out (by decide))); clear ho2 hb2 hg2 hat2 hx0; have hx0 := (blk_cell HX2.out 0).trans rfl; have hf0 := blk_frozen HX2.out 0)
  go_end0
  refine ⟨rfl, _, blk_put HX2.out 0 _ rfl, ?_, HB2.out.setCell (p := ⟨g, 0, none⟩) HL.out.2.2 _⟩
  have e3 : (xs ++ [n % 256]).length = xs.length + 1 := by simp
  first | exact Kd.R_set HO2.out HX2.out (by decide) 0 _ | (rw [← e3]; exact Kd.R_set HO2.out HX2.out (by decide) 0 _)
  -- HO2.out HX2.out (by decide) 0 _, HB2.out.setCell (p := ⟨g, 0, none⟩) HL.out.2.2 _⟩
set_option maxHeartbeats 4000000 in
theorem put_nil (w : World) : Calls Try.prog 33 #[.agg #[.slice none 0 0, .slice none 0 0]] w fun e w' => ∃ v, e = .returned (.tuple #[v, .int .i64 0]) ∧ Kd.R (Kd.int .u8) 5 w' w.heap.size (fun _ => True) v [0, 0] ∧ Below w.heap.size w w' := by
  go_enter Try.func33, Try.ntmps33
  go_upto_region 1 with fail
  have HB1 := Aside0.mk (below_alloc (Below.refl w.heap.size w) (.cells #[.slice none 0 0, .slice none 0 0] 80))
  have HX1 := Aside0.mk (blk_new w (.cells #[.slice none 0 0, .slice none 0 0] 80))
  generalize hw1 : w.alloc (.cells #[.slice none 0 0, .slice none 0 0] 80) = w1 at HB1 HX1 ⊢
  clear hw1
  have hx0 := (blk_cell HX1.out 0).trans rfl
  have hx1 := (blk_cell HX1.out 1).trans rfl
  go_wp2_with (first
    | (go_at_call 36; (with_reducible refine (may_nil _).mono ?_); rintro en w2 ⟨rfl, hb⟩; clear hx0 hx1; have HX2 := Aside0.mk (blk_below HX1.out hb); have HB2 := Aside0.mk (below_then HB1.out HB1.out.size hb); clear hb; have HX2a := Aside0.mk (blk_alloc HX2.out (.cells #[.slice none 0 0] 148)); have HY2 := Aside0.mk (blk_new w2 (.cells #[.slice none 0 0] 148)); have hx0 := (blk_cell HX2a.out 0).trans rfl; have hx1 := (blk_cell HX2a.out 1).trans rfl)
    | (go_at_call 68; (with_reducible refine (count_ok _ w2.heap.size w2.heap.size _ [] 0 (Nat.le_refl _) HY2.out (Kd.R_nil _ _ _ _ _) (by decide) (by rw [World.size_alloc]; omega)).mono ?_); rintro en w3 ⟨rfl, v3, hx, ho, hb⟩; clear hx0 hx1; have HY3 := Aside0.mk hx; have HO3 := Aside0.mk ho; have HX3 := Aside0.mk (blk_step' hb (blk_lt HX2.out) HX2a.out); have HB3 := Aside0.mk (below_via HB2.out hb); have HS3 := Aside0.mk (blk_lt hx); clear hx ho hb; have hx0 := (blk_cell HX3.out 0).trans rfl; have hx1 := (blk_cell HX3.out 1).trans rfl))
  go_loopg [26] 0 (fun kq v26 w' => v26 = .int .i64 0 ∧ w' = w3)
  case atStart => exact ⟨rfl, rfl⟩
  case round =>
    obtain ⟨rfl, rfl⟩ := hrel
    go_wp2_with (go_at_call 68; (with_reducible refine (count_ok _ w2.heap.size w2.heap.size _ _ 0 (Nat.le_refl _) HY3.out HO3.out (by decide) (Nat.le_of_lt HS3.out)).mono ?_); rintro en w4 ⟨rfl, v4, hx, ho, hb⟩; clear hx0 hx1; obtain ⟨A4, c4, rfl⟩ := Kd.R_slice ho; have HY4 := Aside0.mk hx; have HO4 := Aside0.mk ho; have HX4 := Aside0.mk (blk_step' hb (blk_lt HX2.out) HX3.out); have HB4 := Aside0.mk (below_low HB3.out HB2.out.size hb); clear hx ho hb; have hx0 := (blk_cell HX4.out 0).trans rfl; have hx1 := (blk_cell HX4.out 1).trans rfl; have hy0 := (blk_cell HY4.out 0).trans rfl)
    go_loopg [82] 0 (fun kq v82 w' => v82 = .int .i64 0 ∧ w' = w4)
    case atStart => exact ⟨rfl, rfl⟩
    case round =>
      obtain ⟨rfl, rfl⟩ := hrel
      go_wp2
      go_ret2
      exact ⟨_, rfl, Kd.R_lower HO4.out HB2.out.size, HB4.out⟩
theorem strO (w : World) {base : Nat} {A : Option Addr} {c : Nat} (h : Kd.R (Kd.int .u8) 5 w base (fun _ => True) (.slice A 2 c) [0, 0]) : (convert 52 9 (.slice A 2 c)).run Try.prog w = .ok (.string (strOfNums [0, 0])) w := own_string (P := Try.prog) Try.underlying52 Try.underlying5 Try.underlying9 (Kd.own_of_R h)
theorem fixed_ok (w : World) : Calls Try.prog 27 #[] w fun e w' => e = .returned (.bool true) ∧ Below w.heap.size w w' := by
  have hst : (strOfNums [0, 0]).toList = [0, 0] := by decide +kernel
  go_enter Try.func27, Try.ntmps27
  go_wp2_with (first
    | (go_at_call 33; (with_reducible refine (put_nil _).mono ?_); rintro en w2 ⟨v2, rfl, ho, hb⟩; obtain ⟨A2, c2, e2⟩ := Kd.R_slice ho; replace e2 : v2 = .slice A2 2 c2 := e2; subst e2; have hcv := strO w2 ho; have HO2 := Aside0.mk ho; have HB2 := Aside0.mk hb; clear ho hb)
    | (go_at_call 34; (with_reducible refine (schema_Name.calls 20 _ true _ (by decide +kernel)).mono ?_); rintro en w3 ⟨rfl, ⟨n3, rfl⟩⟩)
    | (go_at_call 34; (with_reducible refine (schema_Name.calls 20 _ false _ (by decide +kernel)).mono ?_); rintro en w4 ⟨rfl, ⟨n4, rfl⟩⟩))
  go_ret
  exact ⟨rfl, pw_below_drewN HB2.out _⟩
end Go.Proofs.Ytpfegfkniilobaa.Sch

namespace Go.Proofs.Ytpfegfkniilobaa.XSchema
open Go.RowKit Go.Proofs.YtpfegfkniilobaaW.PrintWords
def rowlocklaw12_fixed.f : Option Bool := some true
theorem rowlocklaw12_fixed.calls (r : Bool) (w : World) (h : rowlocklaw12_fixed.f = some r) : Calls Try.prog 27 #[] w fun e w' => e = .returned (.bool r) ∧ Below w.heap.size w w' := by
  obtain rfl := Option.some.inj h
  exact Sch.fixed_ok w
end Go.Proofs.Ytpfegfkniilobaa.XSchema
