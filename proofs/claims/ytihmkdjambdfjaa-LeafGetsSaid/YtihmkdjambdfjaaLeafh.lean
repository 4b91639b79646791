/- The leaf's functions in the print's words; the chapter's example. Conditions: stated in each theorem. -/
import Derived.Test.YtihmkdjambdfjaaLfG
namespace Go.Proofs.Ytihmkdjambdfjaa.Lf
open Go.RowKit Go.Proofs.YtihmkdjambdfjaaW.PrintWords Go.Proofs.YtihmkdjambdfjaaW.PrintLast Go.Proofs.YtihmkdjambdfjaaW.PrintMore Go.Proofs.Ytihmkdjambdfjaa.XLeaf Go.Proofs.Ytihmkdjambdfjaa.Tk
set_option linter.unusedVariables false
set_option linter.unusedSimpArgs false
set_option maxRecDepth 100000
def fx : S27 := ⟨⟨#[97, 98, 99]⟩, ⟨0, 0⟩⟩
def fxB : List Int := [2, 0, 0, 1, 0, 0, 0, 7, 0, 3, 97, 98, 99, 0, 0, 0, 0, 0, 0] ++ List.replicate 493 0
theorem fx_put : putL 7 [fx] = (fxB, 0) := by
  have h1 : (putL 7 [fx]).1 = fxB := by decide +kernel
  have h2 : (putL 7 [fx]).2 = 0 := by decide +kernel
  exact Prod.ext h1 h2
theorem fx_get : getL fxB = (7, [fx], 0) := by kernel_rfl
theorem fx_by : By fxB := by
  have h : fxB.all (fun x => decide (0 ≤ x ∧ x ≤ 255)) = true := by decide +kernel
  exact fun x hx => by simpa using List.all_eq_true.1 h x hx
theorem fx_good : goodE [fx] := ⟨by decide, fun x hx => by
  rw [List.mem_singleton.1 hx]
  exact ⟨by decide, by decide, by decide, by decide, by decide⟩⟩
theorem fx_put_ok (w : World) (A : Option Addr) (c : Nat) (hC : Kd.C k27 w A 1 [fx]) (hc : 1 ≤ c) :
    Calls Try.prog 14 #[.int .u32 7, .slice A 1 c] w fun e w' => ∃ A' c', e = .returned (.tuple #[.slice A' 512 c', .int .i64 0]) ∧ 512 ≤ c' ∧ Kd.C (Kd.int .u8) w' A' 512 fxB ∧ Below w.heap.size w w' := by
  have hl : fxB.length = 512 := by decide +kernel
  refine (putLeaf_is (next := 7) (l := [fx]) (p1 := fxB) (p2 := 0) (by rw [fx_put]) (by rw [fx_put]) w A c fx_good hC hc).mono ?_
  rintro e w' ⟨A', c', rfl, h1, h2, h3⟩
  rw [hl] at h1 h2 ⊢
  exact ⟨A', c', rfl, h1, h2, h3⟩
theorem fx_get_ok (w : World) (A : Option Addr) (c : Nat) (hC : Kd.C (Kd.int .u8) w A 512 fxB) (hc : 512 ≤ c) :
    Calls Try.prog 20 #[.slice A 512 c] w fun e w' => ∃ A' c', e = .returned (.tuple #[.int .u32 7, .slice A' 1 c', .int .i64 0]) ∧ 1 ≤ c' ∧ Kd.C k27 w' A' 1 [fx] ∧ Below w.heap.size w w' := by
  have hl : fxB.length = 512 := by decide +kernel
  have h := getLeaf_ok w A c fxB (by rw [hl]; exact hC) (by rw [hl]; exact hc) fx_by
  rw [hl, fx_get] at h
  refine h.mono ?_
  rintro e w' ⟨v, rfl, ho, hb⟩
  obtain ⟨A', c', rfl⟩ := Kd.R_slice ho
  have h3 := Kd.R_reads' ho
  exact ⟨A', c', rfl, h3.2.1, h3.2.2, hb⟩
theorem fx_same : rowlockref10_Same.f 3 [fx] [fx] = some true := by kernel_rfl
theorem fx_same_ok (w : World) (A B : Option Addr) (c d : Nat) (hC : Kd.C k27 w A 1 [fx]) (hc : 1 ≤ c) (hD : Kd.C k27 w B 1 [fx]) (hd : 1 ≤ d) :
    Calls Try.prog 22 #[.slice A 1 c, .slice B 1 d] w fun e w' => e = .returned (.bool true) ∧ Below w.heap.size w w' := by
  refine (rowlockref10_Same.calls 3 A c [fx] B d [fx] true w hC hc hD hd fx_same).mono ?_
  rintro e w' ⟨rfl, h⟩
  exact ⟨rfl, h.below⟩
theorem fx_size : szE [fx] = 11 := by decide +kernel
theorem fx_size_ok (w : World) (A : Option Addr) (c : Nat) (hC : Kd.C k27 w A 1 [fx]) (hc : 1 ≤ c) :
    Calls Try.prog 18 #[.slice A 1 c] w fun e w' => e = .returned (.int .i64 19) ∧ Below w.heap.size w w' := by
  have h := size_ok A c [fx] w hC hc fx_good
  rw [fx_size] at h
  exact h
set_option maxHeartbeats 4000000 in
theorem fixed_ok (w : World) : Calls Try.prog 10 #[] w fun e w' => e = .returned (.bool true) ∧ Below w.heap.size w w' := by
  go_enter Try.func10, Try.ntmps10
  go_wp2_with (first
    | ((with_reducible refine gate_dst (N := 8) rfl ?_); refine Kd.R_lit k27 _ 27 ?hg (N := 8) ?hd (xs := [fx]) (inner := [.string ⟨#[97, 98, 99]⟩, .int .u32 0, .int .u16 0]) (ok := fun _ => True) (okp := fun _ => True) ?hr ?hp (fun _ hk => hk) trivial (Below.refl w.heap.size w) (Nat.le_refl _) (by simp) ?_; (case hd => rfl); (case hg => rfl); (case hr => first | (go_simp; done) | (go_simp; rfl)); (case hp => exact (Reps.c3 (k27_mkM _ _ _ fx) (Reps.none _ _))); intro v1 w1 ho1 hb1 hg1 hnew1; (obtain ⟨A1, c1, e1⟩ := Kd.R_slice ho1); replace e1 : v1 = .slice A1 1 c1 := e1; subst e1; have HC1 := Aside0.mk (show 1 ≤ c1 ∧ Kd.C k27 w1 A1 1 [fx] from ⟨(Kd.R_reads' ho1).2.1, (Kd.R_reads' ho1).2.2⟩); have HB1 := Aside0.mk hb1; clear ho1 hb1 hg1 hnew1)
    | (go_at_call 14; (with_reducible refine (fx_put_ok _ A1 c1 HC1.out.2 HC1.out.1).mono ?_); rintro en w2 ⟨A2, c2, rfl, hc2, hC2, hb2⟩; have HC2 := Aside0.mk (And.intro hc2 hC2); have HB2 := Aside0.mk (below_then HB1.out HB1.out.size hb2); have HD2 := Aside0.mk (Kd.C_below HC1.out.2 hb2); clear hc2 hC2 hb2)
    | (go_at_call 20; (with_reducible refine (fx_get_ok _ A2 c2 HC2.out.2 HC2.out.1).mono ?_); rintro en w3 ⟨A3, c3, rfl, hc3, hC3, hb3⟩; have HC3 := Aside0.mk (And.intro hc3 hC3); have HB3 := Aside0.mk (below_then HB2.out HB2.out.size hb3); have HD3 := Aside0.mk (Kd.C_below HD2.out hb3); clear hc3 hC3 hb3)
    | (go_at_call 18; (with_reducible refine (fx_size_ok _ A1 c1 HD3.out HC1.out.1).mono ?_); rintro en w4 ⟨rfl, hb4⟩; have HB4 := Aside0.mk (below_then HB3.out HB3.out.size hb4); have HD4 := Aside0.mk (Kd.C_below HD3.out hb4); have HC4 := Aside0.mk (Kd.C_below HC3.out.2 hb4); clear hb4)
    | (go_at_call 22; (with_reducible refine (fx_same_ok _ A1 A3 c1 c3 HD4.out HC1.out.1 HC4.out HC3.out.1).mono ?_); rintro en w5 ⟨rfl, hb5⟩; have HB5 := Aside0.mk (below_then HB4.out HB4.out.size hb5); clear hb5))
  go_ret
  exact ⟨rfl, HB5.out⟩
end Go.Proofs.Ytihmkdjambdfjaa.Lf
namespace Go.Proofs.Ytihmkdjambdfjaa.XLeaf
open Go.RowKit Go.Proofs.YtihmkdjambdfjaaW.PrintWords
def rowlocklaw10_fixed.f : Option Bool := some true
theorem rowlocklaw10_fixed.calls (r : Bool) (w : World) (h : rowlocklaw10_fixed.f = some r) : Calls Try.prog 10 #[] w fun e w' => e = .returned (.bool r) ∧ Below w.heap.size w w' := by
  obtain rfl := Option.some.inj h
  exact Lf.fixed_ok w
end Go.Proofs.Ytihmkdjambdfjaa.XLeaf
