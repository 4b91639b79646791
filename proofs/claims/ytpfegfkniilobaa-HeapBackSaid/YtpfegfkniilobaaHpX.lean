/- heap.Scan walked over the Way. -/
import Derived.Test.YtpfegfkniilobaaHpW
namespace Go.Proofs.Ytpfegfkniilobaa.Hp
open Go.RowKit Go.Proofs.YtpfegfkniilobaaW.PrintWords Go.Proofs.YtpfegfkniilobaaW.PrintLast Go.Proofs.YtpfegfkniilobaaW.PrintMore Go.Proofs.Ytpfegfkniilobaa.Byt Go.Proofs.Ytpfegfkniilobaa.Dsk Go.Proofs.Ytpfegfkniilobaa.XHeap
set_option linter.unusedVariables false
set_option linter.unusedSimpArgs false
set_option maxRecDepth 100000
/-- Scan's box, still empty. -/
abbrev B59 : Obj := .cells #[.slice none 0 0] 59
theorem wk_start {w : World} {okP D : Nat → Prop} {g gd K : Nat} {d : List Int} {t : List Bool} (hx : Px w okP g gd d t K) (hd : Dk w D gd d t) (hap : ∀ k, okP k → ¬ D k ∧ k < w.heap.size) (hD : ∀ k, D k → k < w.heap.size) (hn : Kd.R k66 66 (w.alloc B59) (w.alloc B59).heap.size (fun _ => False) (.slice none 0 0) []) :
    Wk (w.alloc B59) (w.alloc B59) okP D (fun _ => False) g gd w.heap.size K d t (.slice none 0 0) [] := by
  have hb := below_alloc (Below.refl w.heap.size w) B59
  have hs := World.size_alloc w B59
  exact ⟨hx.below hb, hd.below hb, blk_new w B59, hn, fun k hk => ⟨fun h => h, (hap k hk).1, by have := (hap k hk).2; omega, by have := (hap k hk).2; omega⟩, fun k hk => hk.elim, fun k hk => ⟨by have := hD k hk; omega, by have := hD k hk; omega⟩, Nat.le_refl _, Pool.Kp.of_below (Below.refl _ _) _⟩
set_option maxHeartbeats 8000000 in
theorem scan_ok {w : World} {okP D : Nat → Prop} {g gd K : Nat} {d : List Int} {t : List Bool} {p : Int} {k e : Int} {o : List S66} (hx : Px w okP g gd d t K) (hd : Dk w D gd d t) (hap : ∀ k, okP k → ¬ D k ∧ k < w.heap.size) (hD : ∀ k, D k → k < w.heap.size) (hy : By d) (hp : 0 ≤ p ∧ p < 4294967296) (hw : Way d t t.length p 1 [] k e o) (hK : K + t.length ≤ 800000) :
    Calls Try.prog 21 #[.pointer (some ⟨g, 0, none⟩), .int .u32 p] w fun en w' => ∃ okP' okI' v K', en = .returned (.tuple #[if e = 0 then v else .slice none 0 0, .int .i64 (if e = 0 then k else 0), .int .i64 e]) ∧ Wk (w.alloc B59) w' okP' D okI' g gd w.heap.size K' d t v o ∧ K' ≤ K + t.length := by
  have hn : Kd.R k66 66 (w.alloc B59) (w.alloc B59).heap.size (fun _ => False) (.slice none 0 0) [] := by exact Kd.R_nil _ _ _ _ _
  have h0 := wk_start hx hd hap hD hn
  have hh := walk_ok h0 hy hp hw hK
  have HH := Aside0.mk hh
  clear hx hd hap hD hy hw hK hn h0 hh
  go_enter Try.func21, Try.ntmps21
  by_cases ce : e = 0
  · have c1 : (e != 0) = false := by rw [ce]; rfl
    rw [ce] at HH c1 ⊢
    go_wp2_with (go_at_call 50; (with_reducible refine HH.out.mono ?_); rintro en w4 ⟨okQ, okI, v, K', rfl, hk, hkb⟩; have HK := Aside0.mk hk; have HKB := Aside0.mk hkb; clear hkb; have hbx := (blk_cell hk.box 0).trans rfl; clear hk)
    go_ret3
    exact ⟨_, _, v, rfl, _, HK.out, HKB.out⟩
  · have c1 : (e != 0) = true := bne_iff_ne.mpr ce
    go_wp2_with (go_at_call 50; (with_reducible refine HH.out.mono ?_); rintro en w4 ⟨okQ, okI, v, K', rfl, hk, hkb⟩; have HK := Aside0.mk hk; have HKB := Aside0.mk hkb; clear hk hkb)
    go_ret3
    exact ⟨by first | rfl | (rw [if_neg ce, if_neg ce]; rfl) | simp [ce], _, _, v, _, HK.out, HKB.out⟩
end Go.Proofs.Ytpfegfkniilobaa.Hp
