/- The disk as a block in memory: Copy of a disk. Conditions: the disk's blocks are known (Dk). -/
import Derived.Test.YtolgcohmmghehaaDskC
namespace Go.Proofs.Ytolgcohmmghehaa.Dsk
open Go.RowKit Go.Proofs.YtolgcohmmghehaaW.PrintWords Go.Proofs.YtolgcohmmghehaaW.PrintLast Go.Proofs.YtolgcohmmghehaaW.PrintMore
set_option linter.unusedVariables false
set_option linter.unusedSimpArgs false
set_option maxRecDepth 100000
set_option maxHeartbeats 8000000 in
theorem copy_ok {w : World} {g : Nat} {d : List Int} {t : List Bool} {ok : Nat → Prop} (H : Dk w ok g d t) : Calls Try.prog 32 #[.pointer (some ⟨g, 0, none⟩)] w fun e w' => ∃ g', e = .returned (.pointer (some ⟨g', 0, none⟩)) ∧ Dk w' (fun k => w.heap.size ≤ k) g' d t ∧ Below w.heap.size w w' := by
  obtain ⟨gd, cd, gt, ct, hb, hcd, hct, hd, ht, _, _⟩ := H.form
  obtain ⟨_, hl, hl3, hl4, _⟩ := H
  have HC := Aside0.mk (Kd.R_reads' hd).2.2
  have HT := Aside0.mk (Kd.R_reads' ht).2.2
  have HL := Aside0.mk (And.intro hl (And.intro hl3 hl4))
  have hc0 := (blk_cell hb 0).trans rfl
  have hf0 := blk_frozen hb 0
  have hc1 := (blk_cell hb 1).trans rfl
  have hf1 := blk_frozen hb 1
  have HBk := Aside0.mk hb
  have hlt := blk_lt hb
  clear hb hcd hct hd ht hl hl3 hl4
  go_enter Try.func32, Try.ntmps32
  go_wp2
  have HB0 := Aside0.mk (Below.refl w.heap.size w)
  go_region_with (first
    | (go_at_call 64; (with_reducible refine (clone_ok (some ⟨gd, 0, none⟩) cd d _ (Kd.C_below HC.out (by repeat (first | (with_reducible exact HB1.out) | exact HB0.out | apply below_alloc | apply pw_below_drewN | apply below_drew1))) (by have := HL.out; omega)).mono ?_); rintro en w2 ⟨v, rfl, ho, hbl⟩; obtain ⟨A1, c1, e1⟩ := Kd.R_slice ho; subst e1; have HO1 := Aside0.mk ho; have HB2 := Aside0.mk (below_then (B := w.heap.size) (by repeat (first | (with_reducible exact HB1.out) | exact HB0.out | apply below_alloc | apply pw_below_drewN | apply below_drew1)) (by first | (have := HB1.out.size; simp; omega) | simp) hbl); have HL2 := Aside0.mk hbl; clear ho hbl; have HX2 := Aside0.mk (blk_below HBk.out HB2.out); have hc02 := (blk_cell HX2.out 0).trans rfl; have hf02 := blk_frozen HX2.out 0; have hc12 := (blk_cell HX2.out 1).trans rfl; have hf12 := blk_frozen HX2.out 1)
    | (go_at_call 68; (with_reducible refine (clone4_ok _ gt ct t (Kd.C_below HT.out (by repeat (first | (with_reducible exact HB2.out) | exact HB0.out | apply below_alloc | apply pw_below_drewN | apply below_drew1))) (by have := HL.out; omega)).mono ?_); rintro en w1 ⟨v, rfl, ho, hbl⟩; obtain ⟨A2, c2, e2⟩ := Kd.R_slice ho; subst e2; have HO2 := Aside0.mk ho; have HB1 := Aside0.mk (below_then (B := w.heap.size) (by repeat (first | (with_reducible exact HB2.out) | exact HB0.out | apply below_alloc | apply pw_below_drewN | apply below_drew1)) (by first | (have := HB2.out.size; simp; omega) | simp) hbl); have HL1 := Aside0.mk hbl; clear ho hbl; have HX1 := Aside0.mk (blk_below HBk.out HB1.out); have hc01 := (blk_cell HX1.out 0).trans rfl; have hf01 := blk_frozen HX1.out 0; have hc11 := (blk_cell HX1.out 1).trans rfl; have hf11 := blk_frozen HX1.out 1))
  all_goals
    go_wp2
    go_ret
    first
    | exact ⟨_, rfl, mk_dk rfl (by have := HL.out; omega) HL.out.2.1 HL.out.2.2 HB1.out (Kd.R_below (Kd.R_lower HO1.out (by first | (have := HB1.out.size; simp; omega) | simp)) HL1.out) (Kd.R_lower HO2.out (by first | (have := HB2.out.size; simp; omega) | simp))⟩
    | exact ⟨_, rfl, mk_dk rfl (by have := HL.out; omega) HL.out.2.1 HL.out.2.2 HB2.out (Kd.R_lower HO1.out (by first | (have := HB1.out.size; simp; omega) | simp)) (Kd.R_below (Kd.R_lower HO2.out (by first | (have := HB2.out.size; simp; omega) | simp)) HL2.out)⟩
end Go.Proofs.Ytolgcohmmghehaa.Dsk
