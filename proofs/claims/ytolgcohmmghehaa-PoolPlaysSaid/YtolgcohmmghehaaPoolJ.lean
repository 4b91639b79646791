/- The reference's Get in plain Lean; the law's 'same'. Conditions: stated in each theorem. -/
import Derived.Test.YtolgcohmmghehaaPoolH
import Derived.Test.YtolgcohmmghehaaXPoolPlaysr
namespace Go.Proofs.Ytolgcohmmghehaa.Pool
open Go.Proofs.YtolgcohmmghehaaW
open Go.RowKit Go.Proofs.YtolgcohmmghehaaW.PrintWords Go.Proofs.YtolgcohmmghehaaW.PrintLast Go.Proofs.YtolgcohmmghehaaW.PrintMore Go.Proofs.Ytolgcohmmghehaa.Byt Go.Proofs.Ytolgcohmmghehaa.Dsk
open Go.Proofs.Ytolgcohmmghehaa.XPoolPlays
set_option linter.unusedVariables false
set_option linter.unusedSimpArgs false
set_option maxRecDepth 100000
set_option maxHeartbeats 8000000 in
theorem same_ok {w : World} {ok : Nat → Prop} {g gd : Nat} {size : Int} {order : List Int} {rd ht : Int} {pgf : Int → List Int} {N : Nat} (h : Pw w ok g gd size order rd ht pgf N) (sz : Int) (A : Option Addr) (c : Nat) (hC : Kd.C (Kd.int .u32) w A order.length order) :
    Calls Try.prog 44 #[.pointer (some ⟨g, 0, none⟩), .agg #[.int .i64 sz, .slice A order.length c, .int .u64 rd, .int .u64 ht]] w fun e w' => e = .returned (.bool true) ∧ Below w.heap.size w w' := by
  obtain ⟨gm, n, D, vo, h⟩ := h
  have HP0 := Aside0.mk h
  have HC0 := Aside0.mk hC
  have HLA := Aside0.mk h.len2
  clear h hC
  go_enter Try.func44, Try.ntmps44
  go_upto_region 1 with fail
  have HB1 := Aside0.mk (below_alloc (Below.refl w.heap.size w) (.cells #[.int .i64 sz, .slice A order.length c, .int .u64 rd, .int .u64 ht] 78))
  have HX1 := Aside0.mk (blk_new w (.cells #[.int .i64 sz, .slice A order.length c, .int .u64 rd, .int .u64 ht] 78))
  generalize hw1 : w.alloc (.cells #[.int .i64 sz, .slice A order.length c, .int .u64 rd, .int .u64 ht] 78) = w1 at HB1 HX1 ⊢
  clear hw1
  go_upto_region 2 with (go_at_call 42; (with_reducible refine (kept_ok (HP0.out.below HB1.out)).mono ?_); rintro en w4 ⟨v4, rfl, ho, hb⟩; obtain ⟨A4, c4, rfl⟩ := Kd.R_slice ho; have HX4 := Aside0.mk ho; have HY4 := Aside0.mk (blk_below HX1.out hb); have HB4 := Aside0.mk (below_then HB1.out HB1.out.size hb); clear ho hb)
  have hx1 := (blk_cell HY4.out 1).trans rfl
  have hx2 := (blk_cell HY4.out 2).trans rfl
  have hx3 := (blk_cell HY4.out 3).trans rfl
  go_cut [28] from 9 to 28 (fun s28 wc => s28 = .bool false ∧ Aside0 (Below w4.heap.size w4 wc))
  case first =>
    go_region_with (first
      | (go_at_call 39; (with_reducible refine (reads_ok (HP0.out.below (below_drew1 HB4.out))).mono ?_); rintro en w6 ⟨rfl, rfl⟩)
      | (go_at_call 40; (with_reducible refine (hits_ok (HP0.out.below (below_drew1 HB4.out))).mono ?_); rintro en w8 ⟨rfl, rfl⟩))
    all_goals
      go_wp2
      go_meet
      exact ⟨rfl, ⟨below_drew1 (Below.refl _ _)⟩⟩
  case rest =>
    obtain ⟨rfl, HB⟩ := hcut
    clear hx1 hx2 hx3
    have HXX := Aside0.mk ((Kd.R_reads' (Kd.R_below HX4.out HB.out)).2.2)
    have HYY := Aside0.mk (Kd.C_below HC0.out (below_then HB4.out HB4.out.size HB.out))
    have HZZ := Aside0.mk (blk_below HY4.out HB.out)
    have HBB := Aside0.mk (below_then HB4.out HB4.out.size HB.out)
    clear HX4 HY4 HB4 HB
    go_wp2
    go_loopg [31] order.length (fun kq v31 w' => ∃ (j : Nat), v31 = .int .i64 (j : Int) ∧ Aside0 (kq + j = order.length) ∧ Aside0 (Kd.C (Kd.int .u32) w' A4 order.length order) ∧ Aside0 (Kd.C (Kd.int .u32) w' A order.length order) ∧ Aside0 (w'.heap[w.heap.size]? = some (.cells #[.int .i64 sz, .slice A order.length c, .int .u64 rd, .int .u64 ht] 78 (0, 0))) ∧ Aside0 (Below w.heap.size w w'))
    case atStart => exact ⟨0, rfl, ⟨by omega⟩, HXX, HYY, HZZ, HBB⟩
    case round =>
      clear HXX HYY HZZ HBB HC0
      obtain ⟨j, rfl, HI, HCX, HCY, HZZ, HZ⟩ := hrel
      by_cases c7 : j < order.length
      · have c7b : decide ((j : Int) < (order.length : Int)) = true := decide_eq_true (by omega)
        have c7c : decide (j < order.length) = true := decide_eq_true c7
        obtain ⟨ad, e1, hx0⟩ := Kd.at_int HCX.out (j : Int) (by omega) (by omega)
        obtain ⟨ad2, e2, hy0⟩ := Kd.at_int HCY.out (j : Int) (by omega) (by omega)
        subst e1 e2
        rw [Int.toNat_natCast] at hx0 hy0
        have hz1 := (blk_cell HZZ.out 1).trans rfl
        have p9 : (0 ≤ (j : Int)) = True := eq_true (by omega)
        have q9 : ((j : Int) < (order.length : Int)) = True := eq_true (by omega)
        have q9b : (j < order.length) = True := eq_true c7
        have HJ := Aside0.mk c7
        clear c7
        go_wp2
        go_quiet (fail)
        go_wp2
        go_roundg (gk - 1)
        case measure => have h1 := HI.out; have h2 := HJ.out; omega
        case rel =>
          have h1 := HI.out
          have h2 := HJ.out
          have h3 := HLA.out
          exact ⟨j + 1, by first | rfl | (rw [wr_in ((j : Int) + 1) (by omega)]; rfl), ⟨by omega⟩, ⟨HCX.out⟩, ⟨HCY.out⟩, ⟨blk_drewN HZZ.out _⟩, ⟨pw_below_drewN HZ.out _⟩⟩
      · have c7b : decide ((j : Int) < (order.length : Int)) = false := decide_eq_false (by omega)
        have c7c : decide (j < order.length) = false := decide_eq_false c7
        clear c7
        go_wp2
        go_ret
        exact ⟨rfl, HZ.out⟩
end Go.Proofs.Ytolgcohmmghehaa.Pool
