/- The chapter's example of pools; a nil pool's Head; the law PoolNil. Conditions: none. -/
import Derived.Test.YtolgcohmmghehaaPoolE
namespace Go.Proofs.Ytolgcohmmghehaa.Pool
open Go.Proofs.YtolgcohmmghehaaW
open Go.RowKit Go.Proofs.YtolgcohmmghehaaW.PrintWords Go.Proofs.YtolgcohmmghehaaW.PrintLast Go.Proofs.YtolgcohmmghehaaW.PrintMore Go.Proofs.Ytolgcohmmghehaa.Byt Go.Proofs.Ytolgcohmmghehaa.Dsk
set_option linter.unusedVariables false
set_option linter.unusedSimpArgs false
set_option maxRecDepth 100000
def pl (i : Nat) : Int := ([1, 2, 1, 3, 2] : List Int).getD i 0
def stO (i : Nat) : List Int := ([[], [1], [1, 2], [2, 1], [1, 3], [3, 2]] : List (List Int)).getD i []
def stR (i : Nat) : Int := ([0, 1, 2, 2, 3, 4] : List Int).getD i 0
def stH (i : Nat) : Int := ([0, 0, 0, 1, 1, 1] : List Int).getD i 0
theorem five (i : Nat) (h : i < 5) : i = 0 ∨ i = 1 ∨ i = 2 ∨ i = 3 ∨ i = 4 := by omega
theorem st_step (i : Nat) (h : i < 5) : lru 2 (stO i) (pl i) = stO (i + 1) ∧ (if pl i ∈ stO i then stR i else stR i + 1) = stR (i + 1) ∧ (if pl i ∈ stO i then stH i + 1 else stH i) = stH (i + 1) := by
  rcases five i h with rfl | rfl | rfl | rfl | rfl <;> exact ⟨by decide, by decide, by decide⟩
theorem st_in (i : Nat) (h : i < 5) : 0 ≤ pl i ∧ pl i < 4 ∧ (stO i).length < 4096 ∧ 0 ≤ stR i ∧ stR i ≤ 1000000 ∧ 0 ≤ stH i ∧ stH i ≤ 1000000 := by
  rcases five i h with rfl | rfl | rfl | rfl | rfl <;> exact ⟨by decide, by decide, by decide, by decide, by decide, by decide, by decide⟩
theorem st_cell (i : Nat) (h : i < 5) : (#[Value.int .u32 1, .int .u32 2, .int .u32 1, .int .u32 3, .int .u32 2] : Array Value)[i]? = some (.int .u32 (pl i)) := by
  rcases five i h with rfl | rfl | rfl | rfl | rfl <;> rfl
set_option maxHeartbeats 8000000 in
theorem fixed_ok (w : World) : Calls Try.prog 35 #[] w fun e w' => e = .returned (.bool true) ∧ Below w.heap.size w w' := by
  go_enter Try.func35, Try.ntmps35
  go_upto_region 2 with (first
    | (go_at_call 36; (with_reducible refine (begin4 _).mono ?_); rintro en w1 ⟨gd, d, t, rfl, hd, ht, hy, hb⟩; have HD1 := Aside0.mk hd.bound; have HB1 := Aside0.mk hb; have HT := Aside0.mk ht; clear hd hb ht hy)
    | (go_at_call 37; (with_reducible refine (new_ok' _ gd 2 (by omega) (fun q => pg d q.toNat)).mono ?_); rintro en w2 ⟨g, gm, rfl, hp, hb⟩; have HP2 := Aside0.mk hp; have HD2 := Aside0.mk (HD1.out.below hb); have HB2 := Aside0.mk (below_then HB1.out HB1.out.size hb); have HS2 := Aside0.mk (And.intro HB1.out.size hb.size); clear hp hb))
  have HX := Aside0.mk (blk_new w2 (.cells #[.int .u32 1, .int .u32 2, .int .u32 1, .int .u32 3, .int .u32 2] 23))
  have HB3 := Aside0.mk (below_alloc HB2.out (.cells #[.int .u32 1, .int .u32 2, .int .u32 1, .int .u32 3, .int .u32 2] 23))
  have HP3 := Aside0.mk (HP2.out.bound.alloc (.cells #[.int .u32 1, .int .u32 2, .int .u32 1, .int .u32 3, .int .u32 2] 23))
  have HD3 := Aside0.mk (HD2.out.alloc (.cells #[.int .u32 1, .int .u32 2, .int .u32 1, .int .u32 3, .int .u32 2] 23))
  go_wp2
  obtain ⟨gl, hgl⟩ : ∃ gl, gl = w2.heap.size := ⟨_, rfl⟩
  generalize hw3 : w2.alloc (.cells #[.int .u32 1, .int .u32 2, .int .u32 1, .int .u32 3, .int .u32 2] 23) = w3 at HX HB3 HP3 HD3 ⊢
  rw [← hgl] at HX HP3 ⊢
  have HGL := Aside0.mk (And.intro hgl (show gl < w3.heap.size by rw [← hw3, World.size_alloc]; omega))
  clear hgl hw3
  go_loopg [13] 5 (fun kq v13 w' => ∃ (i : Nat) (okp : Nat → Prop), v13 = .int .i64 (i : Int) ∧ Aside0 (kq + i = 5) ∧ Aside0 (Pw w' okp g gd 2 (stO i) (stR i) (stH i) (fun q => pg d q.toNat) i ∧ ∀ k, okp k → w1.heap.size ≤ k ∧ k ≠ gl) ∧ Aside0 (Dk w' (fun k => w.heap.size ≤ k ∧ k < w1.heap.size) gd d t) ∧ Aside0 (w'.heap[gl]? = some (.cells #[.int .u32 1, .int .u32 2, .int .u32 1, .int .u32 3, .int .u32 2] 23 (0, 0))) ∧ Aside0 (Below w.heap.size w w'))
  case atStart => exact ⟨0, _, rfl, ⟨by omega⟩, ⟨⟨_, _, _, _, HP3.out⟩, fun k hk => ⟨hk.1, by have := hk.2; omega⟩⟩, HD3, HX, HB3⟩
  case round =>
    clear HB3 HP3 HD3 HX
    obtain ⟨i, okp, rfl, HI, HP, HD, HX, HB⟩ := hrel
    by_cases c5 : i < 5
    · have c5b : decide ((i : Int) < 5) = true := decide_eq_true (by omega)
      have c5c : decide (i < 5) = true := decide_eq_true c5
      have hx0 := (blk_cell HX.out i).trans (st_cell i c5)
      have ea : Addr.add ⟨gl, 0, none⟩ i = ⟨gl, i, none⟩ := add0 _ _
      have p9 : (0 ≤ (i : Int)) = True := eq_true (by omega)
      have q9 : ((i : Int) < 5) = True := eq_true (by omega)
      have q9b : (i < 5) = True := eq_true c5
      obtain ⟨p, hp⟩ : ∃ p, p = pl i := ⟨_, rfl⟩
      rw [← hp] at hx0
      have HC := Aside0.mk (And.intro c5 hp)
      clear c5 hp
      go_wp2_with (go_at_call 38; (with_reducible refine (get_ok HP.out.1 HD.out (by omega) (by have := HC.out.1; omega) p (by have h := (st_in i HC.out.1).1; have e2 := HC.out.2; omega) (by have h := (st_in i HC.out.1).2.1; have e := HT.out; have e2 := HC.out.2; omega) (fun _ => rfl) (st_in i HC.out.1).2.2.1 (st_in i HC.out.1).2.2.2).mono ?_); rintro en w4 ⟨v, rfl, ho, hp4, hk4⟩; have HP4 := Aside0.mk hp4; have HK4 := Aside0.mk hk4; clear ho hp4 hk4)
      go_roundg (gk - 1)
      case measure => have h1 := HI.out; have h2 := HC.out.1; omega
      case rel =>
        have h1 := HI.out
        have h2 := HC.out.1
        have h3 := st_step i h2
        have h4 := HP4.out
        rw [HC.out.2, h3.1, h3.2.1, h3.2.2] at h4
        have hgl := blk_lt HX.out
        have hs1 := HS2.out
        exact ⟨i + 1, _, by first | rfl | (rw [wr_in ((i : Int) + 1) (by omega)]; rfl), ⟨by omega⟩, ⟨h4, fun k hk => ⟨hk.1.elim (fun h => (HP.out.2 k h).1) (fun h => by have := HGL.out.1; omega), hk.1.elim (fun h => (HP.out.2 k h).2) (fun h => by omega)⟩⟩, ⟨HD.out.kept HK4.out.kept (fun k hk h => by have := (HP.out.2 k h).1; omega)⟩, ⟨blk_kept HX.out HK4.out.kept (fun h => (HP.out.2 gl h).2 rfl)⟩, ⟨HB.out.trans (HK4.out.to_below w.heap.size (fun k hk => Nat.le_trans hs1.1 (HP.out.2 k hk).1) HB.out.size)⟩⟩
    · have c5b : decide ((i : Int) < 5) = false := decide_eq_false (by omega)
      have c5c : decide (i < 5) = false := decide_eq_false c5
      have hi : i = 5 := by have := HI.out; omega
      subst hi
      obtain ⟨gm5, n5, D5, vo5, hpl⟩ := HP.out.1
      have HP5 := Aside0.mk hpl
      clear HP hpl c5
      go_wp2_with (first
        | (go_at_call 42; (with_reducible refine (kept_ok HP5.out).mono ?_); rintro en w6 ⟨v, rfl, ho, hb⟩; obtain ⟨gk6, ck, ek, _⟩ := Kd.R_form ho (by decide); rw [show (stO 5).length = 2 from rfl] at ek; subst ek; have HP6 := Aside0.mk (HP5.out.below hb); have HB6 := Aside0.mk (below_then HB.out HB.out.size hb); have hz0 : w6.cell? ⟨gk6, 0, none⟩ = some (.int .u32 3) := (Kd.R_cell (0 : Int) (show Kd.R (Kd.int .u32) 23 w6 _ _ (.slice (some ⟨gk6, 0, none⟩) ([3, 2] : List Int).length ck) [3, 2] from ho) (0 : Int) (by decide) (by decide)).1; have hz1 : w6.cell? ⟨gk6, 1, none⟩ = some (.int .u32 2) := (Kd.R_cell (0 : Int) (show Kd.R (Kd.int .u32) 23 w6 _ _ (.slice (some ⟨gk6, 0, none⟩) ([3, 2] : List Int).length ck) [3, 2] from ho) (1 : Int) (by decide) (by decide)).1; clear ho hb)
        | (go_at_call 39; (with_reducible refine (reads_ok HP6.out).mono ?_); rintro en w7 ⟨rfl, rfl⟩)
        | (go_at_call 40; (with_reducible refine (hits_ok HP6.out).mono ?_); rintro en w8 ⟨rfl, rfl⟩))
      go_ret
      exact ⟨by simp [stR, stH], HB6.out⟩
theorem head_nil (w : World) (p k : Int) : Calls Try.prog 46 #[.pointer none, .int .u32 p, .int .u8 k] w fun e w' => e = .returned (.tuple #[.agg #[.int .u8 0, .int .u16 0, .int .u32 0], .slice none 0 0, .int .i64 1]) ∧ Below w.heap.size w w' := by
  have HX := Aside0.mk (blk_new w (.cells #[.int .u8 0, .int .u16 0, .int .u32 0] 25))
  have HB := Aside0.mk (below_alloc (Below.refl w.heap.size w) (.cells #[.int .u8 0, .int .u16 0, .int .u32 0] 25))
  go_enter Try.func46, Try.ntmps46
  go_wp2_with (go_at_call 38; (with_reducible refine (get_nil _ p).mono ?_); rintro en w2 ⟨rfl, hb⟩; have HX2 := Aside0.mk (blk_below HX.out hb); have HB2 := Aside0.mk (below_then HB.out HB.out.size hb); clear hb; have hx0 := (blk_cell HX2.out 0).trans rfl; have hx1 := (blk_cell HX2.out 1).trans rfl; have hx2 := (blk_cell HX2.out 2).trans rfl; have hf0 := blk_frozen HX2.out 0; have hf1 := blk_frozen HX2.out 1; have hf2 := blk_frozen HX2.out 2)
  have hb0 := blk_put HX2.out 0 (.int .u8 0) rfl
  have hb1 := blk_put hb0 1 (.int .u16 0) rfl
  have hb2 := blk_put hb1 2 (.int .u32 0) rfl
  refine bodyPost_ret (results_ctt rfl _ _ w.heap.size 25 #[.int .u8 0, .int .u16 0, .int .u32 0] (0, 0) _ rfl hb2 Try.underlying25 rfl (by kernel_rfl)) rfl ?_
  exact ⟨rfl, below_set (below_set (below_set HB2.out (Nat.le_refl _)) (Nat.le_refl _)) (Nat.le_refl _)⟩
set_option maxHeartbeats 8000000 in
theorem PoolNil_ok (n sz : Int) (w : World) : Calls Try.prog 12 #[.int .u32 n, .int .i64 sz] w fun e w' => e = .returned (.bool true) ∧ Below w.heap.size w w' := by
  go_enter Try.func12, Try.ntmps12
  go_wp2_with (first
    | (go_at_call 38; (with_reducible refine (get_nil _ n).mono ?_); rintro en w1 ⟨rfl, hb⟩; have HB1 := Aside0.mk hb; clear hb)
    | (go_at_call 46; (with_reducible refine (head_nil _ n 1).mono ?_); rintro en w2 ⟨rfl, hb⟩; have HB2 := Aside0.mk (below_then HB1.out HB1.out.size hb); clear hb)
    | (go_at_call 37; (with_reducible refine (new_nil _ sz).mono ?_); rintro en w3 ⟨rfl, rfl⟩)
    | (go_at_call 41; (with_reducible refine (reset_nil _).mono ?_); rintro en w4 ⟨rfl, rfl⟩)
    | (go_at_call 35; (with_reducible refine (fixed_ok _).mono ?_); rintro en w5 ⟨rfl, hb⟩; have HB5 := Aside0.mk (below_then (below_alloc HB2.out _) (below_alloc HB2.out _).size hb); clear hb)
    | (go_at_call 39; (with_reducible refine (reads_nil _).mono ?_); rintro en w6 ⟨rfl, rfl⟩)
    | (go_at_call 40; (with_reducible refine (hits_nil _).mono ?_); rintro en w7 ⟨rfl, rfl⟩)
    | (go_at_call 42; (with_reducible refine (kept_nil _).mono ?_); rintro en w8 ⟨rfl, rfl⟩)
    | (go_at_call 45; (with_reducible refine (pages_nil _).mono ?_); rintro en w9 ⟨rfl, rfl⟩))
  go_ret
  exact ⟨rfl, HB5.out⟩
end Go.Proofs.Ytolgcohmmghehaa.Pool
