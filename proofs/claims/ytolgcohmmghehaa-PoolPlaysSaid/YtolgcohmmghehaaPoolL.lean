/- The law PoolPlays. Conditions: the numbers are of their kinds. -/
import Derived.Test.YtolgcohmmghehaaPoolK
namespace Go.Proofs.Ytolgcohmmghehaa.Pool
open Go.Proofs.YtolgcohmmghehaaW
open Go.RowKit Go.Proofs.YtolgcohmmghehaaW.PrintWords Go.Proofs.YtolgcohmmghehaaW.PrintLast Go.Proofs.YtolgcohmmghehaaW.PrintMore Go.Proofs.Ytolgcohmmghehaa.Byt Go.Proofs.Ytolgcohmmghehaa.Dsk
open Go.Proofs.Ytolgcohmmghehaa.XPoolPlays
set_option linter.unusedVariables false
set_option linter.unusedSimpArgs false
set_option maxRecDepth 100000
theorem Pl.pw' {w : World} {ok : Nat → Prop} {g gd : Nat} {size : Int} {order : List Int} {rd ht : Int} {pgf : Int → List Int} {N gm n : Nat} {D : DataW Unit} {vo : Value} (h : Pl w ok g gd size order order rd ht pgf N gm n D vo) : Pw w ok g gd size order rd ht pgf N := ⟨_, _, _, _, h⟩
theorem PoolPlays_big (pages size reset : Int) (A : Option Addr) (n c : Nat) (w : World) (h : pages < 1 ∨ 20 < pages ∨ 300 < n) : Calls Try.prog 10 #[.int .i64 pages, .int .i64 size, .slice A n c, .int .u8 reset] w fun e w' => e = .returned (.bool true) ∧ Below w.heap.size w w' := by
  by_cases h1 : pages < 1
  · have c1 : decide (pages < 1) = true := decide_eq_true h1
    clear h h1
    go_enter Try.func10, Try.ntmps10
    go_wp2_with (go_at_call 35; (with_reducible refine (fixed_ok _).mono ?_); rintro en w1 ⟨rfl, hb⟩; have HB := Aside0.mk hb; clear hb)
    go_ret
    exact ⟨rfl, HB.out⟩
  have c1 : decide (pages < 1) = false := decide_eq_false h1
  by_cases h2 : 20 < pages
  · have c2 : decide (20 < pages) = true := decide_eq_true h2
    clear h h1 h2
    go_enter Try.func10, Try.ntmps10
    go_wp2_with (go_at_call 35; (with_reducible refine (fixed_ok _).mono ?_); rintro en w1 ⟨rfl, hb⟩; have HB := Aside0.mk hb; clear hb)
    go_ret
    exact ⟨rfl, HB.out⟩
  have c2 : decide (20 < pages) = false := decide_eq_false h2
  have c3 : decide (300 < (n : Int)) = true := decide_eq_true (by omega)
  have c3b : decide (300 < n) = true := decide_eq_true (by omega)
  clear h h1 h2
  go_enter Try.func10, Try.ntmps10
  go_wp2_with (go_at_call 35; (with_reducible refine (fixed_ok _).mono ?_); rintro en w1 ⟨rfl, hb⟩; have HB := Aside0.mk hb; clear hb)
  go_ret
  exact ⟨rfl, HB.out⟩
theorem PoolPlays_small (pages : Nat) (size reset : Int) (A : Option Addr) (n c : Nat) (w : World) (hp : 1 ≤ pages ∧ pages ≤ 20) (hn : n ≤ 300) (hs : size < 1) : Calls Try.prog 10 #[.int .i64 (pages : Int), .int .i64 size, .slice A n c, .int .u8 reset] w fun e w' => e = .returned (.bool true) ∧ Below w.heap.size w w' := by
  have c1 : decide ((pages : Int) < 1) = false := decide_eq_false (by omega)
  have c2 : decide (20 < (pages : Int)) = false := decide_eq_false (by omega)
  have c3 : decide (300 < (n : Int)) = false := decide_eq_false (by omega)
  have c3b : decide (300 < n) = false := decide_eq_false (by omega)
  have c4 : decide (size < 1) = true := decide_eq_true hs
  have HL := Aside0.mk (And.intro hp hs)
  clear hp hn hs
  go_enter Try.func10, Try.ntmps10
  go_wp2_with (first
    | (go_at_call 36; (with_reducible refine (begin_ok _ pages HL.out.1).mono ?_); rintro en w1 ⟨gd, d, t, rfl, hd, ht, hy, hb⟩; have HB1 := Aside0.mk hb; clear hd hb ht hy)
    | (go_at_call 37; (with_reducible refine (new_small _ gd size HL.out.2).mono ?_); rintro en w2 ⟨rfl, rfl⟩)
    | (go_at_call 35; (with_reducible refine (fixed_ok _).mono ?_); rintro en w3 ⟨rfl, hb⟩; have HB3 := Aside0.mk (below_then HB1.out HB1.out.size hb); clear hb))
  go_ret
  exact ⟨rfl, HB3.out⟩
set_option maxHeartbeats 32000000 in
theorem PoolPlays_walk (pages : Nat) (size reset : Int) (A : Option Addr) (c : Nat) (l : List Int) (w : World) (hp : 1 ≤ pages ∧ pages ≤ 20) (hs : 1 ≤ size) (hr : 0 ≤ reset ∧ reset ≤ 255) (hl : l.length ≤ 300) (hC : Kd.C (Kd.int .u32) w A l.length l) (hy : ∀ x ∈ l, 0 ≤ x ∧ x < 4294967296) :
    Calls Try.prog 10 #[.int .i64 (pages : Int), .int .i64 size, .slice A l.length c, .int .u8 reset] w fun e w' => e = .returned (.bool true) ∧ Below w.heap.size w w' := by
  have c1 : decide ((pages : Int) < 1) = false := decide_eq_false (by omega)
  have c2 : decide (20 < (pages : Int)) = false := decide_eq_false (by omega)
  have c3 : decide (300 < (l.length : Int)) = false := decide_eq_false (by omega)
  have c3b : decide (300 < l.length) = false := decide_eq_false (by omega)
  have c4 : decide (size < 1) = false := decide_eq_false (by omega)
  have k1 : wrap64 reset = reset := wr_in _ (by omega)
  have u2 : (pages : Int) % 18446744073709551616 = pages := by omega
  have HL := Aside0.mk (And.intro hp (And.intro hs (And.intro hr hl)))
  have HC := Aside0.mk (And.intro hC hy)
  have HK1 := Aside0.mk k1
  have HU2 := Aside0.mk u2
  clear hp hs hr hl hC hy k1 u2
  go_enter Try.func10, Try.ntmps10
  go_wp2_with (first
    | (go_at_call 36; (with_reducible refine (begin_ok _ pages HL.out.1).mono ?_); rintro en w1 ⟨gd, d, t, rfl, hd, ht, hy, hb⟩; have HD1 := Aside0.mk hd.bound; have HB1 := Aside0.mk hb; have HT := Aside0.mk (And.intro ht hy); have HS1 := Aside0.mk hb.size; clear hd hb ht hy)
    | (go_at_call 37; (with_reducible refine (new_ok' _ gd size HL.out.2.1 (fun q => pg d q.toNat)).mono ?_); rintro en w2 ⟨ga, gma, rfl, hp, hb⟩; have HP2 := Aside0.mk hp.bound.pw'; have HD2 := Aside0.mk (HD1.out.below hb); have HB2 := Aside0.mk (below_then HB1.out HB1.out.size hb); have HS2 := Aside0.mk hb.size; clear hp hb HD1 HB1))
  have HP3 := Aside0.mk (HP2.out.below (below_alloc (Below.refl w2.heap.size w2) (.cells #[.int .i64 size, .slice none 0 0, .int .u64 0, .int .u64 0] 78)))
  have HD3 := Aside0.mk (HD2.out.alloc (.cells #[.int .i64 size, .slice none 0 0, .int .u64 0, .int .u64 0] 78))
  have HB3 := Aside0.mk (below_alloc HB2.out (.cells #[.int .i64 size, .slice none 0 0, .int .u64 0, .int .u64 0] 78))
  have HX3 := Aside0.mk (blk_new w2 (.cells #[.int .i64 size, .slice none 0 0, .int .u64 0, .int .u64 0] 78))
  have HW3 := Aside0.mk (show w1.heap.size ≤ w2.heap.size ∧ w2.heap.size < (w2.alloc (.cells #[.int .i64 size, .slice none 0 0, .int .u64 0, .int .u64 0] 78)).heap.size by rw [World.size_alloc]; exact ⟨HS2.out, Nat.lt_succ_self _⟩)
  have HPL := Aside0.mk (show ∀ k, (w1.heap.size ≤ k ∧ k < w2.heap.size) → w1.heap.size ≤ k ∧ k ≠ w2.heap.size from fun k hk => ⟨hk.1, by have := hk.2; omega⟩)
  generalize w2.alloc (.cells #[.int .i64 size, .slice none 0 0, .int .u64 0, .int .u64 0] 78) = w3 at HP3 HD3 HB3 HX3 HW3 ⊢
  obtain ⟨gbx, hgbx⟩ : ∃ x, x = w2.heap.size := ⟨_, rfl⟩
  rw [← hgbx] at HX3 HW3 HPL HP3 ⊢
  clear hgbx HP2 HD2 HB2
  go_loopg [64] l.length (fun kq v64 w' => ∃ (i : Nat) (okA okR : Nat → Prop) (a : List Int) (ra ha : Int) (A1 : Option Addr) (c1 : Nat), v64 = .int .i64 (i : Int) ∧ Aside0 (kq + i = l.length) ∧ Aside0 (Pw w' okA ga gd size a ra ha (fun q => pg d q.toNat) i ∧ (∀ k, okA k → w1.heap.size ≤ k ∧ k ≠ gbx ∧ ¬ okR k) ∧ (∀ k, okR k → w1.heap.size ≤ k ∧ k ≠ gbx) ∧ (∀ k, okR k → k < w'.heap.size)) ∧ Aside0 (Kd.Q (Kd.int .u32) 23 w' 0 okR (.slice A1 a.length c1) a) ∧ Aside0 (w'.heap[gbx]? = some (.cells #[.int .i64 size, .slice A1 a.length c1, .int .u64 ra, .int .u64 ha] 78 (0, 0))) ∧ Aside0 (∀ q ∈ a, q < (t.length : Int)) ∧ Aside0 (0 ≤ ra ∧ ra ≤ i ∧ 0 ≤ ha ∧ ha ≤ i ∧ a.length ≤ i) ∧ Aside0 (Dk w' (fun k => w.heap.size ≤ k ∧ k < w1.heap.size) gd d t) ∧ Aside0 (Below w.heap.size w w') ∧ Aside0 (w1.heap.size ≤ gbx ∧ gbx < w'.heap.size))
  case atStart => exact ⟨0, _, fun _ => False, [], 0, 0, none, 0, rfl, ⟨by omega⟩, ⟨HP3.out, fun k hk => ⟨(HPL.out k hk).1, (HPL.out k hk).2, fun h => h⟩, fun k hk => hk.elim, fun k hk => hk.elim⟩, ⟨Kd.Q_nil _ _ _ _ _⟩, HX3, ⟨by simp⟩, ⟨by simp⟩, HD3, HB3, HW3⟩
  case round =>
    clear HP3 HD3 HB3 HX3 HW3 HPL
    obtain ⟨i, okA, okR, a, ra, ha, A1, c1, rfl, HI, HP, HQ4, HX4, HM, HN, HD4, HB4, HW4⟩ := hrel
    by_cases c5 : i < l.length
    · have c5b : decide ((i : Int) < (l.length : Int)) = true := decide_eq_true (by omega)
      have c5c : decide (i < l.length) = true := decide_eq_true c5
      have u2 := HU2.out
      obtain ⟨ad, e1, hx0⟩ := Kd.at_int HC.out.1 (i : Int) (by omega) (by omega)
      subst e1
      replace hx0 := (HB4.out.cell (World.block_lt_of_cell? w _ hx0)).trans hx0
      have hpr : 0 ≤ rd l (i : Int) ∧ rd l (i : Int) < 4294967296 := HC.out.2 _ (by
        rw [PrintWords.rd, Int.toNat_natCast, List.getD_eq_getElem?_getD, List.getElem?_eq_getElem c5]
        exact List.getElem_mem c5)
      obtain ⟨p, hp⟩ : ∃ p, p = rd l (i : Int) := ⟨_, rfl⟩
      rw [← hp] at hx0 hpr
      rw [Int.toNat_natCast] at hx0
      have p9 : (0 ≤ (i : Int)) = True := eq_true (by omega)
      have q9 : ((i : Int) < (l.length : Int)) = True := eq_true (by omega)
      have q9b : (i < l.length) = True := eq_true c5
      have HQ := Aside0.mk (And.intro c5 hpr)
      have u1 : p % 18446744073709551616 = p := by omega
      clear c5 hp hpr
      have hx0p := hx0
      clear hx0
      have HPA := Aside0.mk HP.out.1.bound
      have HDJ : Aside0 ((∀ k, (okA k ∧ k < wr.heap.size) → w1.heap.size ≤ k ∧ k ≠ gbx ∧ ¬ okR k) ∧ (∀ k, okR k → w1.heap.size ≤ k ∧ k ≠ gbx)) := ⟨fun k hk => HP.out.2.1 k hk.1, HP.out.2.2.1⟩
      obtain ⟨okA2, hokA2⟩ : ∃ f : Nat → Prop, f = fun k => okA k ∧ k < wr.heap.size := ⟨_, rfl⟩
      have HPA2 : Aside0 (Pw wr okA2 ga gd size a ra ha (fun q => pg d q.toNat) i) := ⟨by rw [hokA2]; exact HPA.out⟩
      have HDJ2 : Aside0 ((∀ k, okA2 k → w1.heap.size ≤ k ∧ k ≠ gbx ∧ ¬ okR k) ∧ (∀ k, okR k → w1.heap.size ≤ k ∧ k ≠ gbx)) := ⟨by rw [hokA2]; exact HDJ.out⟩
      have HRL := Aside0.mk HP.out.2.2.2
      clear HPA HDJ hokA2 HP
      have HPA := HPA2
      have HDJ := HDJ2
      clear HPA2 HDJ2
      by_cases hi : i = 0
      · have r1 : decide (0 < (i : Int)) = false := decide_eq_false (by omega)
        have r2 : decide (0 < i) = false := decide_eq_false (by omega)
        clear hi
        have k1 := HK1.out
        go_upto_region 16 with fail
        clear hx0p p9 q9 q9b
        have HRB := Aside0.mk (show ∀ k, okR k → k < wr.heap.size from fun k hk => HRL.out k hk)
        by_cases hout : (pages : Int) ≤ p
        · have cge : decide ((pages : Int) ≤ p) = true := decide_eq_true hout
          have HOUT := Aside0.mk (show (t.length : Int) ≤ p by have := HT.out.1; omega)
          clear hout
          go_wp2_with (go_at_call 38; (with_reducible refine (get_any HPA.out HD4.out HL.out.2.1 (by have h1 := HI.out; have h2 := HL.out; omega) p HQ.out.2 (fun _ => rfl) (by have h1 := HN.out; have h2 := HI.out; have h3 := HL.out; omega) (by have h1 := HN.out; have h2 := HI.out; have h3 := HL.out; omega) HM.out [] 8 a ra ha (by rw [if_neg (by have := HOUT.out; omega)]) (by rw [if_neg (by have := HOUT.out; omega)]) (by rw [if_neg (by have := HOUT.out; omega)]) (by rw [if_neg (fun h => by have := HOUT.out; omega)]) (by rw [if_neg (fun h => by have := HOUT.out; omega)])).mono ?_); rintro en w5 ⟨A5, c5, rfl, ho, hp5, hk5⟩; have HP5 := Aside0.mk hp5.bound; have HQ5 := Aside0.mk (Kd.Q_mono (Kd.Q_bound (Kd.Q_kept HQ4.out hk5.kept (fun k hk h => (HDJ.out.1 k h).2.2 hk))) (ok' := fun k => okR k ∧ k < w5.heap.size) (fun k hk => ⟨hk.1, hk.2.2.1⟩)); have HX5 := Aside0.mk ((hk5.same gbx HW4.out.2 (fun h => (HDJ.out.1 gbx h).2.1 rfl)).trans HX4.out); have HD5 := Aside0.mk (HD4.out.kept hk5.kept (fun k hk h => by have h1 : k < w1.heap.size := hk.2; have h2 := (HDJ.out.1 k h).1; omega)); have HB5 := Aside0.mk (HB4.out.trans (hk5.to_below w.heap.size (fun k hk => by have h2 := (HDJ.out.1 k hk).1; have h3 := HS1.out; omega) HB4.out.size)); have HS5 := Aside0.mk hk5.size; clear ho hp5 hk5)
          go_roundg (gk - 1)
          case measure => have h1 := HI.out; have h2 := HQ.out.1; omega
          case rel =>
            have h1 := HI.out
            have h2 := HQ.out.1
            have h3 := HL.out
            exact ⟨i + 1, _, _, a, ra, ha, _, _, by first | rfl | (rw [wr_in ((i : Int) + 1) (by omega)]; rfl), ⟨by omega⟩, ⟨HP5.out, fun k hk => ⟨hk.1.1.elim (fun h => (HDJ.out.1 k h).1) (fun h => by have h6 := HW4.out; omega), hk.1.1.elim (fun h => (HDJ.out.1 k h).2.1) (fun h => by have h6 := HW4.out; omega), fun h => hk.1.1.elim (fun h6 => (HDJ.out.1 k h6).2.2 h.1) (fun h6 => by have := HRB.out k h.1; omega)⟩, fun k hk => HDJ.out.2 k hk.1, fun k hk => hk.2⟩, HQ5, HX5, HM, ⟨by have := HN.out; omega⟩, HD5, HB5, ⟨HW4.out.1, by have := HW4.out.2; have := HS5.out; omega⟩⟩
        · have cge : decide ((pages : Int) ≤ p) = false := decide_eq_false hout
          have HIN := Aside0.mk (show p < (t.length : Int) by have := HT.out.1; omega)
          clear hout
          obtain ⟨xs, hxs⟩ : ∃ x, x = pg d p.toNat := ⟨_, rfl⟩
          obtain ⟨a2, ha2⟩ : ∃ x, x = lru size a p := ⟨_, rfl⟩
          obtain ⟨ra2, hra2⟩ : ∃ x, x = if p ∈ a then ra else ra + 1 := ⟨_, rfl⟩
          obtain ⟨hi2, hhi2⟩ : ∃ x, x = if p ∈ a then ha + 1 else ha := ⟨_, rfl⟩
          have HRG := Aside0.mk (refget_f size p ra ha a HPA.out.nod (by have h1 := HN.out; have h2 := HI.out; have h3 := HL.out; omega) HL.out.2.1 (by have h1 := HN.out; have h2 := HI.out; have h3 := HL.out; omega))
          have HNN := Aside0.mk (show 0 ≤ ra2 ∧ ra2 ≤ i + 1 ∧ 0 ≤ hi2 ∧ hi2 ≤ i + 1 ∧ a2.length ≤ i + 1 by
            have h1 := HN.out
            have h2 := lru_len size a p
            rw [← ha2] at h2
            split at hra2 <;> split at hhi2 <;> omega)
          have HMM := Aside0.mk (show ∀ q ∈ a2, q < (t.length : Int) by
            intro q hq
            rw [ha2] at hq
            rcases lru_mem _ _ _ _ hq with h | rfl
            · exact HM.out q h
            · exact HIN.out)
          rw [← ha2, ← hra2, ← hhi2] at HRG
          have HEQ := Aside0.mk (And.intro hxs (And.intro ha2 (And.intro hra2 hhi2)))
          have HXL := Aside0.mk (show xs.length = 512 by rw [hxs]; exact pg_len HD4.out.2.1 (by have h1 := HQ.out.2; have h2 := HIN.out; omega))
          have hne := ba_self (strOfNums xs)
          clear hxs ha2 hra2 hhi2
          go_wp2_with (first
            | (go_at_call 38; (with_reducible refine (get_ok HPA.out HD4.out HL.out.2.1 (by have h1 := HI.out; have h2 := HL.out; omega) p HQ.out.2.1 HIN.out (fun _ => rfl) (by have h1 := HN.out; have h2 := HI.out; have h3 := HL.out; omega) (by have h1 := HN.out; have h2 := HI.out; have h3 := HL.out; omega)).mono ?_); rintro en w5 ⟨v5, rfl, ho, hp5, hk5⟩; rw [← HEQ.out.1] at ho; rw [← HEQ.out.2.1, ← HEQ.out.2.2.1, ← HEQ.out.2.2.2] at hp5; obtain ⟨g5, c5, e5, _⟩ := Kd.R_form ho (by rw [HXL.out]; decide); rw [HXL.out] at e5; subst e5; have HO5 := Aside0.mk (Kd.R_bound ho); have HP5 := Aside0.mk hp5.bound; have HQ5 := Aside0.mk (Kd.Q_kept HQ4.out hk5.kept (fun k hk h => (HDJ.out.1 k h).2.2 hk)); have HX5 := Aside0.mk ((hk5.same gbx HW4.out.2 (fun h => (HDJ.out.1 gbx h).2.1 rfl)).trans HX4.out); have HD5 := Aside0.mk (HD4.out.kept hk5.kept (fun k hk h => by have h1 : k < w1.heap.size := hk.2; have h2 := (HDJ.out.1 k h).1; omega)); have HB5 := Aside0.mk (HB4.out.trans (hk5.to_below w.heap.size (fun k hk => by have h2 := (HDJ.out.1 k hk).1; have h3 := HS1.out; omega) HB4.out.size)); have HS5 := Aside0.mk hk5.size; clear ho hp5 hk5; have hx0 := (blk_cell HX5.out 0).trans rfl; have hx1 := (blk_cell HX5.out 1).trans rfl; have hx2 := (blk_cell HX5.out 2).trans rfl; have hx3 := (blk_cell HX5.out 3).trans rfl)
            | (go_at_call 43; (with_reducible refine (rowlockref07_Pool_Get.calls (a.length + 1) size A1 c1 a ra ha p size a2 ra2 hi2 _ (Kd.Q_reads' HQ5.out).2.2 (Kd.Q_reads' HQ5.out).2.1 HRG.out).mono ?_); rintro en w6 ⟨v6, rfl, ho, hb⟩; clear hx0 hx1 hx2 hx3; obtain ⟨A6, c6, rfl, _⟩ := Kd.Q_slice ho; have HQ6 := Aside0.mk (Kd.Q_mono (Kd.Q_bound ho) (ok' := fun k => w5.heap.size ≤ k ∧ k < w6.heap.size) (fun k hk => ⟨hk.2.1, hk.2.2.1⟩)); have HX6 := Aside0.mk (blk_below HX5.out hb); have HO6 := Aside0.mk (Kd.R_below HO5.out hb); have HP6 := Aside0.mk (HP5.out.below hb); have HD6 := Aside0.mk (HD5.out.below hb); have HB6 := Aside0.mk (below_then HB5.out HB5.out.size hb); have HS6 := Aside0.mk hb.size; clear ho hb; have hx0 := (blk_cell HX6.out 0).trans rfl; have hx1 := (blk_cell HX6.out 1).trans rfl; have hx2 := (blk_cell HX6.out 2).trans rfl; have hx3 := (blk_cell HX6.out 3).trans rfl; have hf0 := blk_frozen HX6.out 0; have hf1 := blk_frozen HX6.out 1; have hf2 := blk_frozen HX6.out 2; have hf3 := blk_frozen HX6.out 3)
            | (go_at_call 28; have HK7 := Aside0.mk (put4_kp w6 gbx (.int .i64 size) (.slice A6 a2.length c6) (.int .u64 ra2) (.int .u64 hi2)); have HX7 := Aside0.mk (put4_box HX6.out (.int .i64 size) (.slice A6 a2.length c6) (.int .u64 ra2) (.int .u64 hi2)); have HQ7 := Aside0.mk (Kd.Q_kept HQ6.out HK7.out.kept (fun k hk h => by have h1 := hk.1; have h2 := HW4.out.2; have h3 := HS5.out; omega)); have HO7 := Aside0.mk (Kd.R_kept HO6.out HK7.out.kept (fun k hk h => by have h1 := hk.2.1; have h2 := HW4.out.2; omega)); have HP7 := Aside0.mk (HP6.out.kept HK7.out.kept (fun k hk h => hk.1.1.elim (fun h6 => (HDJ.out.1 k h6).2.1 h) (fun h6 => by have h2 := HW4.out.2; omega))); have HD7 := Aside0.mk (HD6.out.kept HK7.out.kept (fun k hk h => by have h1 : k < w1.heap.size := hk.2; have h2 := HW4.out.1; omega)); have HB7 := Aside0.mk (HB6.out.trans (HK7.out.to_below w.heap.size (fun k hk => by have h2 := HW4.out.1; have h3 := HS1.out; omega) HB6.out.size)); (refine (read_in HD7.out p HQ.out.2.1 HIN.out).mono ?_); rintro en w8 ⟨v8, rfl, ho, hb⟩; clear hx0 hx1 hx2 hx3 hf0 hf1 hf2 hf3; rw [← HEQ.out.1] at ho; obtain ⟨A8, c8, rfl⟩ := Kd.R_slice ho; have hcvy := own_string (P := Try.prog) Try.underlying26 Try.underlying5 Try.underlying9 (Kd.own_of_R ho); have hO8 := Kd.R_below HO7.out hb; have hcvx := own_string (P := Try.prog) Try.underlying26 Try.underlying5 Try.underlying9 (Kd.own_of_R hO8); have HO8 := Aside0.mk hO8; have HX8 := Aside0.mk (blk_below HX7.out hb); have HQ8 := Aside0.mk (Kd.Q_below HQ7.out hb); have HP8 := Aside0.mk (HP7.out.below hb); have HD8 := Aside0.mk (HD7.out.below hb); have HB8 := Aside0.mk (below_then HB7.out HB7.out.size hb); have HS8 := Aside0.mk (Nat.le_trans HK7.out.size hb.size); clear ho hb hO8; have hx0 := (blk_cell HX8.out 0).trans rfl; have hx1 := (blk_cell HX8.out 1).trans rfl; have hx2 := (blk_cell HX8.out 2).trans rfl; have hx3 := (blk_cell HX8.out 3).trans rfl)
            | (go_at_call 44; (with_reducible refine (same_ok HP8.out size A6 c6 (Kd.Q_reads' HQ8.out).2.2).mono ?_); rintro en w9 ⟨rfl, hb⟩; clear hcvx hcvy hx0 hx1 hx2 hx3; have hO9 := Kd.R_below HO8.out hb; obtain ⟨wc, hcl, hgc⟩ := Clr.clear_own (t := 26) (A := some ⟨g5, 0, none⟩) (n := 512) (c := c5) Try.underlying26 Try.zeroValue5 hO9 0; have HGC := Aside0.mk hgc; have HO9 := Aside0.mk hO9; have HX9 := Aside0.mk (blk_below HX8.out hb); have HQ9 := Aside0.mk (Kd.Q_below HQ8.out hb); have HP9 := Aside0.mk (HP8.out.below hb); have HD9 := Aside0.mk (HD8.out.below hb); have HB9 := Aside0.mk (below_then HB8.out HB8.out.size hb); have HS9 := Aside0.mk hb.size; clear hb hO9 hgc))
          have hbk : ∀ k, some k = (Value.slice (some ⟨g5, 0, none⟩) 512 c5).ownBlock → wr.heap.size ≤ k ∧ k < w5.heap.size := fun k hk => by
            have := (HO9.out).1 k hk.symm
            exact ⟨this.2.1, this.2.2.1⟩
          have HKC := Aside0.mk (kp_grown HGC.out)
          have HPc := Aside0.mk (HP9.out.kept HKC.out.kept (fun k hk h => hk.1.2 h))
          have HQc := Aside0.mk (Kd.Q_lower (Kd.Q_kept HQ9.out HKC.out.kept (fun k hk h => by have h1 := hk.1; have h2 := (hbk k h).2; omega)) (Nat.zero_le _))
          have HXc := Aside0.mk ((HKC.out.same gbx (blk_lt HX9.out) (fun h => by have h1 := (hbk gbx h).1; have h2 := HW4.out.2; omega)).trans HX9.out)
          have HDc := Aside0.mk (HD9.out.kept HKC.out.kept (fun k hk h => by have h1 : k < w1.heap.size := hk.2; have h2 := (hbk k h).1; have h3 := HW4.out; omega))
          have HBc := Aside0.mk (HB9.out.trans (HKC.out.to_below w.heap.size (fun k hk => by have h1 := (hbk k hk).1; have h2 := HB4.out.size; omega) HB9.out.size))
          clear hbk
          go_roundg (gk - 1)
          case measure => have h1 := HI.out; have h2 := HQ.out.1; omega
          case rel =>
            have h1 := HI.out
            have h2 := HQ.out.1
            have h3 := HL.out
            exact ⟨i + 1, _, _, a2, ra2, hi2, _, _, by first | rfl | (rw [wr_in ((i : Int) + 1) (by omega)]; rfl), ⟨by omega⟩, ⟨HPc.out, fun k hk => ⟨hk.1.1.elim (fun h => (HDJ.out.1 k h).1) (fun h => by have h6 := HW4.out; omega), hk.1.1.elim (fun h => (HDJ.out.1 k h).2.1) (fun h => by have h6 := HW4.out; omega), fun h => by have h6 := hk.2; have h7 := h.1; omega⟩, fun k hk => ⟨by have h6 := hk.1; have h7 := HW4.out; have h8 := HS5.out; omega, by have h6 := hk.1; have h7 := HW4.out; have h8 := HS5.out; omega⟩, fun k hk => by have h6 := hk.2; have h7 := HS8.out; have h8 := HS9.out; have h9 := HKC.out.size; omega⟩, HQc, HXc, HMM, HNN, HDc, HBc, ⟨HW4.out.1, blk_lt HXc.out⟩⟩
      · have r1 : decide (0 < (i : Int)) = true := decide_eq_true (by omega)
        have r2 : decide (0 < i) = true := decide_eq_true (by omega)
        clear hi
        have k1 := HK1.out
        by_cases hre : (i : Int) = reset
        · have r3 : ((i : Int) == reset) = true := beq_iff_eq.mpr hre
          clear hre
          obtain ⟨gm1, n1, D1, v1, ha1⟩ := HPA.out
          have HA1 := Aside0.mk ha1
          clear ha1 HPA
          go_upto_region 16 with (go_at_call 41; (with_reducible refine (reset_ok HA1.out (by have := HL.out.2.1; omega)).mono ?_); rintro en w3 ⟨rfl, hp3, hk3⟩; have HP3 := Aside0.mk hp3.pw'; have HK3 := Aside0.mk hk3; have HX3 := Aside0.mk ((hk3.same gbx HW4.out.2 (fun h => (HDJ.out.1 gbx h).2.1 rfl)).trans HX4.out); clear hp3 hk3; have hx0 := (blk_cell HX3.out 0).trans rfl; have hx1 := (blk_cell HX3.out 1).trans rfl; have hx2 := (blk_cell HX3.out 2).trans rfl; have hx3 := (blk_cell HX3.out 3).trans rfl; have hf0 := blk_frozen HX3.out 0; have hf1 := blk_frozen HX3.out 1; have hf2 := blk_frozen HX3.out 2; have hf3 := blk_frozen HX3.out 3)
          clear hx0 hx1 hx2 hx3 hf0 hf1 hf2 hf3 HX4 HQ4
          have HK4 := Aside0.mk (put4_kp w3 gbx (.int .i64 size) (.slice none 0 0) (.int .u64 0) (.int .u64 0))
          have HX4 := Aside0.mk (put4_box HX3.out (.int .i64 size) (.slice none 0 0) (.int .u64 0) (.int .u64 0))
          have HPA := Aside0.mk (HP3.out.kept HK4.out.kept (fun k hk h => (HDJ.out.1 k hk).2.1 h))
          have HD4' := Aside0.mk ((HD4.out.kept HK3.out.kept (fun k hk h => by have h1 : k < w1.heap.size := hk.2; have h2 := (HDJ.out.1 k h).1; omega)).kept HK4.out.kept (fun k hk h => by have h1 : k < w1.heap.size := hk.2; have h2 := HW4.out.1; omega))
          have HB4' := Aside0.mk ((HB4.out.trans (HK3.out.to_below w.heap.size (fun k hk => by have h2 := (HDJ.out.1 k hk).1; have h3 := HS1.out; omega) HB4.out.size)).trans (HK4.out.to_below w.heap.size (fun k hk => by have h2 := HW4.out.1; have h3 := HS1.out; omega) (by have h1 := HB4.out.size; have h2 := HK3.out.size; omega)))
          have HW4' := Aside0.mk (And.intro HW4.out.1 (blk_lt HX4.out))
          have HRL' : Aside0 (∀ k, okR k → k < (put4 w3 gbx (.int .i64 size) (.slice none 0 0) (.int .u64 0) (.int .u64 0)).heap.size) := ⟨fun k hk => by have h1 := HRL.out k hk; have h2 := HK3.out.size; have h3 := HK4.out.size; omega⟩
          have HQ4 := Aside0.mk (Kd.Q_nil (Kd.int .u32) 23 (put4 w3 gbx (.int .i64 size) (.slice none 0 0) (.int .u64 0) (.int .u64 0)) 0 okR)
          obtain ⟨w4, hw4⟩ : ∃ x, x = put4 w3 gbx (.int .i64 size) (.slice none 0 0) (.int .u64 0) (.int .u64 0) := ⟨_, rfl⟩
          have hw4' := hw4
          unfold put4 at hw4'
          rw [← hw4'] at ⊢
          rw [← hw4] at HPA HX4 HD4' HB4' HW4' HRL' HQ4
          clear hw4 hw4' HD4 HB4 HW4 HRL HX3 HP3 HK3 HK4 HA1 HM HN
          have HD4 := HD4'
          have HB4 := HB4'
          have HW4 := HW4'
          have HRL := HRL'
          clear HD4' HB4' HW4' HRL'
          obtain ⟨A1, hA1⟩ : ∃ x : Option Addr, x = none := ⟨_, rfl⟩
          obtain ⟨c1, hc1⟩ : ∃ x : Nat, x = 0 := ⟨_, rfl⟩
          obtain ⟨a, ha0⟩ : ∃ x : List Int, x = [] := ⟨_, rfl⟩
          obtain ⟨ra, hra⟩ : ∃ x : Int, x = 0 := ⟨_, rfl⟩
          obtain ⟨ha, hha⟩ : ∃ x : Int, x = 0 := ⟨_, rfl⟩
          have HM : Aside0 (∀ q ∈ a, q < (t.length : Int)) := ⟨by rw [ha0]; simp⟩
          have HN : Aside0 (0 ≤ ra ∧ ra ≤ i ∧ 0 ≤ ha ∧ ha ≤ i ∧ a.length ≤ i) := ⟨by rw [ha0, hra, hha]; simp⟩
          have HPA' : Aside0 (Pw w4 okA2 ga gd size a ra ha (fun q => pg d q.toNat) i) := ⟨by rw [ha0, hra, hha]; exact HPA.out⟩
          have HX4' : Aside0 (w4.heap[gbx]? = some (.cells #[.int .i64 size, .slice A1 a.length c1, .int .u64 ra, .int .u64 ha] 78 (0, 0))) := ⟨by rw [hA1, hc1, ha0, hra, hha]; exact HX4.out⟩
          have HQ4' : Aside0 (Kd.Q (Kd.int .u32) 23 w4 0 okR (.slice A1 a.length c1) a) := ⟨by rw [hA1, hc1, ha0]; exact HQ4.out⟩
          clear HPA HX4 HQ4 hA1 hc1 ha0 hra hha
          have HPA := HPA'
          have HX4 := HX4'
          have HQ4 := HQ4'
          clear HPA' HX4' HQ4'
          clear hx0p p9 q9 q9b
          have HRB := Aside0.mk (show ∀ k, okR k → k < w4.heap.size from fun k hk => HRL.out k hk)
          by_cases hout : (pages : Int) ≤ p
          · have cge : decide ((pages : Int) ≤ p) = true := decide_eq_true hout
            have HOUT := Aside0.mk (show (t.length : Int) ≤ p by have := HT.out.1; omega)
            clear hout
            go_wp2_with (go_at_call 38; (with_reducible refine (get_any HPA.out HD4.out HL.out.2.1 (by have h1 := HI.out; have h2 := HL.out; omega) p HQ.out.2 (fun _ => rfl) (by have h1 := HN.out; have h2 := HI.out; have h3 := HL.out; omega) (by have h1 := HN.out; have h2 := HI.out; have h3 := HL.out; omega) HM.out [] 8 a ra ha (by rw [if_neg (by have := HOUT.out; omega)]) (by rw [if_neg (by have := HOUT.out; omega)]) (by rw [if_neg (by have := HOUT.out; omega)]) (by rw [if_neg (fun h => by have := HOUT.out; omega)]) (by rw [if_neg (fun h => by have := HOUT.out; omega)])).mono ?_); rintro en w5 ⟨A5, c5, rfl, ho, hp5, hk5⟩; have HP5 := Aside0.mk hp5.bound; have HQ5 := Aside0.mk (Kd.Q_mono (Kd.Q_bound (Kd.Q_kept HQ4.out hk5.kept (fun k hk h => (HDJ.out.1 k h).2.2 hk))) (ok' := fun k => okR k ∧ k < w5.heap.size) (fun k hk => ⟨hk.1, hk.2.2.1⟩)); have HX5 := Aside0.mk ((hk5.same gbx HW4.out.2 (fun h => (HDJ.out.1 gbx h).2.1 rfl)).trans HX4.out); have HD5 := Aside0.mk (HD4.out.kept hk5.kept (fun k hk h => by have h1 : k < w1.heap.size := hk.2; have h2 := (HDJ.out.1 k h).1; omega)); have HB5 := Aside0.mk (HB4.out.trans (hk5.to_below w.heap.size (fun k hk => by have h2 := (HDJ.out.1 k hk).1; have h3 := HS1.out; omega) HB4.out.size)); have HS5 := Aside0.mk hk5.size; clear ho hp5 hk5)
            go_roundg (gk - 1)
            case measure => have h1 := HI.out; have h2 := HQ.out.1; omega
            case rel =>
              have h1 := HI.out
              have h2 := HQ.out.1
              have h3 := HL.out
              exact ⟨i + 1, _, _, a, ra, ha, _, _, by first | rfl | (rw [wr_in ((i : Int) + 1) (by omega)]; rfl), ⟨by omega⟩, ⟨HP5.out, fun k hk => ⟨hk.1.1.elim (fun h => (HDJ.out.1 k h).1) (fun h => by have h6 := HW4.out; omega), hk.1.1.elim (fun h => (HDJ.out.1 k h).2.1) (fun h => by have h6 := HW4.out; omega), fun h => hk.1.1.elim (fun h6 => (HDJ.out.1 k h6).2.2 h.1) (fun h6 => by have := HRB.out k h.1; omega)⟩, fun k hk => HDJ.out.2 k hk.1, fun k hk => hk.2⟩, HQ5, HX5, HM, ⟨by have := HN.out; omega⟩, HD5, HB5, ⟨HW4.out.1, by have := HW4.out.2; have := HS5.out; omega⟩⟩
          · have cge : decide ((pages : Int) ≤ p) = false := decide_eq_false hout
            have HIN := Aside0.mk (show p < (t.length : Int) by have := HT.out.1; omega)
            clear hout
            obtain ⟨xs, hxs⟩ : ∃ x, x = pg d p.toNat := ⟨_, rfl⟩
            obtain ⟨a2, ha2⟩ : ∃ x, x = lru size a p := ⟨_, rfl⟩
            obtain ⟨ra2, hra2⟩ : ∃ x, x = if p ∈ a then ra else ra + 1 := ⟨_, rfl⟩
            obtain ⟨hi2, hhi2⟩ : ∃ x, x = if p ∈ a then ha + 1 else ha := ⟨_, rfl⟩
            have HRG := Aside0.mk (refget_f size p ra ha a HPA.out.nod (by have h1 := HN.out; have h2 := HI.out; have h3 := HL.out; omega) HL.out.2.1 (by have h1 := HN.out; have h2 := HI.out; have h3 := HL.out; omega))
            have HNN := Aside0.mk (show 0 ≤ ra2 ∧ ra2 ≤ i + 1 ∧ 0 ≤ hi2 ∧ hi2 ≤ i + 1 ∧ a2.length ≤ i + 1 by
              have h1 := HN.out
              have h2 := lru_len size a p
              rw [← ha2] at h2
              split at hra2 <;> split at hhi2 <;> omega)
            have HMM := Aside0.mk (show ∀ q ∈ a2, q < (t.length : Int) by
              intro q hq
              rw [ha2] at hq
              rcases lru_mem _ _ _ _ hq with h | rfl
              · exact HM.out q h
              · exact HIN.out)
            rw [← ha2, ← hra2, ← hhi2] at HRG
            have HEQ := Aside0.mk (And.intro hxs (And.intro ha2 (And.intro hra2 hhi2)))
            have HXL := Aside0.mk (show xs.length = 512 by rw [hxs]; exact pg_len HD4.out.2.1 (by have h1 := HQ.out.2; have h2 := HIN.out; omega))
            have hne := ba_self (strOfNums xs)
            clear hxs ha2 hra2 hhi2
            go_wp2_with (first
              | (go_at_call 38; (with_reducible refine (get_ok HPA.out HD4.out HL.out.2.1 (by have h1 := HI.out; have h2 := HL.out; omega) p HQ.out.2.1 HIN.out (fun _ => rfl) (by have h1 := HN.out; have h2 := HI.out; have h3 := HL.out; omega) (by have h1 := HN.out; have h2 := HI.out; have h3 := HL.out; omega)).mono ?_); rintro en w5 ⟨v5, rfl, ho, hp5, hk5⟩; rw [← HEQ.out.1] at ho; rw [← HEQ.out.2.1, ← HEQ.out.2.2.1, ← HEQ.out.2.2.2] at hp5; obtain ⟨g5, c5, e5, _⟩ := Kd.R_form ho (by rw [HXL.out]; decide); rw [HXL.out] at e5; subst e5; have HO5 := Aside0.mk (Kd.R_bound ho); have HP5 := Aside0.mk hp5.bound; have HQ5 := Aside0.mk (Kd.Q_kept HQ4.out hk5.kept (fun k hk h => (HDJ.out.1 k h).2.2 hk)); have HX5 := Aside0.mk ((hk5.same gbx HW4.out.2 (fun h => (HDJ.out.1 gbx h).2.1 rfl)).trans HX4.out); have HD5 := Aside0.mk (HD4.out.kept hk5.kept (fun k hk h => by have h1 : k < w1.heap.size := hk.2; have h2 := (HDJ.out.1 k h).1; omega)); have HB5 := Aside0.mk (HB4.out.trans (hk5.to_below w.heap.size (fun k hk => by have h2 := (HDJ.out.1 k hk).1; have h3 := HS1.out; omega) HB4.out.size)); have HS5 := Aside0.mk hk5.size; clear ho hp5 hk5; have hx0 := (blk_cell HX5.out 0).trans rfl; have hx1 := (blk_cell HX5.out 1).trans rfl; have hx2 := (blk_cell HX5.out 2).trans rfl; have hx3 := (blk_cell HX5.out 3).trans rfl)
              | (go_at_call 43; (with_reducible refine (rowlockref07_Pool_Get.calls (a.length + 1) size A1 c1 a ra ha p size a2 ra2 hi2 _ (Kd.Q_reads' HQ5.out).2.2 (Kd.Q_reads' HQ5.out).2.1 HRG.out).mono ?_); rintro en w6 ⟨v6, rfl, ho, hb⟩; clear hx0 hx1 hx2 hx3; obtain ⟨A6, c6, rfl, _⟩ := Kd.Q_slice ho; have HQ6 := Aside0.mk (Kd.Q_mono (Kd.Q_bound ho) (ok' := fun k => w5.heap.size ≤ k ∧ k < w6.heap.size) (fun k hk => ⟨hk.2.1, hk.2.2.1⟩)); have HX6 := Aside0.mk (blk_below HX5.out hb); have HO6 := Aside0.mk (Kd.R_below HO5.out hb); have HP6 := Aside0.mk (HP5.out.below hb); have HD6 := Aside0.mk (HD5.out.below hb); have HB6 := Aside0.mk (below_then HB5.out HB5.out.size hb); have HS6 := Aside0.mk hb.size; clear ho hb; have hx0 := (blk_cell HX6.out 0).trans rfl; have hx1 := (blk_cell HX6.out 1).trans rfl; have hx2 := (blk_cell HX6.out 2).trans rfl; have hx3 := (blk_cell HX6.out 3).trans rfl; have hf0 := blk_frozen HX6.out 0; have hf1 := blk_frozen HX6.out 1; have hf2 := blk_frozen HX6.out 2; have hf3 := blk_frozen HX6.out 3)
              | (go_at_call 28; have HK7 := Aside0.mk (put4_kp w6 gbx (.int .i64 size) (.slice A6 a2.length c6) (.int .u64 ra2) (.int .u64 hi2)); have HX7 := Aside0.mk (put4_box HX6.out (.int .i64 size) (.slice A6 a2.length c6) (.int .u64 ra2) (.int .u64 hi2)); have HQ7 := Aside0.mk (Kd.Q_kept HQ6.out HK7.out.kept (fun k hk h => by have h1 := hk.1; have h2 := HW4.out.2; have h3 := HS5.out; omega)); have HO7 := Aside0.mk (Kd.R_kept HO6.out HK7.out.kept (fun k hk h => by have h1 := hk.2.1; have h2 := HW4.out.2; omega)); have HP7 := Aside0.mk (HP6.out.kept HK7.out.kept (fun k hk h => hk.1.1.elim (fun h6 => (HDJ.out.1 k h6).2.1 h) (fun h6 => by have h2 := HW4.out.2; omega))); have HD7 := Aside0.mk (HD6.out.kept HK7.out.kept (fun k hk h => by have h1 : k < w1.heap.size := hk.2; have h2 := HW4.out.1; omega)); have HB7 := Aside0.mk (HB6.out.trans (HK7.out.to_below w.heap.size (fun k hk => by have h2 := HW4.out.1; have h3 := HS1.out; omega) HB6.out.size)); (refine (read_in HD7.out p HQ.out.2.1 HIN.out).mono ?_); rintro en w8 ⟨v8, rfl, ho, hb⟩; clear hx0 hx1 hx2 hx3 hf0 hf1 hf2 hf3; rw [← HEQ.out.1] at ho; obtain ⟨A8, c8, rfl⟩ := Kd.R_slice ho; have hcvy := own_string (P := Try.prog) Try.underlying26 Try.underlying5 Try.underlying9 (Kd.own_of_R ho); have hO8 := Kd.R_below HO7.out hb; have hcvx := own_string (P := Try.prog) Try.underlying26 Try.underlying5 Try.underlying9 (Kd.own_of_R hO8); have HO8 := Aside0.mk hO8; have HX8 := Aside0.mk (blk_below HX7.out hb); have HQ8 := Aside0.mk (Kd.Q_below HQ7.out hb); have HP8 := Aside0.mk (HP7.out.below hb); have HD8 := Aside0.mk (HD7.out.below hb); have HB8 := Aside0.mk (below_then HB7.out HB7.out.size hb); have HS8 := Aside0.mk (Nat.le_trans HK7.out.size hb.size); clear ho hb hO8; have hx0 := (blk_cell HX8.out 0).trans rfl; have hx1 := (blk_cell HX8.out 1).trans rfl; have hx2 := (blk_cell HX8.out 2).trans rfl; have hx3 := (blk_cell HX8.out 3).trans rfl)
              | (go_at_call 44; (with_reducible refine (same_ok HP8.out size A6 c6 (Kd.Q_reads' HQ8.out).2.2).mono ?_); rintro en w9 ⟨rfl, hb⟩; clear hcvx hcvy hx0 hx1 hx2 hx3; have hO9 := Kd.R_below HO8.out hb; obtain ⟨wc, hcl, hgc⟩ := Clr.clear_own (t := 26) (A := some ⟨g5, 0, none⟩) (n := 512) (c := c5) Try.underlying26 Try.zeroValue5 hO9 0; have HGC := Aside0.mk hgc; have HO9 := Aside0.mk hO9; have HX9 := Aside0.mk (blk_below HX8.out hb); have HQ9 := Aside0.mk (Kd.Q_below HQ8.out hb); have HP9 := Aside0.mk (HP8.out.below hb); have HD9 := Aside0.mk (HD8.out.below hb); have HB9 := Aside0.mk (below_then HB8.out HB8.out.size hb); have HS9 := Aside0.mk hb.size; clear hb hO9 hgc))
            have hbk : ∀ k, some k = (Value.slice (some ⟨g5, 0, none⟩) 512 c5).ownBlock → w4.heap.size ≤ k ∧ k < w5.heap.size := fun k hk => by
              have := (HO9.out).1 k hk.symm
              exact ⟨this.2.1, this.2.2.1⟩
            have HKC := Aside0.mk (kp_grown HGC.out)
            have HPc := Aside0.mk (HP9.out.kept HKC.out.kept (fun k hk h => hk.1.2 h))
            have HQc := Aside0.mk (Kd.Q_lower (Kd.Q_kept HQ9.out HKC.out.kept (fun k hk h => by have h1 := hk.1; have h2 := (hbk k h).2; omega)) (Nat.zero_le _))
            have HXc := Aside0.mk ((HKC.out.same gbx (blk_lt HX9.out) (fun h => by have h1 := (hbk gbx h).1; have h2 := HW4.out.2; omega)).trans HX9.out)
            have HDc := Aside0.mk (HD9.out.kept HKC.out.kept (fun k hk h => by have h1 : k < w1.heap.size := hk.2; have h2 := (hbk k h).1; have h3 := HW4.out; omega))
            have HBc := Aside0.mk (HB9.out.trans (HKC.out.to_below w.heap.size (fun k hk => by have h1 := (hbk k hk).1; have h2 := HB4.out.size; omega) HB9.out.size))
            clear hbk
            go_roundg (gk - 1)
            case measure => have h1 := HI.out; have h2 := HQ.out.1; omega
            case rel =>
              have h1 := HI.out
              have h2 := HQ.out.1
              have h3 := HL.out
              exact ⟨i + 1, _, _, a2, ra2, hi2, _, _, by first | rfl | (rw [wr_in ((i : Int) + 1) (by omega)]; rfl), ⟨by omega⟩, ⟨HPc.out, fun k hk => ⟨hk.1.1.elim (fun h => (HDJ.out.1 k h).1) (fun h => by have h6 := HW4.out; omega), hk.1.1.elim (fun h => (HDJ.out.1 k h).2.1) (fun h => by have h6 := HW4.out; omega), fun h => by have h6 := hk.2; have h7 := h.1; omega⟩, fun k hk => ⟨by have h6 := hk.1; have h7 := HW4.out; have h8 := HS5.out; omega, by have h6 := hk.1; have h7 := HW4.out; have h8 := HS5.out; omega⟩, fun k hk => by have h6 := hk.2; have h7 := HS8.out; have h8 := HS9.out; have h9 := HKC.out.size; omega⟩, HQc, HXc, HMM, HNN, HDc, HBc, ⟨HW4.out.1, blk_lt HXc.out⟩⟩
        · have r3 : ((i : Int) == reset) = false := beq_eq_false_iff_ne.mpr hre
          clear hre
          go_upto_region 16 with fail
          clear hx0p p9 q9 q9b
          have HRB := Aside0.mk (show ∀ k, okR k → k < wr.heap.size from fun k hk => HRL.out k hk)
          by_cases hout : (pages : Int) ≤ p
          · have cge : decide ((pages : Int) ≤ p) = true := decide_eq_true hout
            have HOUT := Aside0.mk (show (t.length : Int) ≤ p by have := HT.out.1; omega)
            clear hout
            go_wp2_with (go_at_call 38; (with_reducible refine (get_any HPA.out HD4.out HL.out.2.1 (by have h1 := HI.out; have h2 := HL.out; omega) p HQ.out.2 (fun _ => rfl) (by have h1 := HN.out; have h2 := HI.out; have h3 := HL.out; omega) (by have h1 := HN.out; have h2 := HI.out; have h3 := HL.out; omega) HM.out [] 8 a ra ha (by rw [if_neg (by have := HOUT.out; omega)]) (by rw [if_neg (by have := HOUT.out; omega)]) (by rw [if_neg (by have := HOUT.out; omega)]) (by rw [if_neg (fun h => by have := HOUT.out; omega)]) (by rw [if_neg (fun h => by have := HOUT.out; omega)])).mono ?_); rintro en w5 ⟨A5, c5, rfl, ho, hp5, hk5⟩; have HP5 := Aside0.mk hp5.bound; have HQ5 := Aside0.mk (Kd.Q_mono (Kd.Q_bound (Kd.Q_kept HQ4.out hk5.kept (fun k hk h => (HDJ.out.1 k h).2.2 hk))) (ok' := fun k => okR k ∧ k < w5.heap.size) (fun k hk => ⟨hk.1, hk.2.2.1⟩)); have HX5 := Aside0.mk ((hk5.same gbx HW4.out.2 (fun h => (HDJ.out.1 gbx h).2.1 rfl)).trans HX4.out); have HD5 := Aside0.mk (HD4.out.kept hk5.kept (fun k hk h => by have h1 : k < w1.heap.size := hk.2; have h2 := (HDJ.out.1 k h).1; omega)); have HB5 := Aside0.mk (HB4.out.trans (hk5.to_below w.heap.size (fun k hk => by have h2 := (HDJ.out.1 k hk).1; have h3 := HS1.out; omega) HB4.out.size)); have HS5 := Aside0.mk hk5.size; clear ho hp5 hk5)
            go_roundg (gk - 1)
            case measure => have h1 := HI.out; have h2 := HQ.out.1; omega
            case rel =>
              have h1 := HI.out
              have h2 := HQ.out.1
              have h3 := HL.out
              exact ⟨i + 1, _, _, a, ra, ha, _, _, by first | rfl | (rw [wr_in ((i : Int) + 1) (by omega)]; rfl), ⟨by omega⟩, ⟨HP5.out, fun k hk => ⟨hk.1.1.elim (fun h => (HDJ.out.1 k h).1) (fun h => by have h6 := HW4.out; omega), hk.1.1.elim (fun h => (HDJ.out.1 k h).2.1) (fun h => by have h6 := HW4.out; omega), fun h => hk.1.1.elim (fun h6 => (HDJ.out.1 k h6).2.2 h.1) (fun h6 => by have := HRB.out k h.1; omega)⟩, fun k hk => HDJ.out.2 k hk.1, fun k hk => hk.2⟩, HQ5, HX5, HM, ⟨by have := HN.out; omega⟩, HD5, HB5, ⟨HW4.out.1, by have := HW4.out.2; have := HS5.out; omega⟩⟩
          · have cge : decide ((pages : Int) ≤ p) = false := decide_eq_false hout
            have HIN := Aside0.mk (show p < (t.length : Int) by have := HT.out.1; omega)
            clear hout
            obtain ⟨xs, hxs⟩ : ∃ x, x = pg d p.toNat := ⟨_, rfl⟩
            obtain ⟨a2, ha2⟩ : ∃ x, x = lru size a p := ⟨_, rfl⟩
            obtain ⟨ra2, hra2⟩ : ∃ x, x = if p ∈ a then ra else ra + 1 := ⟨_, rfl⟩
            obtain ⟨hi2, hhi2⟩ : ∃ x, x = if p ∈ a then ha + 1 else ha := ⟨_, rfl⟩
            have HRG := Aside0.mk (refget_f size p ra ha a HPA.out.nod (by have h1 := HN.out; have h2 := HI.out; have h3 := HL.out; omega) HL.out.2.1 (by have h1 := HN.out; have h2 := HI.out; have h3 := HL.out; omega))
            have HNN := Aside0.mk (show 0 ≤ ra2 ∧ ra2 ≤ i + 1 ∧ 0 ≤ hi2 ∧ hi2 ≤ i + 1 ∧ a2.length ≤ i + 1 by
              have h1 := HN.out
              have h2 := lru_len size a p
              rw [← ha2] at h2
              split at hra2 <;> split at hhi2 <;> omega)
            have HMM := Aside0.mk (show ∀ q ∈ a2, q < (t.length : Int) by
              intro q hq
              rw [ha2] at hq
              rcases lru_mem _ _ _ _ hq with h | rfl
              · exact HM.out q h
              · exact HIN.out)
            rw [← ha2, ← hra2, ← hhi2] at HRG
            have HEQ := Aside0.mk (And.intro hxs (And.intro ha2 (And.intro hra2 hhi2)))
            have HXL := Aside0.mk (show xs.length = 512 by rw [hxs]; exact pg_len HD4.out.2.1 (by have h1 := HQ.out.2; have h2 := HIN.out; omega))
            have hne := ba_self (strOfNums xs)
            clear hxs ha2 hra2 hhi2
            go_wp2_with (first
              | (go_at_call 38; (with_reducible refine (get_ok HPA.out HD4.out HL.out.2.1 (by have h1 := HI.out; have h2 := HL.out; omega) p HQ.out.2.1 HIN.out (fun _ => rfl) (by have h1 := HN.out; have h2 := HI.out; have h3 := HL.out; omega) (by have h1 := HN.out; have h2 := HI.out; have h3 := HL.out; omega)).mono ?_); rintro en w5 ⟨v5, rfl, ho, hp5, hk5⟩; rw [← HEQ.out.1] at ho; rw [← HEQ.out.2.1, ← HEQ.out.2.2.1, ← HEQ.out.2.2.2] at hp5; obtain ⟨g5, c5, e5, _⟩ := Kd.R_form ho (by rw [HXL.out]; decide); rw [HXL.out] at e5; subst e5; have HO5 := Aside0.mk (Kd.R_bound ho); have HP5 := Aside0.mk hp5.bound; have HQ5 := Aside0.mk (Kd.Q_kept HQ4.out hk5.kept (fun k hk h => (HDJ.out.1 k h).2.2 hk)); have HX5 := Aside0.mk ((hk5.same gbx HW4.out.2 (fun h => (HDJ.out.1 gbx h).2.1 rfl)).trans HX4.out); have HD5 := Aside0.mk (HD4.out.kept hk5.kept (fun k hk h => by have h1 : k < w1.heap.size := hk.2; have h2 := (HDJ.out.1 k h).1; omega)); have HB5 := Aside0.mk (HB4.out.trans (hk5.to_below w.heap.size (fun k hk => by have h2 := (HDJ.out.1 k hk).1; have h3 := HS1.out; omega) HB4.out.size)); have HS5 := Aside0.mk hk5.size; clear ho hp5 hk5; have hx0 := (blk_cell HX5.out 0).trans rfl; have hx1 := (blk_cell HX5.out 1).trans rfl; have hx2 := (blk_cell HX5.out 2).trans rfl; have hx3 := (blk_cell HX5.out 3).trans rfl)
              | (go_at_call 43; (with_reducible refine (rowlockref07_Pool_Get.calls (a.length + 1) size A1 c1 a ra ha p size a2 ra2 hi2 _ (Kd.Q_reads' HQ5.out).2.2 (Kd.Q_reads' HQ5.out).2.1 HRG.out).mono ?_); rintro en w6 ⟨v6, rfl, ho, hb⟩; clear hx0 hx1 hx2 hx3; obtain ⟨A6, c6, rfl, _⟩ := Kd.Q_slice ho; have HQ6 := Aside0.mk (Kd.Q_mono (Kd.Q_bound ho) (ok' := fun k => w5.heap.size ≤ k ∧ k < w6.heap.size) (fun k hk => ⟨hk.2.1, hk.2.2.1⟩)); have HX6 := Aside0.mk (blk_below HX5.out hb); have HO6 := Aside0.mk (Kd.R_below HO5.out hb); have HP6 := Aside0.mk (HP5.out.below hb); have HD6 := Aside0.mk (HD5.out.below hb); have HB6 := Aside0.mk (below_then HB5.out HB5.out.size hb); have HS6 := Aside0.mk hb.size; clear ho hb; have hx0 := (blk_cell HX6.out 0).trans rfl; have hx1 := (blk_cell HX6.out 1).trans rfl; have hx2 := (blk_cell HX6.out 2).trans rfl; have hx3 := (blk_cell HX6.out 3).trans rfl; have hf0 := blk_frozen HX6.out 0; have hf1 := blk_frozen HX6.out 1; have hf2 := blk_frozen HX6.out 2; have hf3 := blk_frozen HX6.out 3)
              | (go_at_call 28; have HK7 := Aside0.mk (put4_kp w6 gbx (.int .i64 size) (.slice A6 a2.length c6) (.int .u64 ra2) (.int .u64 hi2)); have HX7 := Aside0.mk (put4_box HX6.out (.int .i64 size) (.slice A6 a2.length c6) (.int .u64 ra2) (.int .u64 hi2)); have HQ7 := Aside0.mk (Kd.Q_kept HQ6.out HK7.out.kept (fun k hk h => by have h1 := hk.1; have h2 := HW4.out.2; have h3 := HS5.out; omega)); have HO7 := Aside0.mk (Kd.R_kept HO6.out HK7.out.kept (fun k hk h => by have h1 := hk.2.1; have h2 := HW4.out.2; omega)); have HP7 := Aside0.mk (HP6.out.kept HK7.out.kept (fun k hk h => hk.1.1.elim (fun h6 => (HDJ.out.1 k h6).2.1 h) (fun h6 => by have h2 := HW4.out.2; omega))); have HD7 := Aside0.mk (HD6.out.kept HK7.out.kept (fun k hk h => by have h1 : k < w1.heap.size := hk.2; have h2 := HW4.out.1; omega)); have HB7 := Aside0.mk (HB6.out.trans (HK7.out.to_below w.heap.size (fun k hk => by have h2 := HW4.out.1; have h3 := HS1.out; omega) HB6.out.size)); (refine (read_in HD7.out p HQ.out.2.1 HIN.out).mono ?_); rintro en w8 ⟨v8, rfl, ho, hb⟩; clear hx0 hx1 hx2 hx3 hf0 hf1 hf2 hf3; rw [← HEQ.out.1] at ho; obtain ⟨A8, c8, rfl⟩ := Kd.R_slice ho; have hcvy := own_string (P := Try.prog) Try.underlying26 Try.underlying5 Try.underlying9 (Kd.own_of_R ho); have hO8 := Kd.R_below HO7.out hb; have hcvx := own_string (P := Try.prog) Try.underlying26 Try.underlying5 Try.underlying9 (Kd.own_of_R hO8); have HO8 := Aside0.mk hO8; have HX8 := Aside0.mk (blk_below HX7.out hb); have HQ8 := Aside0.mk (Kd.Q_below HQ7.out hb); have HP8 := Aside0.mk (HP7.out.below hb); have HD8 := Aside0.mk (HD7.out.below hb); have HB8 := Aside0.mk (below_then HB7.out HB7.out.size hb); have HS8 := Aside0.mk (Nat.le_trans HK7.out.size hb.size); clear ho hb hO8; have hx0 := (blk_cell HX8.out 0).trans rfl; have hx1 := (blk_cell HX8.out 1).trans rfl; have hx2 := (blk_cell HX8.out 2).trans rfl; have hx3 := (blk_cell HX8.out 3).trans rfl)
              | (go_at_call 44; (with_reducible refine (same_ok HP8.out size A6 c6 (Kd.Q_reads' HQ8.out).2.2).mono ?_); rintro en w9 ⟨rfl, hb⟩; clear hcvx hcvy hx0 hx1 hx2 hx3; have hO9 := Kd.R_below HO8.out hb; obtain ⟨wc, hcl, hgc⟩ := Clr.clear_own (t := 26) (A := some ⟨g5, 0, none⟩) (n := 512) (c := c5) Try.underlying26 Try.zeroValue5 hO9 0; have HGC := Aside0.mk hgc; have HO9 := Aside0.mk hO9; have HX9 := Aside0.mk (blk_below HX8.out hb); have HQ9 := Aside0.mk (Kd.Q_below HQ8.out hb); have HP9 := Aside0.mk (HP8.out.below hb); have HD9 := Aside0.mk (HD8.out.below hb); have HB9 := Aside0.mk (below_then HB8.out HB8.out.size hb); have HS9 := Aside0.mk hb.size; clear hb hO9 hgc))
            have hbk : ∀ k, some k = (Value.slice (some ⟨g5, 0, none⟩) 512 c5).ownBlock → wr.heap.size ≤ k ∧ k < w5.heap.size := fun k hk => by
              have := (HO9.out).1 k hk.symm
              exact ⟨this.2.1, this.2.2.1⟩
            have HKC := Aside0.mk (kp_grown HGC.out)
            have HPc := Aside0.mk (HP9.out.kept HKC.out.kept (fun k hk h => hk.1.2 h))
            have HQc := Aside0.mk (Kd.Q_lower (Kd.Q_kept HQ9.out HKC.out.kept (fun k hk h => by have h1 := hk.1; have h2 := (hbk k h).2; omega)) (Nat.zero_le _))
            have HXc := Aside0.mk ((HKC.out.same gbx (blk_lt HX9.out) (fun h => by have h1 := (hbk gbx h).1; have h2 := HW4.out.2; omega)).trans HX9.out)
            have HDc := Aside0.mk (HD9.out.kept HKC.out.kept (fun k hk h => by have h1 : k < w1.heap.size := hk.2; have h2 := (hbk k h).1; have h3 := HW4.out; omega))
            have HBc := Aside0.mk (HB9.out.trans (HKC.out.to_below w.heap.size (fun k hk => by have h1 := (hbk k hk).1; have h2 := HB4.out.size; omega) HB9.out.size))
            clear hbk
            go_roundg (gk - 1)
            case measure => have h1 := HI.out; have h2 := HQ.out.1; omega
            case rel =>
              have h1 := HI.out
              have h2 := HQ.out.1
              have h3 := HL.out
              exact ⟨i + 1, _, _, a2, ra2, hi2, _, _, by first | rfl | (rw [wr_in ((i : Int) + 1) (by omega)]; rfl), ⟨by omega⟩, ⟨HPc.out, fun k hk => ⟨hk.1.1.elim (fun h => (HDJ.out.1 k h).1) (fun h => by have h6 := HW4.out; omega), hk.1.1.elim (fun h => (HDJ.out.1 k h).2.1) (fun h => by have h6 := HW4.out; omega), fun h => by have h6 := hk.2; have h7 := h.1; omega⟩, fun k hk => ⟨by have h6 := hk.1; have h7 := HW4.out; have h8 := HS5.out; omega, by have h6 := hk.1; have h7 := HW4.out; have h8 := HS5.out; omega⟩, fun k hk => by have h6 := hk.2; have h7 := HS8.out; have h8 := HS9.out; have h9 := HKC.out.size; omega⟩, HQc, HXc, HMM, HNN, HDc, HBc, ⟨HW4.out.1, blk_lt HXc.out⟩⟩
    · have c5b : decide ((i : Int) < (l.length : Int)) = false := decide_eq_false (by omega)
      have c5c : decide (i < l.length) = false := decide_eq_false c5
      clear c5
      obtain ⟨gm1, n1, D1, v1, ha1⟩ := HP.out.1
      have HA1 := Aside0.mk ha1
      have hpg : ((t.length : Int) == (pages : Int)) = true := by rw [HT.out.1]; exact beq_self_eq_true _
      clear ha1
      go_wp2_with (first
        | (go_at_call 35; (with_reducible refine (fixed_ok _).mono ?_); rintro en w5 ⟨rfl, hb⟩; have HA5 := Aside0.mk (HA1.out.below hb); have HD5 := Aside0.mk (HD4.out.below hb); have HB5 := Aside0.mk (below_then HB4.out HB4.out.size hb); clear hb)
        | (go_at_call 45; (with_reducible refine (pages_ok HA5.out HD5.out).mono ?_); rintro en w6 ⟨rfl, rfl⟩))
      go_ret
      exact ⟨rfl, HB5.out⟩
theorem PoolPlays_ok (pages size reset : Int) (A : Option Addr) (c : Nat) (l : List Int) (w : World) (hC : Kd.C (Kd.int .u32) w A l.length l) (hy : ∀ x ∈ l, (Lit.int .u32 x).wf = true) (hr : (Lit.int .u8 reset).wf = true) : Calls Try.prog 10 #[.int .i64 pages, .int .i64 size, .slice A l.length c, .int .u8 reset] w fun e w' => e = .returned (.bool true) ∧ Below w.heap.size w w' := by
  simp [Lit.wf, IntKind.min, IntKind.max, IntKind.signed, IntKind.bits] at hr
  have hw : ∀ x ∈ l, 0 ≤ x ∧ x < 4294967296 := fun x hx => by
    have := hy x hx
    simp [Lit.wf, IntKind.min, IntKind.max, IntKind.signed, IntKind.bits] at this
    omega
  by_cases h : pages < 1 ∨ 20 < pages ∨ 300 < l.length
  · exact PoolPlays_big pages size reset A l.length c w h
  · obtain ⟨k, rfl⟩ := Int.eq_ofNat_of_zero_le (show 0 ≤ pages by omega)
    by_cases hs : size < 1
    · exact PoolPlays_small k size reset A l.length c w (by omega) (by omega) hs
    · exact PoolPlays_walk k size reset A c l w (by omega) (by omega) (by omega) (by omega) hC hw
end Go.Proofs.Ytolgcohmmghehaa.Pool
