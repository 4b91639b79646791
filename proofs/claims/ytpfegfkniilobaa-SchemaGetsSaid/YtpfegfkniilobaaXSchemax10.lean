/- The reference's index: the walk. Conditions: its root is what its type holds. -/
import Derived.Test.YtpfegfkniilobaaXSchemax7
import Derived.Test.YtpfegfkniilobaaPureSchA0
import Derived.Deep.QuietTactic
import Derived.BigQuiet
import Derived.Deep.RegionHeld3
namespace Go.Proofs.Ytpfegfkniilobaa.Rp
open Go.RowKit Go.Proofs.YtpfegfkniilobaaW.PrintWords Go.Proofs.YtpfegfkniilobaaW.PrintLast Go.Proofs.YtpfegfkniilobaaW.PrintMore
open Go.Proofs.Ytpfegfkniilobaa.XSchema Go.Proofs.Ytpfegfkniilobaa.PureS
set_option linter.unusedVariables false
set_option linter.unusedSimpArgs false
set_option maxRecDepth 100000
theorem rf {R : Bool} {P : Prop} (h : R = true ↔ P) (hn : ¬ P) : R = false := by cases R <;> simp_all
theorem rt {R : Bool} {P : Prop} (h : R = true ↔ P) (hn : P) : R = true := h.2 hn
theorem name_w (w : World) (s : ByteArray) (b : Bool) (h : b = true ↔ nameP s) : Calls Try.prog 35 #[.string s] w fun e w' => e = .returned (.bool b) ∧ ∃ n, w.drewN n = w' := by
  obtain ⟨r, hr, hp⟩ := rName s
  obtain ⟨k, hk⟩ := hr.rounds
  refine (rowlockref12_Name.calls k s r w hk).mono ?_
  rintro e w' ⟨rfl, ⟨n, rfl⟩⟩
  have : b = r := by cases b <;> cases r <;> simp_all
  exact ⟨by rw [this], n, rfl⟩
theorem num_w (w : World) (n : Int) (b : Bool) (h : b = true ↔ numP n) : Calls Try.prog 95 #[.int .i64 n] w fun e w' => e = .returned (.bool b) ∧ ∃ m, w.drewN m = w' := by
  obtain ⟨r, hr, hp⟩ := rNum n
  obtain ⟨k, hk⟩ := hr.rounds
  refine (rowlockref12_number.calls n r w hk).mono ?_
  rintro e w' ⟨rfl, ⟨m, rfl⟩⟩
  have : b = r := by cases b <;> cases r <;> simp_all
  exact ⟨by rw [this], m, rfl⟩
theorem num_t (w : World) (n : Int) (h : numP n) : Calls Try.prog 95 #[.int .i64 n] w fun e w' => e = .returned (.bool true) ∧ ∃ m, w.drewN m = w' := num_w w n true (by simp [h])
theorem num_f (w : World) (n : Int) (h : ¬ numP n) : Calls Try.prog 95 #[.int .i64 n] w fun e w' => e = .returned (.bool false) ∧ ∃ m, w.drewN m = w' := num_w w n false (by simp [h])
theorem num_q (w : World) (n : Int) (b : Bool) (h : b = true ↔ numP n) : Calls Try.prog 95 #[.int .i64 n] w fun e w' => e = .returned (.bool b) ∧ ∃ m, w' = w.drewN m := (num_w w n b h).mono fun _ _ ⟨a, m, hm⟩ => ⟨a, m, hm.symm⟩
set_option maxHeartbeats 16000000 in
theorem index_ok (w : World) (A : Option Addr) (c : Nat) (T : List S84) (A2 : Option Addr) (c2 : Nat) (X : List S135) (x : S135) (A1 : Option Addr) (k1 : Nat) (A6 : Option Addr) (k6 : Nat) (hC : Kd.C k84 w A T.length T) (h1 : Kd.C (Kd.int .i64) w A1 x.f2.length x.f2) (h6 : Kd.C (Kd.int .i64) w A6 x.f6.length x.f6) (hW : indexW x) (R : Bool) (hR : R = true ↔ indexP T x) :
    Calls Try.prog 58 #[.agg #[.slice A T.length c, .slice A2 X.length c2], .agg #[.string x.f0, .int .i64 x.f1, .slice A1 x.f2.length k1, .int .u32 x.f3, .int .i64 x.f4, .int .i64 x.f5, .slice A6 x.f6.length k6]] w fun e w' => e = .returned (.bool R) ∧ Below w.heap.size w w' := by
  have HC := Aside0.mk hC
  have H1 := Aside0.mk h1
  have H6 := Aside0.mk h6
  have HR := Aside0.mk hR
  have HB := Aside0.mk (below_alloc (below_alloc (Below.refl w.heap.size w) (.cells #[.slice A T.length c, .slice A2 X.length c2] 80)) (.cells #[.string x.f0, .int .i64 x.f1, .slice A1 x.f2.length k1, .int .u32 x.f3, .int .i64 x.f4, .int .i64 x.f5, .slice A6 x.f6.length k6] 135))
  have HXb := Aside0.mk (blk_alloc (blk_new w (.cells #[.slice A T.length c, .slice A2 X.length c2] 80)) (.cells #[.string x.f0, .int .i64 x.f1, .slice A1 x.f2.length k1, .int .u32 x.f3, .int .i64 x.f4, .int .i64 x.f5, .slice A6 x.f6.length k6] 135))
  have HXx := Aside0.mk (blk_new (w.alloc (.cells #[.slice A T.length c, .slice A2 X.length c2] 80)) (.cells #[.string x.f0, .int .i64 x.f1, .slice A1 x.f2.length k1, .int .u32 x.f3, .int .i64 x.f4, .int .i64 x.f5, .slice A6 x.f6.length k6] 135))
  have s1_ : (w.alloc (.cells #[.slice A T.length c, .slice A2 X.length c2] 80)).heap.size = w.heap.size + 1 := by simp
  rw [s1_] at HXx
  have k3_ := hW.1
  have k4_ := hW.2
  clear hC h1 h6 hW hR s1_
  go_enter Try.func58, Try.ntmps58
  go_upto_region 1 with fail
  generalize hw1 : (w.alloc (.cells #[.slice A T.length c, .slice A2 X.length c2] 80)).alloc (.cells #[.string x.f0, .int .i64 x.f1, .slice A1 x.f2.length k1, .int .u32 x.f3, .int .i64 x.f4, .int .i64 x.f5, .slice A6 x.f6.length k6] 135) = w1 at HB HXb HXx ⊢
  generalize w.heap.size + 1 = gb at HXx ⊢
  generalize w.heap.size = ga at HXb ⊢
  clear hw1
  have hb0 := (blk_cell HXb.out 0).trans rfl; have hb1 := (blk_cell HXb.out 1).trans rfl; 
  have hx0 := (blk_cell HXx.out 0).trans rfl; have hx1 := (blk_cell HXx.out 1).trans rfl; have hx2 := (blk_cell HXx.out 2).trans rfl; have hx3 := (blk_cell HXx.out 3).trans rfl; have hx4 := (blk_cell HXx.out 4).trans rfl; have hx5 := (blk_cell HXx.out 5).trans rfl; have hx6 := (blk_cell HXx.out 6).trans rfl; 
  by_cases p1 : nameP x.f0
  · have HNM := Aside0.mk (show true = true ↔ nameP x.f0 by simp [p1])
    by_cases p2 : x.f1 < 0
    · have d2 : decide (x.f1 < 0) = true := decide_eq_true p2
      have HF : Aside0 (R = false) := ⟨rf HR.out (fun h => absurd h.2.1.1 (by omega))⟩
      clear p1 p2
      go_wp2_with (go_at_call 35; (with_reducible refine (name_w _ x.f0 true HNM.out).mono ?_); rintro en wq ⟨rfl, ⟨nq, rfl⟩⟩)
      go_ret
      exact ⟨by rw [HF.out]; rfl, pw_below_drewN HB.out _⟩
    have d2 : decide (x.f1 < 0) = false := decide_eq_false p2
    by_cases p3 : (T.length : Int) ≤ x.f1
    · have d3 : decide ((T.length : Int) ≤ x.f1) = true := decide_eq_true p3
      have HF : Aside0 (R = false) := ⟨rf HR.out (fun h => absurd h.2.1.2 (by omega))⟩
      clear p1 p2 p3
      go_wp2_with (go_at_call 35; (with_reducible refine (name_w _ x.f0 true HNM.out).mono ?_); rintro en wq ⟨rfl, ⟨nq, rfl⟩⟩)
      go_ret
      exact ⟨by rw [HF.out]; rfl, pw_below_drewN HB.out _⟩
    have d3 : decide ((T.length : Int) ≤ x.f1) = false := decide_eq_false p3
    by_cases p4 : x.f2.length < 1
    · have d4 : decide ((x.f2.length : Int) < 1) = true := decide_eq_true (by omega)
      have d4b : decide (x.f2.length < 1) = true := decide_eq_true p4
      have HF : Aside0 (R = false) := ⟨rf HR.out (fun h => absurd h.2.2.1.1 (by omega))⟩
      clear p1 p2 p3 p4
      go_wp2_with (go_at_call 35; (with_reducible refine (name_w _ x.f0 true HNM.out).mono ?_); rintro en wq ⟨rfl, ⟨nq, rfl⟩⟩)
      go_ret
      exact ⟨by rw [HF.out]; rfl, pw_below_drewN HB.out _⟩
    have d4 : decide ((x.f2.length : Int) < 1) = false := decide_eq_false (by omega)
    have d4b : decide (x.f2.length < 1) = false := decide_eq_false p4
    by_cases p5 : 2 < x.f2.length
    · have d5 : decide ((2 : Int) < (x.f2.length : Int)) = true := decide_eq_true (by omega)
      have d5b : decide (2 < x.f2.length) = true := decide_eq_true p5
      have HF : Aside0 (R = false) := ⟨rf HR.out (fun h => absurd h.2.2.1.2 (by omega))⟩
      clear p1 p2 p3 p4 p5
      go_wp2_with (go_at_call 35; (with_reducible refine (name_w _ x.f0 true HNM.out).mono ?_); rintro en wq ⟨rfl, ⟨nq, rfl⟩⟩)
      go_ret
      exact ⟨by rw [HF.out]; rfl, pw_below_drewN HB.out _⟩
    have d5 : decide ((2 : Int) < (x.f2.length : Int)) = false := decide_eq_false (by omega)
    have d5b : decide (2 < x.f2.length) = false := decide_eq_false p5
    by_cases p6 : x.f6.length = x.f2.length
    · have d6 : ((x.f6.length : Int) != (x.f2.length : Int)) = false := by simp [p6]
      have d6b : (x.f6.length != x.f2.length) = false := by simp [p6]
      have HP := Aside0.mk (And.intro p1 (And.intro p2 (And.intro p3 (And.intro p4 (And.intro p5 p6)))))
      clear p1 p2 p3 p4 p5 p6
      go_wp2_with (go_at_call 35; (with_reducible refine (name_w _ x.f0 true HNM.out).mono ?_); rintro en wq ⟨rfl, ⟨nq, rfl⟩⟩)
      replace HXb := Aside0.mk (blk_drewN HXb.out nq)
      replace HXx := Aside0.mk (blk_drewN HXx.out nq)
      replace HB := Aside0.mk (pw_below_drewN HB.out nq)
      go_loopg [47] x.f2.length (fun kq v47 w' => ∃ i : Nat, v47 = .int .i64 (i : Int) ∧ Aside0 (kq + i = x.f2.length) ∧ Aside0 (∀ j : Nat, j < i → (0 ≤ rd x.f2 (j : Int) ∧ rd x.f2 (j : Int) < (rd_T84 T x.f1).f1.length) ∧ numP (rd x.f6 (j : Int))) ∧ Aside0 (Below w.heap.size w w') ∧ Aside0 (w'.heap[ga]? = some (.cells #[.slice A T.length c, .slice A2 X.length c2] 80 (0, 0))) ∧ Aside0 (w'.heap[gb]? = some (.cells #[.string x.f0, .int .i64 x.f1, .slice A1 x.f2.length k1, .int .u32 x.f3, .int .i64 x.f4, .int .i64 x.f5, .slice A6 x.f6.length k6] 135 (0, 0))))
      case atStart => exact ⟨0, rfl, ⟨by omega⟩, ⟨fun j hj => absurd hj (Nat.not_lt_zero j)⟩, HB, HXb, HXx⟩
      case round =>
        clear HB HXb HXx hb0 hb1 hx0 hx1 hx2 hx3 hx4 hx5 hx6 d2 d3 d4 d4b d5 d5b d6 d6b
        obtain ⟨i, rfl, HI, HA, HB, HXb, HXx⟩ := hrel
        have hb0 := (blk_cell HXb.out 0).trans rfl; have hb1 := (blk_cell HXb.out 1).trans rfl; 
        have hx0 := (blk_cell HXx.out 0).trans rfl; have hx1 := (blk_cell HXx.out 1).trans rfl; have hx2 := (blk_cell HXx.out 2).trans rfl; have hx3 := (blk_cell HXx.out 3).trans rfl; have hx4 := (blk_cell HXx.out 4).trans rfl; have hx5 := (blk_cell HXx.out 5).trans rfl; have hx6 := (blk_cell HXx.out 6).trans rfl; 
        by_cases c5 : i < x.f2.length
        · have c1 : decide ((i : Int) < (x.f2.length : Int)) = true := decide_eq_true (by omega)
          have c1b : decide (i < x.f2.length) = true := decide_eq_true c5
          have e9 : (0 ≤ (i : Int)) = True := eq_true (by omega)
          have f9 : ((i : Int) < (x.f2.length : Int)) = True := eq_true (by omega)
          have f9b : (i < x.f2.length) = True := eq_true c5
          have g9 : ((i : Int) < (x.f6.length : Int)) = True := eq_true (by have := HP.out.2.2.2.2.2; omega)
          have g9b : (i < x.f6.length) = True := eq_true (by have := HP.out.2.2.2.2.2; omega)
          obtain ⟨ad, e1, hy⟩ := Kd.at_int H1.out (i : Int) (by omega) (by omega)
          obtain ⟨ad6, e6, hz⟩ := Kd.at_int H6.out (i : Int) (by omega) (by have := HP.out.2.2.2.2.2; omega)
          obtain ⟨adT, AT, kT, eT, ht0, ht1, ht2, ht3, ht4, _⟩ := at_T84 HC.out x.f1 (by have := HP.out.2.1; omega) (by have := HP.out.2.2.1; omega)
          subst e1 e6 eT
          rw [Int.toNat_natCast] at hy hz
          replace hy := (HB.out.cell (World.block_lt_of_cell? w _ hy)).trans hy
          replace hz := (HB.out.cell (World.block_lt_of_cell? w _ hz)).trans hz
          replace ht1 := (HB.out.cell (World.block_lt_of_cell? w _ ht1)).trans ht1
          clear ht0 ht2 ht3 ht4
          have hall := HA.out
          obtain ⟨m, hm⟩ : ∃ m, m = (rd_T84 T x.f1).f1.length := ⟨_, rfl⟩
          obtain ⟨n, hn⟩ : ∃ n, n = rd x.f2 (i : Int) := ⟨_, rfl⟩
          obtain ⟨v, hv⟩ : ∃ v, v = rd x.f6 (i : Int) := ⟨_, rfl⟩
          rw [← hn] at hy
          rw [← hv] at hz
          rw [← hm] at ht1
          have a9 : (0 ≤ x.f1) = True := eq_true (by have := HP.out.2.1; omega)
          have b9 : (x.f1 < (T.length : Int)) = True := eq_true (by have := HP.out.2.2.1; omega)
          have HC5 := Aside0.mk c5
          by_cases q1 : n < 0
          · have r1 : decide (n < 0) = true := decide_eq_true q1
            have HF : Aside0 (R = false) := ⟨rf HR.out (fun h => by have := (h.2.2.2.2.1 i c5).1; rw [← hn] at this; omega)⟩
            clear q1 hall hm hn hv c5 a9 b9 g9 g9b
            go_upto_region 6 with fail
            go_quiet (fail)
            all_goals
              go_wp2
              go_ret
              exact ⟨by rw [HF.out]; rfl, pw_below_drewN HB.out _⟩
          have r1 : decide (n < 0) = false := decide_eq_false q1
          by_cases q2 : (m : Int) ≤ n
          · have r2 : decide ((m : Int) ≤ n) = true := decide_eq_true q2
            have HF : Aside0 (R = false) := ⟨rf HR.out (fun h => by have := (h.2.2.2.2.1 i c5).2; rw [← hn, ← hm] at this; omega)⟩
            clear q1 q2 hall hm hn hv c5 g9 g9b
            go_upto_region 6 with fail
            go_quiet (fail)
            all_goals
              go_wp2
              go_ret
              exact ⟨by rw [HF.out]; rfl, pw_below_drewN HB.out _⟩
          have r2 : decide ((m : Int) ≤ n) = false := decide_eq_false q2
          by_cases q3 : numP v
          · have HNV := Aside0.mk (show true = true ↔ numP v by simp [q3])
            have HA2 : Aside0 (∀ j : Nat, j < i + 1 → (0 ≤ rd x.f2 (j : Int) ∧ rd x.f2 (j : Int) < (rd_T84 T x.f1).f1.length) ∧ numP (rd x.f6 (j : Int))) := ⟨fun j hj => by
              by_cases e : j = i
              · subst e
                rw [← hn, ← hm, ← hv]
                exact ⟨⟨by omega, by omega⟩, q3⟩
              · exact hall j (by omega)⟩
            clear q1 q2 q3 hall hm hn hv c5
            go_upto_region 6 with fail
            go_quiet ((go_at_call 95; exact Calls.quiet_of (num_q _ _ true HNV.out)))
            all_goals
              go_wp2
              go_roundg (gk - 1)
              case measure => have h1 := HI.out; have h2 := HC5.out; omega
              case rel =>
                have h1 := HI.out
                have h2 := HC5.out
                have h3 := HP.out.2.2.2.2.1
                exact ⟨i + 1, by first | rfl | (rw [wr_in ((i : Int) + 1) (by omega)]; rfl), ⟨by omega⟩, HA2, ⟨pw_below_drewN HB.out _⟩, ⟨blk_drewN HXb.out _⟩, ⟨blk_drewN HXx.out _⟩⟩
          · have HNV := Aside0.mk (show false = true ↔ numP v by simp [q3])
            have HF : Aside0 (R = false) := ⟨rf HR.out (fun h => q3 (by have := h.2.2.2.2.2.1 i (by have := HP.out.2.2.2.2.2; omega); rwa [← hv] at this))⟩
            clear q1 q2 q3 hall hm hn hv c5
            go_upto_region 6 with fail
            go_quiet ((go_at_call 95; exact Calls.quiet_of (num_q _ _ false HNV.out)))
            all_goals
              go_wp2
              go_ret
              exact ⟨by rw [HF.out]; rfl, pw_below_drewN HB.out _⟩
        · have c1 : decide ((i : Int) < (x.f2.length : Int)) = false := decide_eq_false (by omega)
          have c1b : decide (i < x.f2.length) = false := decide_eq_false c5
          have hall := HA.out
          have hil : i = x.f2.length := by have := HI.out; omega
          rw [hil] at hall
          have HALL := Aside0.mk hall
          have o1 : 0 < x.f2.length := by have := HP.out.2.2.2.1; omega
          obtain ⟨ad, e1, hy⟩ := Kd.at_int H1.out 0 (by omega) (by omega)
          replace hy : w.cell? ad = some (.int .i64 (rd x.f2 0)) := hy
          replace hy := (HB.out.cell (World.block_lt_of_cell? w _ hy)).trans hy
          by_cases q1 : x.f2.length = 2
          · have r1 : ((x.f2.length : Int) == 2) = true := by simp; omega
            have r1b : (x.f2.length == 2) = true := by simp [q1]
            obtain ⟨ad2, e2, hy2⟩ := Kd.at_int H1.out 1 (by omega) (by omega)
            rw [e1] at e2
            injection e2 with e2
            subst e2 e1
            replace hy2 : w.cell? ((ad.add 1)) = some (.int .i64 (rd x.f2 1)) := hy2
            replace hy2 := (HB.out.cell (World.block_lt_of_cell? w _ hy2)).trans hy2
            have z0 : (0 < x.f2.length) = True := eq_true o1
            have z1 : (1 < x.f2.length) = True := eq_true (by omega)
            have z2 : ((1 : Int) < (x.f2.length : Int)) = True := eq_true (by omega)
            have hy3 : wr.cell? ⟨ad.block, ad.off + 1, none⟩ = some (.int .i64 (rd x.f2 1)) := hy2
            by_cases q2 : rd x.f2 0 = rd x.f2 1
            · have HF : Aside0 (R = false) := ⟨rf HR.out (fun h => h.2.2.2.2.2.2.1 q1 q2)⟩
              have r2 : (rd x.f2 0 == rd x.f2 1) = true := by simp [q2]
              obtain ⟨n0, hn0⟩ : ∃ n, n = rd x.f2 0 := ⟨_, rfl⟩
              obtain ⟨n1, hn1⟩ : ∃ n, n = rd x.f2 1 := ⟨_, rfl⟩
              rw [← hn0] at hy r2
              rw [← hn1] at hy2 hy3 r2
              clear q1 q2 hall hil c5 o1 hn0 hn1
              go_upto_region 9 with fail
              go_quiet (fail)
              all_goals
                go_wp2
                go_ret
                exact ⟨by rw [HF.out]; rfl, pw_below_drewN HB.out _⟩
            · have r2 : (rd x.f2 0 == rd x.f2 1) = false := by simp [q2]
              have HQ : Aside0 (x.f2.length = 2 → rd x.f2 0 ≠ rd x.f2 1) := ⟨fun _ => q2⟩
              obtain ⟨n0, hn0⟩ : ∃ n, n = rd x.f2 0 := ⟨_, rfl⟩
              obtain ⟨n1, hn1⟩ : ∃ n, n = rd x.f2 1 := ⟨_, rfl⟩
              rw [← hn0] at hy r2
              rw [← hn1] at hy2 hy3 r2
              clear q1 q2 hall hil c5 o1 hn0 hn1
              go_upto_region 9 with fail
              go_quiet (fail)
              all_goals
                clear r1 r1b r2 hy hy2 hy3 z0 z1 z2 c1 c1b
                by_cases z3 : numP x.f3
                · have HN3 := Aside0.mk (show numP x.f3 from z3)
                  by_cases z4 : numP x.f4
                  · have HN4 := Aside0.mk (show numP x.f4 from z4)
                    by_cases z5 : numP x.f5
                    · have HN5 := Aside0.mk (show numP x.f5 from z5)
                      have HF : Aside0 (R = true) := ⟨rt HR.out ⟨HP.out.1, ⟨by have := HP.out.2.1; omega, by have := HP.out.2.2.1; omega⟩, ⟨by have := HP.out.2.2.2.1; omega, by have := HP.out.2.2.2.2.1; omega⟩, HP.out.2.2.2.2.2, fun j hj => (HALL.out j hj).1, fun j hj => (HALL.out j (by have := HP.out.2.2.2.2.2; omega)).2, HQ.out, z3, z4, z5⟩⟩
                      clear z3 z4 z5
                      go_wp2_with (first | (go_at_call 95; (with_reducible refine (num_t _ (x.f3) HN3.out).mono ?_); rintro en wq ⟨rfl, ⟨nq, rfl⟩⟩) | (go_at_call 95; (with_reducible refine (num_t _ (x.f4) HN4.out).mono ?_); rintro en wq ⟨rfl, ⟨nq, rfl⟩⟩) | (go_at_call 95; (with_reducible refine (num_t _ (x.f5) HN5.out).mono ?_); rintro en wq ⟨rfl, ⟨nq, rfl⟩⟩))
                      go_ret
                      exact ⟨by rw [HF.out]; rfl, (by repeat (first | exact HB.out | apply pw_below_drewN))⟩
                    · have HN5 := Aside0.mk (show ¬ numP x.f5 from z5)
                      have HF : Aside0 (R = false) := ⟨rf HR.out (fun h => z5 h.2.2.2.2.2.2.2.2.2)⟩
                      clear z3 z4 z5
                      go_wp2_with (first | (go_at_call 95; (with_reducible refine (num_t _ (x.f3) HN3.out).mono ?_); rintro en wq ⟨rfl, ⟨nq, rfl⟩⟩) | (go_at_call 95; (with_reducible refine (num_t _ (x.f4) HN4.out).mono ?_); rintro en wq ⟨rfl, ⟨nq, rfl⟩⟩) | (go_at_call 95; (with_reducible refine (num_f _ (x.f5) HN5.out).mono ?_); rintro en wq ⟨rfl, ⟨nq, rfl⟩⟩))
                      go_ret
                      exact ⟨by rw [HF.out]; rfl, (by repeat (first | exact HB.out | apply pw_below_drewN))⟩
                  · have HN4 := Aside0.mk (show ¬ numP x.f4 from z4)
                    have HF : Aside0 (R = false) := ⟨rf HR.out (fun h => z4 h.2.2.2.2.2.2.2.2.1)⟩
                    clear z3 z4
                    go_wp2_with (first | (go_at_call 95; (with_reducible refine (num_t _ (x.f3) HN3.out).mono ?_); rintro en wq ⟨rfl, ⟨nq, rfl⟩⟩) | (go_at_call 95; (with_reducible refine (num_f _ (x.f4) HN4.out).mono ?_); rintro en wq ⟨rfl, ⟨nq, rfl⟩⟩))
                    go_ret
                    exact ⟨by rw [HF.out]; rfl, (by repeat (first | exact HB.out | apply pw_below_drewN))⟩
                · have HN3 := Aside0.mk (show ¬ numP x.f3 from z3)
                  have HF : Aside0 (R = false) := ⟨rf HR.out (fun h => z3 h.2.2.2.2.2.2.2.1)⟩
                  clear z3
                  go_wp2_with (first | (go_at_call 95; (with_reducible refine (num_f _ (x.f3) HN3.out).mono ?_); rintro en wq ⟨rfl, ⟨nq, rfl⟩⟩))
                  go_ret
                  exact ⟨by rw [HF.out]; rfl, (by repeat (first | exact HB.out | apply pw_below_drewN))⟩
          · have r1 : ((x.f2.length : Int) == 2) = false := by simp; omega
            have r1b : (x.f2.length == 2) = false := by simp [q1]
            have HQ : Aside0 (x.f2.length = 2 → rd x.f2 0 ≠ rd x.f2 1) := ⟨fun h => absurd h q1⟩
            clear q1 hall hil c5 o1 hy
            go_upto_region 9 with fail
            go_quiet (fail)
            all_goals
              clear r1 r1b c1 c1b
              by_cases z3 : numP x.f3
              · have HN3 := Aside0.mk (show numP x.f3 from z3)
                by_cases z4 : numP x.f4
                · have HN4 := Aside0.mk (show numP x.f4 from z4)
                  by_cases z5 : numP x.f5
                  · have HN5 := Aside0.mk (show numP x.f5 from z5)
                    have HF : Aside0 (R = true) := ⟨rt HR.out ⟨HP.out.1, ⟨by have := HP.out.2.1; omega, by have := HP.out.2.2.1; omega⟩, ⟨by have := HP.out.2.2.2.1; omega, by have := HP.out.2.2.2.2.1; omega⟩, HP.out.2.2.2.2.2, fun j hj => (HALL.out j hj).1, fun j hj => (HALL.out j (by have := HP.out.2.2.2.2.2; omega)).2, HQ.out, z3, z4, z5⟩⟩
                    clear z3 z4 z5
                    go_wp2_with (first | (go_at_call 95; (with_reducible refine (num_t _ (x.f3) HN3.out).mono ?_); rintro en wq ⟨rfl, ⟨nq, rfl⟩⟩) | (go_at_call 95; (with_reducible refine (num_t _ (x.f4) HN4.out).mono ?_); rintro en wq ⟨rfl, ⟨nq, rfl⟩⟩) | (go_at_call 95; (with_reducible refine (num_t _ (x.f5) HN5.out).mono ?_); rintro en wq ⟨rfl, ⟨nq, rfl⟩⟩))
                    go_ret
                    exact ⟨by rw [HF.out]; rfl, (by repeat (first | exact HB.out | apply pw_below_drewN))⟩
                  · have HN5 := Aside0.mk (show ¬ numP x.f5 from z5)
                    have HF : Aside0 (R = false) := ⟨rf HR.out (fun h => z5 h.2.2.2.2.2.2.2.2.2)⟩
                    clear z3 z4 z5
                    go_wp2_with (first | (go_at_call 95; (with_reducible refine (num_t _ (x.f3) HN3.out).mono ?_); rintro en wq ⟨rfl, ⟨nq, rfl⟩⟩) | (go_at_call 95; (with_reducible refine (num_t _ (x.f4) HN4.out).mono ?_); rintro en wq ⟨rfl, ⟨nq, rfl⟩⟩) | (go_at_call 95; (with_reducible refine (num_f _ (x.f5) HN5.out).mono ?_); rintro en wq ⟨rfl, ⟨nq, rfl⟩⟩))
                    go_ret
                    exact ⟨by rw [HF.out]; rfl, (by repeat (first | exact HB.out | apply pw_below_drewN))⟩
                · have HN4 := Aside0.mk (show ¬ numP x.f4 from z4)
                  have HF : Aside0 (R = false) := ⟨rf HR.out (fun h => z4 h.2.2.2.2.2.2.2.2.1)⟩
                  clear z3 z4
                  go_wp2_with (first | (go_at_call 95; (with_reducible refine (num_t _ (x.f3) HN3.out).mono ?_); rintro en wq ⟨rfl, ⟨nq, rfl⟩⟩) | (go_at_call 95; (with_reducible refine (num_f _ (x.f4) HN4.out).mono ?_); rintro en wq ⟨rfl, ⟨nq, rfl⟩⟩))
                  go_ret
                  exact ⟨by rw [HF.out]; rfl, (by repeat (first | exact HB.out | apply pw_below_drewN))⟩
              · have HN3 := Aside0.mk (show ¬ numP x.f3 from z3)
                have HF : Aside0 (R = false) := ⟨rf HR.out (fun h => z3 h.2.2.2.2.2.2.2.1)⟩
                clear z3
                go_wp2_with (first | (go_at_call 95; (with_reducible refine (num_f _ (x.f3) HN3.out).mono ?_); rintro en wq ⟨rfl, ⟨nq, rfl⟩⟩))
                go_ret
                exact ⟨by rw [HF.out]; rfl, (by repeat (first | exact HB.out | apply pw_below_drewN))⟩
    · have d6 : ((x.f6.length : Int) != (x.f2.length : Int)) = true := by simp; omega
      have d6b : (x.f6.length != x.f2.length) = true := by simp [p6]
      have HF : Aside0 (R = false) := ⟨rf HR.out (fun h => p6 h.2.2.2.1)⟩
      clear p1 p2 p3 p4 p5 p6
      go_wp2_with (go_at_call 35; (with_reducible refine (name_w _ x.f0 true HNM.out).mono ?_); rintro en wq ⟨rfl, ⟨nq, rfl⟩⟩)
      go_ret
      exact ⟨by rw [HF.out]; rfl, pw_below_drewN HB.out _⟩
  · have HNM := Aside0.mk (show false = true ↔ nameP x.f0 by simp [p1])
    have HF : Aside0 (R = false) := ⟨rf HR.out (fun h => p1 h.1)⟩
    clear p1
    go_wp2_with (go_at_call 35; (with_reducible refine (name_w _ x.f0 false HNM.out).mono ?_); rintro en wq ⟨rfl, ⟨nq, rfl⟩⟩)
    go_ret
    exact ⟨by rw [HF.out]; rfl, pw_below_drewN HB.out _⟩
end Go.Proofs.Ytpfegfkniilobaa.Rp
namespace Go.Proofs.Ytpfegfkniilobaa.Rp
open Go.RowKit Go.Proofs.YtpfegfkniilobaaW.PrintWords Go.Proofs.YtpfegfkniilobaaW.PrintLast Go.Proofs.YtpfegfkniilobaaW.PrintMore
open Go.Proofs.Ytpfegfkniilobaa.XSchema Go.Proofs.Ytpfegfkniilobaa.PureS
set_option linter.unusedVariables false
set_option linter.unusedSimpArgs false
set_option maxRecDepth 100000
theorem bel_of (w : World) {f : Nat} {args : Array Value} {b : Bool} (h : Calls Try.prog f args w fun e w' => e = .returned (.bool b) ∧ ∃ m, w.drewN m = w') : Calls Try.prog f args w fun e w' => e = .returned (.bool b) ∧ Below w.heap.size w w' :=
  h.mono fun e w' ⟨he, m, hm⟩ => ⟨he, hm ▸ pw_below_drewN (Below.refl _ _) m⟩
theorem nameB_t (w : World) (s : ByteArray) (h : nameP s) : Calls Try.prog 35 #[.string s] w fun e w' => e = .returned (.bool true) ∧ Below w.heap.size w w' := bel_of w (name_w w s true (by simp [h]))
theorem nameB_f (w : World) (s : ByteArray) (h : ¬ nameP s) : Calls Try.prog 35 #[.string s] w fun e w' => e = .returned (.bool false) ∧ Below w.heap.size w w' := bel_of w (name_w w s false (by simp [h]))
theorem numB_t (w : World) (n : Int) (h : numP n) : Calls Try.prog 95 #[.int .i64 n] w fun e w' => e = .returned (.bool true) ∧ Below w.heap.size w w' := bel_of w (num_t w n h)
theorem numB_f (w : World) (n : Int) (h : ¬ numP n) : Calls Try.prog 95 #[.int .i64 n] w fun e w' => e = .returned (.bool false) ∧ Below w.heap.size w w' := bel_of w (num_f w n h)
set_option maxHeartbeats 16000000 in
theorem table_ok (w : World) (t : S84) (A1 : Option Addr) (k1 : Nat) (h1 : Kd.C k87 w A1 t.f1.length t.f1) (hW : tableW t) (R : Bool) (hR : R = true ↔ tableP t) :
    Calls Try.prog 57 #[.agg #[.string t.f0, .slice A1 t.f1.length k1, .int .u32 t.f2, .int .i64 t.f3, .int .i64 t.f4]] w fun e w' => e = .returned (.bool R) ∧ Below w.heap.size w w' := by
  have H1 := Aside0.mk h1
  have HR := Aside0.mk hR
  have HWW := Aside0.mk hW
  have HB := Aside0.mk (below_alloc (Below.refl w.heap.size w) (.cells #[.string t.f0, .slice A1 t.f1.length k1, .int .u32 t.f2, .int .i64 t.f3, .int .i64 t.f4] 84))
  have HXt := Aside0.mk (blk_new w (.cells #[.string t.f0, .slice A1 t.f1.length k1, .int .u32 t.f2, .int .i64 t.f3, .int .i64 t.f4] 84))
  have k3_ := hW.1
  have k4_ := hW.2.1
  clear h1 hW hR
  go_enter Try.func57, Try.ntmps57
  go_upto_region 1 with fail
  generalize hw1 : w.alloc (.cells #[.string t.f0, .slice A1 t.f1.length k1, .int .u32 t.f2, .int .i64 t.f3, .int .i64 t.f4] 84) = w1 at HB HXt ⊢
  generalize w.heap.size = ga at HXt ⊢
  clear hw1
  have ht0 := (blk_cell HXt.out 0).trans rfl; have ht1 := (blk_cell HXt.out 1).trans rfl; have ht2 := (blk_cell HXt.out 2).trans rfl; have ht3 := (blk_cell HXt.out 3).trans rfl; have ht4 := (blk_cell HXt.out 4).trans rfl; 
  by_cases p1 : nameP t.f0
  case neg =>
    have Hp1 := Aside0.mk p1
    have HF : Aside0 (R = false) := ⟨rf HR.out (fun h => Hp1.out h.1)⟩
    clear p1
    go_wp2_with (first | (go_at_call 35; (with_reducible refine (nameB_f _ (t.f0) Hp1.out).mono ?_); rintro en wq ⟨rfl, hb_⟩; replace HB := Aside0.mk (below_then HB.out HB.out.size hb_); (try clear ht0 ht1 ht2 ht3 ht4); replace HXt := Aside0.mk (blk_below HXt.out hb_); have ht0 := (blk_cell HXt.out 0).trans rfl; have ht1 := (blk_cell HXt.out 1).trans rfl; have ht2 := (blk_cell HXt.out 2).trans rfl; have ht3 := (blk_cell HXt.out 3).trans rfl; have ht4 := (blk_cell HXt.out 4).trans rfl; clear hb_))
    go_ret
    exact ⟨by rw [HF.out]; rfl, HB.out⟩
  have Hp1 := Aside0.mk p1
  by_cases p2 : t.f1.length < 1
  case pos =>
    have d2 : decide ((t.f1.length : Int) < 1) = true := decide_eq_true (by omega)
    have d2b : decide (t.f1.length < 1) = true := decide_eq_true p2
    have HF : Aside0 (R = false) := ⟨rf HR.out (fun h => absurd h.2.1 (by omega))⟩
    clear p2
    go_wp2_with (first | (go_at_call 35; (with_reducible refine (nameB_t _ (t.f0) Hp1.out).mono ?_); rintro en wq ⟨rfl, hb_⟩; replace HB := Aside0.mk (below_then HB.out HB.out.size hb_); (try clear ht0 ht1 ht2 ht3 ht4); replace HXt := Aside0.mk (blk_below HXt.out hb_); have ht0 := (blk_cell HXt.out 0).trans rfl; have ht1 := (blk_cell HXt.out 1).trans rfl; have ht2 := (blk_cell HXt.out 2).trans rfl; have ht3 := (blk_cell HXt.out 3).trans rfl; have ht4 := (blk_cell HXt.out 4).trans rfl; clear hb_))
    go_ret
    exact ⟨by rw [HF.out]; rfl, HB.out⟩
  have d2 : decide ((t.f1.length : Int) < 1) = false := decide_eq_false (by omega)
  have d2b : decide (t.f1.length < 1) = false := decide_eq_false p2
  have Hp2 := Aside0.mk p2
  by_cases p3 : 8 < t.f1.length
  case pos =>
    have d3 : decide ((8 : Int) < (t.f1.length : Int)) = true := decide_eq_true (by omega)
    have d3b : decide (8 < t.f1.length) = true := decide_eq_true p3
    have HF : Aside0 (R = false) := ⟨rf HR.out (fun h => absurd h.2.2.1 (by omega))⟩
    clear p3
    go_wp2_with (first | (go_at_call 35; (with_reducible refine (nameB_t _ (t.f0) Hp1.out).mono ?_); rintro en wq ⟨rfl, hb_⟩; replace HB := Aside0.mk (below_then HB.out HB.out.size hb_); (try clear ht0 ht1 ht2 ht3 ht4); replace HXt := Aside0.mk (blk_below HXt.out hb_); have ht0 := (blk_cell HXt.out 0).trans rfl; have ht1 := (blk_cell HXt.out 1).trans rfl; have ht2 := (blk_cell HXt.out 2).trans rfl; have ht3 := (blk_cell HXt.out 3).trans rfl; have ht4 := (blk_cell HXt.out 4).trans rfl; clear hb_))
    go_ret
    exact ⟨by rw [HF.out]; rfl, HB.out⟩
  have d3 : decide ((8 : Int) < (t.f1.length : Int)) = false := decide_eq_false (by omega)
  have d3b : decide (8 < t.f1.length) = false := decide_eq_false p3
  have Hp3 := Aside0.mk p3
  by_cases p4 : numP t.f2
  case neg =>
    have Hp4 := Aside0.mk p4
    have HF : Aside0 (R = false) := ⟨rf HR.out (fun h => Hp4.out h.2.2.2.1)⟩
    clear p4
    go_wp2_with (first | (go_at_call 35; (with_reducible refine (nameB_t _ (t.f0) Hp1.out).mono ?_); rintro en wq ⟨rfl, hb_⟩; replace HB := Aside0.mk (below_then HB.out HB.out.size hb_); (try clear ht0 ht1 ht2 ht3 ht4); replace HXt := Aside0.mk (blk_below HXt.out hb_); have ht0 := (blk_cell HXt.out 0).trans rfl; have ht1 := (blk_cell HXt.out 1).trans rfl; have ht2 := (blk_cell HXt.out 2).trans rfl; have ht3 := (blk_cell HXt.out 3).trans rfl; have ht4 := (blk_cell HXt.out 4).trans rfl; clear hb_) | (go_at_call 95; (with_reducible refine (numB_f _ (t.f2) Hp4.out).mono ?_); rintro en wq ⟨rfl, hb_⟩; replace HB := Aside0.mk (below_then HB.out HB.out.size hb_); (try clear ht0 ht1 ht2 ht3 ht4); replace HXt := Aside0.mk (blk_below HXt.out hb_); have ht0 := (blk_cell HXt.out 0).trans rfl; have ht1 := (blk_cell HXt.out 1).trans rfl; have ht2 := (blk_cell HXt.out 2).trans rfl; have ht3 := (blk_cell HXt.out 3).trans rfl; have ht4 := (blk_cell HXt.out 4).trans rfl; clear hb_))
    go_ret
    exact ⟨by rw [HF.out]; rfl, HB.out⟩
  have Hp4 := Aside0.mk p4
  by_cases p5 : numP t.f3
  case neg =>
    have Hp5 := Aside0.mk p5
    have HF : Aside0 (R = false) := ⟨rf HR.out (fun h => Hp5.out h.2.2.2.2.1)⟩
    clear p5
    go_wp2_with (first | (go_at_call 35; (with_reducible refine (nameB_t _ (t.f0) Hp1.out).mono ?_); rintro en wq ⟨rfl, hb_⟩; replace HB := Aside0.mk (below_then HB.out HB.out.size hb_); (try clear ht0 ht1 ht2 ht3 ht4); replace HXt := Aside0.mk (blk_below HXt.out hb_); have ht0 := (blk_cell HXt.out 0).trans rfl; have ht1 := (blk_cell HXt.out 1).trans rfl; have ht2 := (blk_cell HXt.out 2).trans rfl; have ht3 := (blk_cell HXt.out 3).trans rfl; have ht4 := (blk_cell HXt.out 4).trans rfl; clear hb_) | (go_at_call 95; (with_reducible refine (numB_t _ (t.f2) Hp4.out).mono ?_); rintro en wq ⟨rfl, hb_⟩; replace HB := Aside0.mk (below_then HB.out HB.out.size hb_); (try clear ht0 ht1 ht2 ht3 ht4); replace HXt := Aside0.mk (blk_below HXt.out hb_); have ht0 := (blk_cell HXt.out 0).trans rfl; have ht1 := (blk_cell HXt.out 1).trans rfl; have ht2 := (blk_cell HXt.out 2).trans rfl; have ht3 := (blk_cell HXt.out 3).trans rfl; have ht4 := (blk_cell HXt.out 4).trans rfl; clear hb_) | (go_at_call 95; (with_reducible refine (numB_f _ (t.f3) Hp5.out).mono ?_); rintro en wq ⟨rfl, hb_⟩; replace HB := Aside0.mk (below_then HB.out HB.out.size hb_); (try clear ht0 ht1 ht2 ht3 ht4); replace HXt := Aside0.mk (blk_below HXt.out hb_); have ht0 := (blk_cell HXt.out 0).trans rfl; have ht1 := (blk_cell HXt.out 1).trans rfl; have ht2 := (blk_cell HXt.out 2).trans rfl; have ht3 := (blk_cell HXt.out 3).trans rfl; have ht4 := (blk_cell HXt.out 4).trans rfl; clear hb_))
    go_ret
    exact ⟨by rw [HF.out]; rfl, HB.out⟩
  have Hp5 := Aside0.mk p5
  by_cases p6 : numP t.f4
  case neg =>
    have Hp6 := Aside0.mk p6
    have HF : Aside0 (R = false) := ⟨rf HR.out (fun h => Hp6.out h.2.2.2.2.2.1)⟩
    clear p6
    go_wp2_with (first | (go_at_call 35; (with_reducible refine (nameB_t _ (t.f0) Hp1.out).mono ?_); rintro en wq ⟨rfl, hb_⟩; replace HB := Aside0.mk (below_then HB.out HB.out.size hb_); (try clear ht0 ht1 ht2 ht3 ht4); replace HXt := Aside0.mk (blk_below HXt.out hb_); have ht0 := (blk_cell HXt.out 0).trans rfl; have ht1 := (blk_cell HXt.out 1).trans rfl; have ht2 := (blk_cell HXt.out 2).trans rfl; have ht3 := (blk_cell HXt.out 3).trans rfl; have ht4 := (blk_cell HXt.out 4).trans rfl; clear hb_) | (go_at_call 95; (with_reducible refine (numB_t _ (t.f2) Hp4.out).mono ?_); rintro en wq ⟨rfl, hb_⟩; replace HB := Aside0.mk (below_then HB.out HB.out.size hb_); (try clear ht0 ht1 ht2 ht3 ht4); replace HXt := Aside0.mk (blk_below HXt.out hb_); have ht0 := (blk_cell HXt.out 0).trans rfl; have ht1 := (blk_cell HXt.out 1).trans rfl; have ht2 := (blk_cell HXt.out 2).trans rfl; have ht3 := (blk_cell HXt.out 3).trans rfl; have ht4 := (blk_cell HXt.out 4).trans rfl; clear hb_) | (go_at_call 95; (with_reducible refine (numB_t _ (t.f3) Hp5.out).mono ?_); rintro en wq ⟨rfl, hb_⟩; replace HB := Aside0.mk (below_then HB.out HB.out.size hb_); (try clear ht0 ht1 ht2 ht3 ht4); replace HXt := Aside0.mk (blk_below HXt.out hb_); have ht0 := (blk_cell HXt.out 0).trans rfl; have ht1 := (blk_cell HXt.out 1).trans rfl; have ht2 := (blk_cell HXt.out 2).trans rfl; have ht3 := (blk_cell HXt.out 3).trans rfl; have ht4 := (blk_cell HXt.out 4).trans rfl; clear hb_) | (go_at_call 95; (with_reducible refine (numB_f _ (t.f4) Hp6.out).mono ?_); rintro en wq ⟨rfl, hb_⟩; replace HB := Aside0.mk (below_then HB.out HB.out.size hb_); (try clear ht0 ht1 ht2 ht3 ht4); replace HXt := Aside0.mk (blk_below HXt.out hb_); have ht0 := (blk_cell HXt.out 0).trans rfl; have ht1 := (blk_cell HXt.out 1).trans rfl; have ht2 := (blk_cell HXt.out 2).trans rfl; have ht3 := (blk_cell HXt.out 3).trans rfl; have ht4 := (blk_cell HXt.out 4).trans rfl; clear hb_))
    go_ret
    exact ⟨by rw [HF.out]; rfl, HB.out⟩
  have Hp6 := Aside0.mk p6
  clear p1 p2 p3 p4 p5 p6
  go_wp2_with (first | (go_at_call 35; (with_reducible refine (nameB_t _ (t.f0) Hp1.out).mono ?_); rintro en wq ⟨rfl, hb_⟩; replace HB := Aside0.mk (below_then HB.out HB.out.size hb_); (try clear ht0 ht1 ht2 ht3 ht4); replace HXt := Aside0.mk (blk_below HXt.out hb_); have ht0 := (blk_cell HXt.out 0).trans rfl; have ht1 := (blk_cell HXt.out 1).trans rfl; have ht2 := (blk_cell HXt.out 2).trans rfl; have ht3 := (blk_cell HXt.out 3).trans rfl; have ht4 := (blk_cell HXt.out 4).trans rfl; clear hb_) | (go_at_call 95; (with_reducible refine (numB_t _ (t.f2) Hp4.out).mono ?_); rintro en wq ⟨rfl, hb_⟩; replace HB := Aside0.mk (below_then HB.out HB.out.size hb_); (try clear ht0 ht1 ht2 ht3 ht4); replace HXt := Aside0.mk (blk_below HXt.out hb_); have ht0 := (blk_cell HXt.out 0).trans rfl; have ht1 := (blk_cell HXt.out 1).trans rfl; have ht2 := (blk_cell HXt.out 2).trans rfl; have ht3 := (blk_cell HXt.out 3).trans rfl; have ht4 := (blk_cell HXt.out 4).trans rfl; clear hb_) | (go_at_call 95; (with_reducible refine (numB_t _ (t.f3) Hp5.out).mono ?_); rintro en wq ⟨rfl, hb_⟩; replace HB := Aside0.mk (below_then HB.out HB.out.size hb_); (try clear ht0 ht1 ht2 ht3 ht4); replace HXt := Aside0.mk (blk_below HXt.out hb_); have ht0 := (blk_cell HXt.out 0).trans rfl; have ht1 := (blk_cell HXt.out 1).trans rfl; have ht2 := (blk_cell HXt.out 2).trans rfl; have ht3 := (blk_cell HXt.out 3).trans rfl; have ht4 := (blk_cell HXt.out 4).trans rfl; clear hb_) | (go_at_call 95; (with_reducible refine (numB_t _ (t.f4) Hp6.out).mono ?_); rintro en wq ⟨rfl, hb_⟩; replace HB := Aside0.mk (below_then HB.out HB.out.size hb_); (try clear ht0 ht1 ht2 ht3 ht4); replace HXt := Aside0.mk (blk_below HXt.out hb_); have ht0 := (blk_cell HXt.out 0).trans rfl; have ht1 := (blk_cell HXt.out 1).trans rfl; have ht2 := (blk_cell HXt.out 2).trans rfl; have ht3 := (blk_cell HXt.out 3).trans rfl; have ht4 := (blk_cell HXt.out 4).trans rfl; clear hb_))
  clear ht0 ht1 ht2 ht3 ht4 d2 d2b d3 d3b
  go_loopg [44] t.f1.length (fun kq v44 w' => ∃ i : Nat, v44 = .int .i64 (i : Int) ∧ Aside0 (kq + i = t.f1.length) ∧ Aside0 (∀ j : Nat, j < i → colP (rd_T87 t.f1 (j : Int)) ∧ newC t.f1 j) ∧ Aside0 (Below w.heap.size w w') ∧ Aside0 (w'.heap[ga]? = some (.cells #[.string t.f0, .slice A1 t.f1.length k1, .int .u32 t.f2, .int .i64 t.f3, .int .i64 t.f4] 84 (0, 0))))
  case atStart => exact ⟨0, rfl, ⟨by omega⟩, ⟨fun j hj => absurd hj (Nat.not_lt_zero j)⟩, HB, HXt⟩
  case round =>
    clear HB HXt
    obtain ⟨i, rfl, HI, HA, HB, HXt⟩ := hrel
    have ht0 := (blk_cell HXt.out 0).trans rfl; have ht1 := (blk_cell HXt.out 1).trans rfl; have ht2 := (blk_cell HXt.out 2).trans rfl; have ht3 := (blk_cell HXt.out 3).trans rfl; have ht4 := (blk_cell HXt.out 4).trans rfl; 
    by_cases c5 : i < t.f1.length
    case neg =>
      have c1 : decide ((i : Int) < (t.f1.length : Int)) = false := decide_eq_false (by omega)
      have c1b : decide (i < t.f1.length) = false := decide_eq_false c5
      have hall := HA.out
      rw [show i = t.f1.length by have := HI.out; omega] at hall
      have HF : Aside0 (R = true) := ⟨rt HR.out ⟨Hp1.out, by have := Hp2.out; omega, by have := Hp3.out; omega, Hp4.out, Hp5.out, Hp6.out, hall⟩⟩
      clear c5 hall
      go_wp2
      go_ret
      exact ⟨by rw [HF.out]; rfl, HB.out⟩
    have c1 : decide ((i : Int) < (t.f1.length : Int)) = true := decide_eq_true (by omega)
    have c1b : decide (i < t.f1.length) = true := decide_eq_true c5
    have e9 : (0 ≤ (i : Int)) = True := eq_true (by omega)
    have f9 : ((i : Int) < (t.f1.length : Int)) = True := eq_true (by omega)
    have f9b : (i < t.f1.length) = True := eq_true c5
    obtain ⟨ad, e1, hy0, hy1, hy2, hy3⟩ := at_T87 H1.out (i : Int) (by omega) (by omega)
    subst e1
    rw [Int.toNat_natCast] at hy0 hy1 hy2 hy3
    replace hy0 := (HB.out.cell (World.block_lt_of_cell? w _ hy0)).trans hy0
    replace hy1 := (HB.out.cell (World.block_lt_of_cell? w _ hy1)).trans hy1
    replace hy2 := (HB.out.cell (World.block_lt_of_cell? w _ hy2)).trans hy2
    replace hy3 := (HB.out.cell (World.block_lt_of_cell? w _ hy3)).trans hy3
    have hqw := HWW.out.2.2 i c5
    have hqc : tableP t → colP (rd_T87 t.f1 (i : Int)) := fun h => (h.2.2.2.2.2.2 i c5).1
    have hqn : tableP t → newC t.f1 i := fun h => (h.2.2.2.2.2.2 i c5).2
    have HAi := HA
    obtain ⟨q, hq⟩ : ∃ q, q = rd_T87 t.f1 (i : Int) := ⟨_, rfl⟩
    rw [← hq] at hy0 hy1 hy2 hy3 hqw hqc
    have HQ := Aside0.mk hq
    have HQN := Aside0.mk hqn
    have HC5 := Aside0.mk c5
    have hcol := hqc
    have w0_ := hqw.1
    have w1_ := hqw.2
    have HXq := Aside0.mk (blk_new wr (.cells #[.string q.f0, .int .u8 q.f1, .int .i64 q.f2, .int .i64 q.f3] 87))
    replace HXt := Aside0.mk (blk_alloc HXt.out (.cells #[.string q.f0, .int .u8 q.f1, .int .i64 q.f2, .int .i64 q.f3] 87))
    replace HB := Aside0.mk (below_alloc HB.out (.cells #[.string q.f0, .int .u8 q.f1, .int .i64 q.f2, .int .i64 q.f3] 87))
    clear hq hqn hqc hqw
    go_upto_region 7 with fail
    clear hy0 hy1 hy2 hy3 ht0 ht1 ht2 ht3 ht4 c1 c1b c5
    generalize hwr : wr.alloc (.cells #[.string q.f0, .int .u8 q.f1, .int .i64 q.f2, .int .i64 q.f3] 87) = ws at HXt HXq HB ⊢
    generalize wr.heap.size = gq at HXq ⊢
    clear hwr
    have ht0 := (blk_cell HXt.out 0).trans rfl; have ht1 := (blk_cell HXt.out 1).trans rfl; have ht2 := (blk_cell HXt.out 2).trans rfl; have ht3 := (blk_cell HXt.out 3).trans rfl; have ht4 := (blk_cell HXt.out 4).trans rfl; 
    have hq0 := (blk_cell HXq.out 0).trans rfl; have hq1 := (blk_cell HXq.out 1).trans rfl; have hq2 := (blk_cell HXq.out 2).trans rfl; have hq3 := (blk_cell HXq.out 3).trans rfl; 
    by_cases q1 : nameP q.f0
    case neg =>
      have Hq1 := Aside0.mk q1
      have HF : Aside0 (R = false) := ⟨rf HR.out (fun h => Hq1.out (hcol h).1)⟩
      clear q1
      go_wp2_with (first | (go_at_call 35; (with_reducible refine (nameB_f _ (q.f0) Hq1.out).mono ?_); rintro en wq ⟨rfl, hb_⟩; replace HB := Aside0.mk (below_then HB.out HB.out.size hb_); (try clear ht0 ht1 ht2 ht3 ht4 hq0 hq1 hq2 hq3); replace HXt := Aside0.mk (blk_below HXt.out hb_); replace HXq := Aside0.mk (blk_below HXq.out hb_); have ht0 := (blk_cell HXt.out 0).trans rfl; have ht1 := (blk_cell HXt.out 1).trans rfl; have ht2 := (blk_cell HXt.out 2).trans rfl; have ht3 := (blk_cell HXt.out 3).trans rfl; have ht4 := (blk_cell HXt.out 4).trans rfl; have hq0 := (blk_cell HXq.out 0).trans rfl; have hq1 := (blk_cell HXq.out 1).trans rfl; have hq2 := (blk_cell HXq.out 2).trans rfl; have hq3 := (blk_cell HXq.out 3).trans rfl; clear hb_))
      go_ret
      exact ⟨by rw [HF.out]; rfl, HB.out⟩
    have Hq1 := Aside0.mk q1
    by_cases q2 : q.f1 = 0
    case pos =>
      have e2 : (q.f1 == 0) = true := by simpa using q2
      have HF : Aside0 (R = false) := ⟨rf HR.out (fun h => absurd (hcol h).2.1 (by omega))⟩
      clear q2
      go_wp2_with (first | (go_at_call 35; (with_reducible refine (nameB_t _ (q.f0) Hq1.out).mono ?_); rintro en wq ⟨rfl, hb_⟩; replace HB := Aside0.mk (below_then HB.out HB.out.size hb_); (try clear ht0 ht1 ht2 ht3 ht4 hq0 hq1 hq2 hq3); replace HXt := Aside0.mk (blk_below HXt.out hb_); replace HXq := Aside0.mk (blk_below HXq.out hb_); have ht0 := (blk_cell HXt.out 0).trans rfl; have ht1 := (blk_cell HXt.out 1).trans rfl; have ht2 := (blk_cell HXt.out 2).trans rfl; have ht3 := (blk_cell HXt.out 3).trans rfl; have ht4 := (blk_cell HXt.out 4).trans rfl; have hq0 := (blk_cell HXq.out 0).trans rfl; have hq1 := (blk_cell HXq.out 1).trans rfl; have hq2 := (blk_cell HXq.out 2).trans rfl; have hq3 := (blk_cell HXq.out 3).trans rfl; clear hb_))
      go_ret
      exact ⟨by rw [HF.out]; rfl, HB.out⟩
    have e2 : (q.f1 == 0) = false := by simpa using q2
    have Hq2 := Aside0.mk q2
    by_cases q3 : 3 < q.f1
    case pos =>
      have e3 : decide (3 < q.f1) = true := decide_eq_true q3
      have HF : Aside0 (R = false) := ⟨rf HR.out (fun h => absurd (hcol h).2.2.1 (by omega))⟩
      clear q3
      go_wp2_with (first | (go_at_call 35; (with_reducible refine (nameB_t _ (q.f0) Hq1.out).mono ?_); rintro en wq ⟨rfl, hb_⟩; replace HB := Aside0.mk (below_then HB.out HB.out.size hb_); (try clear ht0 ht1 ht2 ht3 ht4 hq0 hq1 hq2 hq3); replace HXt := Aside0.mk (blk_below HXt.out hb_); replace HXq := Aside0.mk (blk_below HXq.out hb_); have ht0 := (blk_cell HXt.out 0).trans rfl; have ht1 := (blk_cell HXt.out 1).trans rfl; have ht2 := (blk_cell HXt.out 2).trans rfl; have ht3 := (blk_cell HXt.out 3).trans rfl; have ht4 := (blk_cell HXt.out 4).trans rfl; have hq0 := (blk_cell HXq.out 0).trans rfl; have hq1 := (blk_cell HXq.out 1).trans rfl; have hq2 := (blk_cell HXq.out 2).trans rfl; have hq3 := (blk_cell HXq.out 3).trans rfl; clear hb_))
      go_ret
      exact ⟨by rw [HF.out]; rfl, HB.out⟩
    have e3 : decide (3 < q.f1) = false := decide_eq_false q3
    have Hq3 := Aside0.mk q3
    by_cases q4 : numP q.f2
    case neg =>
      have Hq4 := Aside0.mk q4
      have HF : Aside0 (R = false) := ⟨rf HR.out (fun h => Hq4.out (hcol h).2.2.2.1)⟩
      clear q4
      go_wp2_with (first | (go_at_call 35; (with_reducible refine (nameB_t _ (q.f0) Hq1.out).mono ?_); rintro en wq ⟨rfl, hb_⟩; replace HB := Aside0.mk (below_then HB.out HB.out.size hb_); (try clear ht0 ht1 ht2 ht3 ht4 hq0 hq1 hq2 hq3); replace HXt := Aside0.mk (blk_below HXt.out hb_); replace HXq := Aside0.mk (blk_below HXq.out hb_); have ht0 := (blk_cell HXt.out 0).trans rfl; have ht1 := (blk_cell HXt.out 1).trans rfl; have ht2 := (blk_cell HXt.out 2).trans rfl; have ht3 := (blk_cell HXt.out 3).trans rfl; have ht4 := (blk_cell HXt.out 4).trans rfl; have hq0 := (blk_cell HXq.out 0).trans rfl; have hq1 := (blk_cell HXq.out 1).trans rfl; have hq2 := (blk_cell HXq.out 2).trans rfl; have hq3 := (blk_cell HXq.out 3).trans rfl; clear hb_) | (go_at_call 95; (with_reducible refine (numB_f _ (q.f2) Hq4.out).mono ?_); rintro en wq ⟨rfl, hb_⟩; replace HB := Aside0.mk (below_then HB.out HB.out.size hb_); (try clear ht0 ht1 ht2 ht3 ht4 hq0 hq1 hq2 hq3); replace HXt := Aside0.mk (blk_below HXt.out hb_); replace HXq := Aside0.mk (blk_below HXq.out hb_); have ht0 := (blk_cell HXt.out 0).trans rfl; have ht1 := (blk_cell HXt.out 1).trans rfl; have ht2 := (blk_cell HXt.out 2).trans rfl; have ht3 := (blk_cell HXt.out 3).trans rfl; have ht4 := (blk_cell HXt.out 4).trans rfl; have hq0 := (blk_cell HXq.out 0).trans rfl; have hq1 := (blk_cell HXq.out 1).trans rfl; have hq2 := (blk_cell HXq.out 2).trans rfl; have hq3 := (blk_cell HXq.out 3).trans rfl; clear hb_))
      go_ret
      exact ⟨by rw [HF.out]; rfl, HB.out⟩
    have Hq4 := Aside0.mk q4
    by_cases q5 : numP q.f3
    case neg =>
      have Hq5 := Aside0.mk q5
      have HF : Aside0 (R = false) := ⟨rf HR.out (fun h => Hq5.out (hcol h).2.2.2.2)⟩
      clear q5
      go_wp2_with (first | (go_at_call 35; (with_reducible refine (nameB_t _ (q.f0) Hq1.out).mono ?_); rintro en wq ⟨rfl, hb_⟩; replace HB := Aside0.mk (below_then HB.out HB.out.size hb_); (try clear ht0 ht1 ht2 ht3 ht4 hq0 hq1 hq2 hq3); replace HXt := Aside0.mk (blk_below HXt.out hb_); replace HXq := Aside0.mk (blk_below HXq.out hb_); have ht0 := (blk_cell HXt.out 0).trans rfl; have ht1 := (blk_cell HXt.out 1).trans rfl; have ht2 := (blk_cell HXt.out 2).trans rfl; have ht3 := (blk_cell HXt.out 3).trans rfl; have ht4 := (blk_cell HXt.out 4).trans rfl; have hq0 := (blk_cell HXq.out 0).trans rfl; have hq1 := (blk_cell HXq.out 1).trans rfl; have hq2 := (blk_cell HXq.out 2).trans rfl; have hq3 := (blk_cell HXq.out 3).trans rfl; clear hb_) | (go_at_call 95; (with_reducible refine (numB_t _ (q.f2) Hq4.out).mono ?_); rintro en wq ⟨rfl, hb_⟩; replace HB := Aside0.mk (below_then HB.out HB.out.size hb_); (try clear ht0 ht1 ht2 ht3 ht4 hq0 hq1 hq2 hq3); replace HXt := Aside0.mk (blk_below HXt.out hb_); replace HXq := Aside0.mk (blk_below HXq.out hb_); have ht0 := (blk_cell HXt.out 0).trans rfl; have ht1 := (blk_cell HXt.out 1).trans rfl; have ht2 := (blk_cell HXt.out 2).trans rfl; have ht3 := (blk_cell HXt.out 3).trans rfl; have ht4 := (blk_cell HXt.out 4).trans rfl; have hq0 := (blk_cell HXq.out 0).trans rfl; have hq1 := (blk_cell HXq.out 1).trans rfl; have hq2 := (blk_cell HXq.out 2).trans rfl; have hq3 := (blk_cell HXq.out 3).trans rfl; clear hb_) | (go_at_call 95; (with_reducible refine (numB_f _ (q.f3) Hq5.out).mono ?_); rintro en wq ⟨rfl, hb_⟩; replace HB := Aside0.mk (below_then HB.out HB.out.size hb_); (try clear ht0 ht1 ht2 ht3 ht4 hq0 hq1 hq2 hq3); replace HXt := Aside0.mk (blk_below HXt.out hb_); replace HXq := Aside0.mk (blk_below HXq.out hb_); have ht0 := (blk_cell HXt.out 0).trans rfl; have ht1 := (blk_cell HXt.out 1).trans rfl; have ht2 := (blk_cell HXt.out 2).trans rfl; have ht3 := (blk_cell HXt.out 3).trans rfl; have ht4 := (blk_cell HXt.out 4).trans rfl; have hq0 := (blk_cell HXq.out 0).trans rfl; have hq1 := (blk_cell HXq.out 1).trans rfl; have hq2 := (blk_cell HXq.out 2).trans rfl; have hq3 := (blk_cell HXq.out 3).trans rfl; clear hb_))
      go_ret
      exact ⟨by rw [HF.out]; rfl, HB.out⟩
    have Hq5 := Aside0.mk q5
    clear q1 q2 q3 q4 q5
    go_wp2_with (first | (go_at_call 35; (with_reducible refine (nameB_t _ (q.f0) Hq1.out).mono ?_); rintro en wq ⟨rfl, hb_⟩; replace HB := Aside0.mk (below_then HB.out HB.out.size hb_); (try clear ht0 ht1 ht2 ht3 ht4 hq0 hq1 hq2 hq3); replace HXt := Aside0.mk (blk_below HXt.out hb_); replace HXq := Aside0.mk (blk_below HXq.out hb_); have ht0 := (blk_cell HXt.out 0).trans rfl; have ht1 := (blk_cell HXt.out 1).trans rfl; have ht2 := (blk_cell HXt.out 2).trans rfl; have ht3 := (blk_cell HXt.out 3).trans rfl; have ht4 := (blk_cell HXt.out 4).trans rfl; have hq0 := (blk_cell HXq.out 0).trans rfl; have hq1 := (blk_cell HXq.out 1).trans rfl; have hq2 := (blk_cell HXq.out 2).trans rfl; have hq3 := (blk_cell HXq.out 3).trans rfl; clear hb_) | (go_at_call 95; (with_reducible refine (numB_t _ (q.f2) Hq4.out).mono ?_); rintro en wq ⟨rfl, hb_⟩; replace HB := Aside0.mk (below_then HB.out HB.out.size hb_); (try clear ht0 ht1 ht2 ht3 ht4 hq0 hq1 hq2 hq3); replace HXt := Aside0.mk (blk_below HXt.out hb_); replace HXq := Aside0.mk (blk_below HXq.out hb_); have ht0 := (blk_cell HXt.out 0).trans rfl; have ht1 := (blk_cell HXt.out 1).trans rfl; have ht2 := (blk_cell HXt.out 2).trans rfl; have ht3 := (blk_cell HXt.out 3).trans rfl; have ht4 := (blk_cell HXt.out 4).trans rfl; have hq0 := (blk_cell HXq.out 0).trans rfl; have hq1 := (blk_cell HXq.out 1).trans rfl; have hq2 := (blk_cell HXq.out 2).trans rfl; have hq3 := (blk_cell HXq.out 3).trans rfl; clear hb_) | (go_at_call 95; (with_reducible refine (numB_t _ (q.f3) Hq5.out).mono ?_); rintro en wq ⟨rfl, hb_⟩; replace HB := Aside0.mk (below_then HB.out HB.out.size hb_); (try clear ht0 ht1 ht2 ht3 ht4 hq0 hq1 hq2 hq3); replace HXt := Aside0.mk (blk_below HXt.out hb_); replace HXq := Aside0.mk (blk_below HXq.out hb_); have ht0 := (blk_cell HXt.out 0).trans rfl; have ht1 := (blk_cell HXt.out 1).trans rfl; have ht2 := (blk_cell HXt.out 2).trans rfl; have ht3 := (blk_cell HXt.out 3).trans rfl; have ht4 := (blk_cell HXt.out 4).trans rfl; have hq0 := (blk_cell HXq.out 0).trans rfl; have hq1 := (blk_cell HXq.out 1).trans rfl; have hq2 := (blk_cell HXq.out 2).trans rfl; have hq3 := (blk_cell HXq.out 3).trans rfl; clear hb_))
    clear ht0 ht1 ht2 ht3 ht4 hq0 hq1 hq2 hq3 e2 e3
    obtain ⟨gko, rfl⟩ : ∃ x, x = gk := ⟨gk, rfl⟩
    go_loopg [5] i (fun kq v5 w' => ∃ j : Nat, v5 = .int .i64 (j : Int) ∧ Aside0 (kq + j = i) ∧ Aside0 (∀ m : Nat, m < j → (rd_T87 t.f1 (m : Int)).f0.toList ≠ q.f0.toList) ∧ Aside0 (Below w.heap.size w w') ∧ Aside0 (w'.heap[ga]? = some (.cells #[.string t.f0, .slice (some ad) t.f1.length k1, .int .u32 t.f2, .int .i64 t.f3, .int .i64 t.f4] 84 (0, 0))) ∧ Aside0 (w'.heap[gq]? = some (.cells #[.string q.f0, .int .u8 q.f1, .int .i64 q.f2, .int .i64 q.f3] 87 (0, 0))))
    case atStart => exact ⟨0, rfl, ⟨by omega⟩, ⟨fun j hj => absurd hj (Nat.not_lt_zero j)⟩, HB, HXt, HXq⟩
    case round =>
      clear HB HXt HXq
      obtain ⟨j, rfl, HJ, HM, HB, HXt, HXq⟩ := hrel
      have ht0 := (blk_cell HXt.out 0).trans rfl; have ht1 := (blk_cell HXt.out 1).trans rfl; have ht2 := (blk_cell HXt.out 2).trans rfl; have ht3 := (blk_cell HXt.out 3).trans rfl; have ht4 := (blk_cell HXt.out 4).trans rfl; 
      have hq0 := (blk_cell HXq.out 0).trans rfl; have hq1 := (blk_cell HXq.out 1).trans rfl; have hq2 := (blk_cell HXq.out 2).trans rfl; have hq3 := (blk_cell HXq.out 3).trans rfl; 
      by_cases c6 : j < i
      case neg =>
        have c1 : decide ((j : Int) < (i : Int)) = false := decide_eq_false (by omega)
        have c1b : decide (j < i) = false := decide_eq_false c6
        have hall := HM.out
        rw [show j = i by have := HJ.out; omega] at hall
        have HA2 : Aside0 (∀ j : Nat, j < i + 1 → colP (rd_T87 t.f1 (j : Int)) ∧ newC t.f1 j) := ⟨fun m hm => by
          by_cases e : m = i
          · subst e
            refine ⟨?_, fun z hz => ?_⟩
            · rw [← HQ.out]
              exact ⟨Hq1.out, by have := Hq2.out; omega, by have := Hq3.out; omega, Hq4.out, Hq5.out⟩
            · rw [← HQ.out]
              exact hall z hz
          · exact HAi.out m (by omega)⟩
        clear c6 hall
        go_wp2
        go_roundg (gko - 1)
        case measure => have h1 := HI.out; have h2 := HC5.out; omega
        case rel =>
          have h1 := HI.out
          have h2 := HC5.out
          have h3 := Hp3.out
          exact ⟨i + 1, by first | rfl | (rw [wr_in ((i : Int) + 1) (by omega)]; rfl), ⟨by omega⟩, HA2, HB, HXt⟩
      have c1 : decide ((j : Int) < (i : Int)) = true := decide_eq_true (by omega)
      have c1b : decide (j < i) = true := decide_eq_true c6
      have hjl : j < t.f1.length := by have := HC5.out; omega
      have e9 : (0 ≤ (j : Int)) = True := eq_true (by omega)
      have f9 : ((j : Int) < (t.f1.length : Int)) = True := eq_true (by omega)
      have f9b : (j < t.f1.length) = True := eq_true hjl
      obtain ⟨ad2, e1, hy0, _⟩ := at_T87 H1.out (j : Int) (by omega) (by omega)
      injection e1 with e1
      subst e1
      rw [Int.toNat_natCast] at hy0
      replace hy0 := (HB.out.cell (World.block_lt_of_cell? w _ hy0)).trans hy0
      have HC6 := Aside0.mk c6
      by_cases c7 : (rd_T87 t.f1 (j : Int)).f0.toList = q.f0.toList
      · have HF : Aside0 (R = false) := ⟨rf HR.out (fun h => HQN.out h j c6 (by rw [← HQ.out]; exact c7))⟩
        obtain ⟨y, hy⟩ : ∃ y, y = (rd_T87 t.f1 (j : Int)).f0 := ⟨_, rfl⟩
        rw [← hy] at c7 hy0
        have c7b : (y.toList == q.f0.toList) = true := by simpa using c7
        clear hy c7 hjl c6
        go_upto_region 12 with fail
        go_quiet (fail)
        all_goals
          go_wp2
          go_ret
          exact ⟨by rw [HF.out]; rfl, pw_below_drewN HB.out _⟩
      · have HM2 : Aside0 (∀ m : Nat, m < j + 1 → (rd_T87 t.f1 (m : Int)).f0.toList ≠ q.f0.toList) := ⟨fun m hm => by
          by_cases e : m = j
          · rw [e]; exact c7
          · exact HM.out m (by omega)⟩
        obtain ⟨y, hy⟩ : ∃ y, y = (rd_T87 t.f1 (j : Int)).f0 := ⟨_, rfl⟩
        rw [← hy] at c7 hy0
        have c7b : (y.toList == q.f0.toList) = false := by simpa using c7
        clear hy c7 hjl c6
        go_upto_region 12 with fail
        go_quiet (fail)
        all_goals
          go_wp2
          go_roundg (gk - 1)
          case measure => have h1 := HJ.out; have h2 := HC6.out; omega
          case rel =>
            have h1 := HJ.out
            have h2 := HC6.out
            have h3 := Hp3.out
            have h4 := HC5.out
            exact ⟨j + 1, by first | rfl | (rw [wr_in ((j : Int) + 1) (by omega)]; rfl), ⟨by omega⟩, HM2, ⟨pw_below_drewN HB.out _⟩, ⟨blk_drewN HXt.out _⟩, ⟨blk_drewN HXq.out _⟩⟩
end Go.Proofs.Ytpfegfkniilobaa.Rp
namespace Go.Proofs.Ytpfegfkniilobaa.Rp
open Go.RowKit Go.Proofs.YtpfegfkniilobaaW.PrintWords Go.Proofs.YtpfegfkniilobaaW.PrintLast Go.Proofs.YtpfegfkniilobaaW.PrintMore
open Go.Proofs.Ytpfegfkniilobaa.XSchema Go.Proofs.Ytpfegfkniilobaa.PureS
set_option linter.unusedVariables false
set_option linter.unusedSimpArgs false
set_option maxRecDepth 100000
theorem held_bel {w wq : World} {a0 a1 a2 a3 a4 a5 a6 a7 a8 : Addr} {v0 v1 v2 v3 v4 v5 v6 v7 v8 : Value} (hb : Below w.drew.heap.size w.drew wq) (h0 : w.cell? a0 = some v0) (h1 : w.cell? a1 = some v1) (h2 : w.cell? a2 = some v2) (h3 : w.cell? a3 = some v3) (h4 : w.cell? a4 = some v4) (h5 : w.cell? a5 = some v5) (h6 : w.cell? a6 = some v6) (h7 : w.cell? a7 = some v7) (h8 : w.cell? a8 = some v8) :
    wq.cell? a0 = some v0 ∧ wq.cell? a1 = some v1 ∧ wq.cell? a2 = some v2 ∧ wq.cell? a3 = some v3 ∧ wq.cell? a4 = some v4 ∧ wq.cell? a5 = some v5 ∧ wq.cell? a6 = some v6 ∧ wq.cell? a7 = some v7 ∧ wq.cell? a8 = some v8 := by
  have f : ∀ (a : Addr) (v : Value), w.cell? a = some v → wq.cell? a = some v := fun a v h => (hb.cell (World.block_lt_of_cell? w.drew a h)).trans h
  exact ⟨f _ _ h0, f _ _ h1, f _ _ h2, f _ _ h3, f _ _ h4, f _ _ h5, f _ _ h6, f _ _ h7, f _ _ h8⟩
set_option maxHeartbeats 16000000 in
theorem may_ok (w : World) (A : Option Addr) (c : Nat) (T : List S84) (A2 : Option Addr) (c2 : Nat) (X : List S135) (hC : Kd.C k84 w A T.length T) (hX : Kd.C k135 w A2 X.length X) (hW : bookW T X) (R : Bool) (hR : R = true ↔ MayP T X) :
    Calls Try.prog 30 #[.agg #[.slice A T.length c, .slice A2 X.length c2]] w fun e w' => e = .returned (.bool R) ∧ Below w.heap.size w w' := by
  have HC := Aside0.mk hC
  have HX := Aside0.mk hX
  have HR := Aside0.mk hR
  have HWW := Aside0.mk hW
  have HB := Aside0.mk (below_alloc (Below.refl w.heap.size w) (.cells #[.slice A T.length c, .slice A2 X.length c2] 80))
  have HXb := Aside0.mk (blk_new w (.cells #[.slice A T.length c, .slice A2 X.length c2] 80))
  clear hC hX hW hR
  go_enter Try.func30, Try.ntmps30
  go_upto_region 1 with fail
  generalize hw1 : w.alloc (.cells #[.slice A T.length c, .slice A2 X.length c2] 80) = w1 at HB HXb ⊢
  generalize w.heap.size = ga at HXb ⊢
  clear hw1
  have hb0 := (blk_cell HXb.out 0).trans rfl; have hb1 := (blk_cell HXb.out 1).trans rfl; 
  by_cases p1 : 16 < T.length
  case pos =>
    have d1 : decide ((16 : Int) < (T.length : Int)) = true := decide_eq_true (by omega)
    have d1b : decide (16 < T.length) = true := decide_eq_true p1
    have HF : Aside0 (R = false) := ⟨rf HR.out (fun h => absurd h.1.1 (by omega))⟩
    clear p1
    go_wp2
    go_ret
    exact ⟨by rw [HF.out]; rfl, HB.out⟩
  have d1 : decide ((16 : Int) < (T.length : Int)) = false := decide_eq_false (by omega)
  have d1b : decide (16 < T.length) = false := decide_eq_false p1
  by_cases p2 : 16 < X.length
  case pos =>
    have d2 : decide ((16 : Int) < (X.length : Int)) = true := decide_eq_true (by omega)
    have d2b : decide (16 < X.length) = true := decide_eq_true p2
    have HF : Aside0 (R = false) := ⟨rf HR.out (fun h => absurd h.1.2 (by omega))⟩
    clear p1 p2
    go_wp2
    go_ret
    exact ⟨by rw [HF.out]; rfl, HB.out⟩
  have d2 : decide ((16 : Int) < (X.length : Int)) = false := decide_eq_false (by omega)
  have d2b : decide (16 < X.length) = false := decide_eq_false p2
  have Hp := Aside0.mk (And.intro p1 p2)
  clear p1 p2
  go_wp2
  clear hb0 hb1 d1 d1b d2 d2b
  go_loopg [20] T.length (fun kq v20 w' => ∃ i : Nat, v20 = .int .i64 (i : Int) ∧ Aside0 (kq + i = T.length) ∧ Aside0 (∀ j : Nat, j < i → tableP (rd_T84 T (j : Int)) ∧ newT T j) ∧ Aside0 (Below w.heap.size w w') ∧ Aside0 (w'.heap[ga]? = some (.cells #[.slice A T.length c, .slice A2 X.length c2] 80 (0, 0))))
  case atStart => exact ⟨0, rfl, ⟨by omega⟩, ⟨fun j hj => absurd hj (Nat.not_lt_zero j)⟩, HB, HXb⟩
  case round =>
    clear HB HXb
    obtain ⟨i, rfl, HI, HA, HB, HXb⟩ := hrel
    have hb0 := (blk_cell HXb.out 0).trans rfl; have hb1 := (blk_cell HXb.out 1).trans rfl; 
    by_cases c5 : i < T.length
    case neg =>
      have c1 : decide ((i : Int) < (T.length : Int)) = false := decide_eq_false (by omega)
      have c1b : decide (i < T.length) = false := decide_eq_false c5
      have hall := HA.out
      rw [show i = T.length by have := HI.out; omega] at hall
      have HT := Aside0.mk hall
      clear c5 hall
      go_wp2
      clear hb0 hb1 c1 c1b HI HA
      go_loopg [52] X.length (fun kq v52 w' => ∃ i : Nat, v52 = .int .i64 (i : Int) ∧ Aside0 (kq + i = X.length) ∧ Aside0 (∀ j : Nat, j < i → indexP T (rd_T135 X (j : Int)) ∧ newX X j) ∧ Aside0 (Below w.heap.size w w') ∧ Aside0 (w'.heap[ga]? = some (.cells #[.slice A T.length c, .slice A2 X.length c2] 80 (0, 0))))
      case atStart => exact ⟨0, rfl, ⟨by omega⟩, ⟨fun j hj => absurd hj (Nat.not_lt_zero j)⟩, HB, HXb⟩
      case round =>
        clear HB HXb
        obtain ⟨i, rfl, HI, HA, HB, HXb⟩ := hrel
        have hb0 := (blk_cell HXb.out 0).trans rfl; have hb1 := (blk_cell HXb.out 1).trans rfl; 
        by_cases c5 : i < X.length
        case neg =>
          have c1 : decide ((i : Int) < (X.length : Int)) = false := decide_eq_false (by omega)
          have c1b : decide (i < X.length) = false := decide_eq_false c5
          have hall := HA.out
          rw [show i = X.length by have := HI.out; omega] at hall
          have HF : Aside0 (R = true) := ⟨rt HR.out ⟨⟨by have := Hp.out.1; omega, by have := Hp.out.2; omega⟩, HT.out, hall⟩⟩
          clear c5 hall
          go_wp2
          go_ret
          exact ⟨by rw [HF.out]; rfl, HB.out⟩
        have c1 : decide ((i : Int) < (X.length : Int)) = true := decide_eq_true (by omega)
        have c1b : decide (i < X.length) = true := decide_eq_true c5
        have e9 : (0 ≤ (i : Int)) = True := eq_true (by omega)
        have f9 : ((i : Int) < (X.length : Int)) = True := eq_true (by omega)
        have f9b : (i < X.length) = True := eq_true c5
        obtain ⟨ad, A1, k1, A6, k6, e1, hy0, hy1, hy2, hy3, hy4, hy5, hy6, _, hi1, _, hi6⟩ := at_T135 HX.out (i : Int) (by omega) (by omega)
        subst e1
        rw [Int.toNat_natCast] at hy0 hy1 hy2 hy3 hy4 hy5 hy6
        replace hy0 := (HB.out.cell (World.block_lt_of_cell? w _ hy0)).trans hy0
        replace hy1 := (HB.out.cell (World.block_lt_of_cell? w _ hy1)).trans hy1
        replace hy2 := (HB.out.cell (World.block_lt_of_cell? w _ hy2)).trans hy2
        replace hy3 := (HB.out.cell (World.block_lt_of_cell? w _ hy3)).trans hy3
        replace hy4 := (HB.out.cell (World.block_lt_of_cell? w _ hy4)).trans hy4
        replace hy5 := (HB.out.cell (World.block_lt_of_cell? w _ hy5)).trans hy5
        replace hy6 := (HB.out.cell (World.block_lt_of_cell? w _ hy6)).trans hy6
        have hqw := HWW.out.2 i c5
        have HQN : Aside0 (MayP T X → newX X i) := ⟨fun h => (h.2.2 i c5).2⟩
        have HQI : Aside0 (MayP T X → indexP T (rd_T135 X (i : Int))) := ⟨fun h => (h.2.2 i c5).1⟩
        have HAi := HA
        obtain ⟨x, hx⟩ : ∃ x, x = rd_T135 X (i : Int) := ⟨_, rfl⟩
        rw [← hx] at hy0 hy1 hy2 hy3 hy4 hy5 hy6 hi1 hi6 hqw HQI
        have HQ := Aside0.mk hx
        have HIX := Aside0.mk (And.intro hi1 (And.intro hi6 hqw))
        have HC5 := Aside0.mk c5
        clear hx hi1 hi6 hqw c5
        by_cases q1 : indexP T x
        case neg =>
          have HF : Aside0 (R = false) := ⟨rf HR.out (fun h => q1 (HQI.out h))⟩
          have Hq1 : Aside0 ((false : Bool) = true ↔ indexP T x) := ⟨by simp [q1]⟩
          clear q1
          go_upto_region 17 with fail
          go_region_held3 (fun w' => w'.cell? ⟨ga, 0, none⟩ = some (.slice A T.length c) ∧ w'.cell? ⟨ga, 1, none⟩ = some (.slice (some ad) X.length c2) ∧ w'.cell? (ad.add (i * 7)) = some (.string x.f0) ∧ w'.cell? ⟨(ad.add (i * 7)).block, (ad.add (i * 7)).off + 1, none⟩ = some (.int .i64 x.f1) ∧ w'.cell? ⟨(ad.add (i * 7)).block, (ad.add (i * 7)).off + 2, none⟩ = some (.slice A1 x.f2.length k1) ∧ w'.cell? ⟨(ad.add (i * 7)).block, (ad.add (i * 7)).off + 3, none⟩ = some (.int .u32 x.f3) ∧ w'.cell? ⟨(ad.add (i * 7)).block, (ad.add (i * 7)).off + 4, none⟩ = some (.int .i64 x.f4) ∧ w'.cell? ⟨(ad.add (i * 7)).block, (ad.add (i * 7)).off + 5, none⟩ = some (.int .i64 x.f5) ∧ w'.cell? ⟨(ad.add (i * 7)).block, (ad.add (i * 7)).off + 6, none⟩ = some (.slice A6 x.f6.length k6)) (first | exact ⟨hb0, hb1, hy0, hy1, hy2, hy3, hy4, hy5, hy6⟩ | exact HHH.out) (first
            | ((with_reducible refine (index_ok _ A c T (some ad) c2 X x A1 k1 A6 k6 (Kd.C_below HC.out (below_drew1 HB.out)) (Kd.C_below HIX.out.1 (below_drew1 HB.out)) (Kd.C_below HIX.out.2.1 (below_drew1 HB.out)) HIX.out.2.2 false Hq1.out).mono ?_); rintro en wq ⟨rfl, hb_⟩; have HHH := Aside0.mk (held_bel hb_ hb0 hb1 hy0 hy1 hy2 hy3 hy4 hy5 hy6); replace HB := Aside0.mk (by first | exact below_then HB.out HB.out.size hb_ | exact below_then (below_drew1 HB.out) (below_drew1 HB.out).size hb_); replace HXb := Aside0.mk (by first | exact blk_below HXb.out hb_ | exact blk_below (blk_drew HXb.out) hb_); clear hb_))
          go_wp2
          go_ret
          exact ⟨by rw [HF.out]; rfl, HB.out⟩
        have Hq1 : Aside0 ((true : Bool) = true ↔ indexP T x) := ⟨by simp [q1]⟩
        have Hq := Aside0.mk q1
        clear q1
        go_upto_region 17 with fail
        go_region_held3 (fun w' => w'.cell? ⟨ga, 0, none⟩ = some (.slice A T.length c) ∧ w'.cell? ⟨ga, 1, none⟩ = some (.slice (some ad) X.length c2) ∧ w'.cell? (ad.add (i * 7)) = some (.string x.f0) ∧ w'.cell? ⟨(ad.add (i * 7)).block, (ad.add (i * 7)).off + 1, none⟩ = some (.int .i64 x.f1) ∧ w'.cell? ⟨(ad.add (i * 7)).block, (ad.add (i * 7)).off + 2, none⟩ = some (.slice A1 x.f2.length k1) ∧ w'.cell? ⟨(ad.add (i * 7)).block, (ad.add (i * 7)).off + 3, none⟩ = some (.int .u32 x.f3) ∧ w'.cell? ⟨(ad.add (i * 7)).block, (ad.add (i * 7)).off + 4, none⟩ = some (.int .i64 x.f4) ∧ w'.cell? ⟨(ad.add (i * 7)).block, (ad.add (i * 7)).off + 5, none⟩ = some (.int .i64 x.f5) ∧ w'.cell? ⟨(ad.add (i * 7)).block, (ad.add (i * 7)).off + 6, none⟩ = some (.slice A6 x.f6.length k6)) (first | exact ⟨hb0, hb1, hy0, hy1, hy2, hy3, hy4, hy5, hy6⟩ | exact HHH.out) (first
          | ((with_reducible refine (index_ok _ A c T (some ad) c2 X x A1 k1 A6 k6 (Kd.C_below HC.out (below_drew1 HB.out)) (Kd.C_below HIX.out.1 (below_drew1 HB.out)) (Kd.C_below HIX.out.2.1 (below_drew1 HB.out)) HIX.out.2.2 true Hq1.out).mono ?_); rintro en wq ⟨rfl, hb_⟩; have HHH := Aside0.mk (held_bel hb_ hb0 hb1 hy0 hy1 hy2 hy3 hy4 hy5 hy6); replace HB := Aside0.mk (by first | exact below_then HB.out HB.out.size hb_ | exact below_then (below_drew1 HB.out) (below_drew1 HB.out).size hb_); replace HXb := Aside0.mk (by first | exact blk_below HXb.out hb_ | exact blk_below (blk_drew HXb.out) hb_); clear hb_))
        go_wp2
        clear hb0 hb1 hy0 hy1 hy2 hy3 hy4 hy5 hy6 c1 c1b e9 f9 f9b
        obtain ⟨gko, rfl⟩ : ∃ x, x = gk := ⟨gk, rfl⟩
        go_loopg [6] i (fun kq v6 w' => ∃ j : Nat, v6 = .int .i64 (j : Int) ∧ Aside0 (kq + j = i) ∧ Aside0 (∀ m : Nat, m < j → (rd_T135 X (m : Int)).f0.toList ≠ x.f0.toList) ∧ Aside0 (Below w.heap.size w w') ∧ Aside0 (w'.heap[ga]? = some (.cells #[.slice A T.length c, .slice (some ad) X.length c2] 80 (0, 0))))
        case atStart => exact ⟨0, rfl, ⟨by omega⟩, ⟨fun j hj => absurd hj (Nat.not_lt_zero j)⟩, HB, HXb⟩
        case round =>
          clear HB HXb
          obtain ⟨j, rfl, HJ, HM, HB, HXb⟩ := hrel
          have hb0 := (blk_cell HXb.out 0).trans rfl; have hb1 := (blk_cell HXb.out 1).trans rfl; 
          by_cases c6 : j < i
          case neg =>
            have c1 : decide ((j : Int) < (i : Int)) = false := decide_eq_false (by omega)
            have c1b : decide (j < i) = false := decide_eq_false c6
            have hall := HM.out
            rw [show j = i by have := HJ.out; omega] at hall
            have HA2 : Aside0 (∀ j : Nat, j < i + 1 → indexP T (rd_T135 X (j : Int)) ∧ newX X j) := ⟨fun m hm => by
              by_cases e : m = i
              · subst e
                refine ⟨?_, fun z hz => ?_⟩
                · rw [← HQ.out]
                  exact Hq.out
                · rw [← HQ.out]
                  exact hall z hz
              · exact HAi.out m (by omega)⟩
            clear c6 hall
            go_wp2
            go_roundg (gko - 1)
            case measure => have h1 := HI.out; have h2 := HC5.out; omega
            case rel =>
              have h1 := HI.out
              have h2 := HC5.out
              have h3 := Hp.out
              exact ⟨i + 1, by first | rfl | (rw [wr_in ((i : Int) + 1) (by omega)]; rfl), ⟨by omega⟩, HA2, HB, HXb⟩
          have c1 : decide ((j : Int) < (i : Int)) = true := decide_eq_true (by omega)
          have c1b : decide (j < i) = true := decide_eq_true c6
          have hjl : j < X.length := by have := HC5.out; omega
          have hil : i < X.length := HC5.out
          have e9 : (0 ≤ (j : Int)) = True := eq_true (by omega)
          have f9 : ((j : Int) < (X.length : Int)) = True := eq_true (by omega)
          have f9b : (j < X.length) = True := eq_true hjl
          have e8 : (0 ≤ (i : Int)) = True := eq_true (by omega)
          have f8 : ((i : Int) < (X.length : Int)) = True := eq_true (by omega)
          have f8b : (i < X.length) = True := eq_true hil
          obtain ⟨ad2, _, _, _, _, e1, hy0, _⟩ := at_T135 HX.out (j : Int) (by omega) (by omega)
          injection e1 with e1
          subst e1
          obtain ⟨ad3, _, _, _, _, e1, hz0, _⟩ := at_T135 HX.out (i : Int) (by omega) (by omega)
          injection e1 with e1
          subst e1
          rw [Int.toNat_natCast] at hy0 hz0
          rw [← HQ.out] at hz0
          replace hy0 := (HB.out.cell (World.block_lt_of_cell? w _ hy0)).trans hy0
          replace hz0 := (HB.out.cell (World.block_lt_of_cell? w _ hz0)).trans hz0
          have HC6 := Aside0.mk c6
          by_cases c7 : (rd_T135 X (j : Int)).f0.toList = x.f0.toList
          · have HF : Aside0 (R = false) := ⟨rf HR.out (fun h => HQN.out h j c6 (by rw [← HQ.out]; exact c7))⟩
            obtain ⟨y, hy⟩ : ∃ y, y = (rd_T135 X (j : Int)).f0 := ⟨_, rfl⟩
            rw [← hy] at c7 hy0
            have c7b : (y.toList == x.f0.toList) = true := by simpa using c7
            clear hy c7 hjl hil c6
            go_upto_region 22 with fail
            go_quiet (fail)
            all_goals
              go_wp2
              go_ret
              exact ⟨by rw [HF.out]; rfl, pw_below_drewN HB.out _⟩
          · have HM2 : Aside0 (∀ m : Nat, m < j + 1 → (rd_T135 X (m : Int)).f0.toList ≠ x.f0.toList) := ⟨fun m hm => by
              by_cases e : m = j
              · rw [e]; exact c7
              · exact HM.out m (by omega)⟩
            obtain ⟨y, hy⟩ : ∃ y, y = (rd_T135 X (j : Int)).f0 := ⟨_, rfl⟩
            rw [← hy] at c7 hy0
            have c7b : (y.toList == x.f0.toList) = false := by simpa using c7
            clear hy c7 hjl hil c6
            go_upto_region 22 with fail
            go_quiet (fail)
            all_goals
              go_wp2
              go_roundg (gk - 1)
              case measure => have h1 := HJ.out; have h2 := HC6.out; omega
              case rel =>
                have h1 := HJ.out
                have h2 := HC6.out
                have h3 := Hp.out
                have h4 := HC5.out
                exact ⟨j + 1, by first | rfl | (rw [wr_in ((j : Int) + 1) (by omega)]; rfl), ⟨by omega⟩, HM2, ⟨pw_below_drewN HB.out _⟩, ⟨blk_drewN HXb.out _⟩⟩
    have c1 : decide ((i : Int) < (T.length : Int)) = true := decide_eq_true (by omega)
    have c1b : decide (i < T.length) = true := decide_eq_true c5
    have e9 : (0 ≤ (i : Int)) = True := eq_true (by omega)
    have f9 : ((i : Int) < (T.length : Int)) = True := eq_true (by omega)
    have f9b : (i < T.length) = True := eq_true c5
    obtain ⟨ad, A1, k1, e1, hy0, hy1, hy2, hy3, hy4, _, hi1⟩ := at_T84 HC.out (i : Int) (by omega) (by omega)
    subst e1
    rw [Int.toNat_natCast] at hy0 hy1 hy2 hy3 hy4
    replace hy0 := (HB.out.cell (World.block_lt_of_cell? w _ hy0)).trans hy0
    replace hy1 := (HB.out.cell (World.block_lt_of_cell? w _ hy1)).trans hy1
    replace hy2 := (HB.out.cell (World.block_lt_of_cell? w _ hy2)).trans hy2
    replace hy3 := (HB.out.cell (World.block_lt_of_cell? w _ hy3)).trans hy3
    replace hy4 := (HB.out.cell (World.block_lt_of_cell? w _ hy4)).trans hy4
    have hqw := HWW.out.1 i c5
    have HQN : Aside0 (MayP T X → newT T i) := ⟨fun h => (h.2.1 i c5).2⟩
    have HQI : Aside0 (MayP T X → tableP (rd_T84 T (i : Int))) := ⟨fun h => (h.2.1 i c5).1⟩
    have HAi := HA
    obtain ⟨t, ht⟩ : ∃ t, t = rd_T84 T (i : Int) := ⟨_, rfl⟩
    rw [← ht] at hy0 hy1 hy2 hy3 hy4 hi1 hqw HQI
    have HQ := Aside0.mk ht
    have HIX := Aside0.mk (And.intro hi1 hqw)
    have HC5 := Aside0.mk c5
    clear ht hi1 hqw c5
    by_cases q1 : tableP t
    case neg =>
      have HF : Aside0 (R = false) := ⟨rf HR.out (fun h => q1 (HQI.out h))⟩
      have Hq1 : Aside0 ((false : Bool) = true ↔ tableP t) := ⟨by simp [q1]⟩
      clear q1
      go_wp2_with (go_at_call 57; (with_reducible refine (table_ok _ t A1 k1 (Kd.C_below HIX.out.1 HB.out) HIX.out.2 false Hq1.out).mono ?_); rintro en wq ⟨rfl, hb_⟩; replace HB := Aside0.mk (below_then HB.out HB.out.size hb_); replace HXb := Aside0.mk (blk_below HXb.out hb_); clear hb_)
      go_ret
      exact ⟨by rw [HF.out]; rfl, HB.out⟩
    have Hq1 : Aside0 ((true : Bool) = true ↔ tableP t) := ⟨by simp [q1]⟩
    have Hq := Aside0.mk q1
    clear q1
    go_wp2_with (go_at_call 57; (with_reducible refine (table_ok _ t A1 k1 (Kd.C_below HIX.out.1 HB.out) HIX.out.2 true Hq1.out).mono ?_); rintro en wq ⟨rfl, hb_⟩; replace HB := Aside0.mk (below_then HB.out HB.out.size hb_); replace HXb := Aside0.mk (blk_below HXb.out hb_); clear hb_)
    clear hb0 hb1 hy0 hy1 hy2 hy3 hy4 c1 c1b e9 f9 f9b
    obtain ⟨gko, rfl⟩ : ∃ x, x = gk := ⟨gk, rfl⟩
    go_loopg [4] i (fun kq v4 w' => ∃ j : Nat, v4 = .int .i64 (j : Int) ∧ Aside0 (kq + j = i) ∧ Aside0 (∀ m : Nat, m < j → (rd_T84 T (m : Int)).f0.toList ≠ t.f0.toList) ∧ Aside0 (Below w.heap.size w w') ∧ Aside0 (w'.heap[ga]? = some (.cells #[.slice (some ad) T.length c, .slice A2 X.length c2] 80 (0, 0))))
    case atStart => exact ⟨0, rfl, ⟨by omega⟩, ⟨fun j hj => absurd hj (Nat.not_lt_zero j)⟩, HB, HXb⟩
    case round =>
      clear HB HXb
      obtain ⟨j, rfl, HJ, HM, HB, HXb⟩ := hrel
      have hb0 := (blk_cell HXb.out 0).trans rfl; have hb1 := (blk_cell HXb.out 1).trans rfl; 
      by_cases c6 : j < i
      case neg =>
        have c1 : decide ((j : Int) < (i : Int)) = false := decide_eq_false (by omega)
        have c1b : decide (j < i) = false := decide_eq_false c6
        have hall := HM.out
        rw [show j = i by have := HJ.out; omega] at hall
        have HA2 : Aside0 (∀ j : Nat, j < i + 1 → tableP (rd_T84 T (j : Int)) ∧ newT T j) := ⟨fun m hm => by
          by_cases e : m = i
          · subst e
            refine ⟨?_, fun z hz => ?_⟩
            · rw [← HQ.out]
              exact Hq.out
            · rw [← HQ.out]
              exact hall z hz
          · exact HAi.out m (by omega)⟩
        clear c6 hall
        go_wp2
        go_roundg (gko - 1)
        case measure => have h1 := HI.out; have h2 := HC5.out; omega
        case rel =>
          have h1 := HI.out
          have h2 := HC5.out
          have h3 := Hp.out
          exact ⟨i + 1, by first | rfl | (rw [wr_in ((i : Int) + 1) (by omega)]; rfl), ⟨by omega⟩, HA2, HB, HXb⟩
      have c1 : decide ((j : Int) < (i : Int)) = true := decide_eq_true (by omega)
      have c1b : decide (j < i) = true := decide_eq_true c6
      have hjl : j < T.length := by have := HC5.out; omega
      have hil : i < T.length := HC5.out
      have e9 : (0 ≤ (j : Int)) = True := eq_true (by omega)
      have f9 : ((j : Int) < (T.length : Int)) = True := eq_true (by omega)
      have f9b : (j < T.length) = True := eq_true hjl
      have e8 : (0 ≤ (i : Int)) = True := eq_true (by omega)
      have f8 : ((i : Int) < (T.length : Int)) = True := eq_true (by omega)
      have f8b : (i < T.length) = True := eq_true hil
      obtain ⟨ad2, _, _, e1, hy0, _⟩ := at_T84 HC.out (j : Int) (by omega) (by omega)
      injection e1 with e1
      subst e1
      obtain ⟨ad3, _, _, e1, hz0, _⟩ := at_T84 HC.out (i : Int) (by omega) (by omega)
      injection e1 with e1
      subst e1
      rw [Int.toNat_natCast] at hy0 hz0
      rw [← HQ.out] at hz0
      replace hy0 := (HB.out.cell (World.block_lt_of_cell? w _ hy0)).trans hy0
      replace hz0 := (HB.out.cell (World.block_lt_of_cell? w _ hz0)).trans hz0
      have HC6 := Aside0.mk c6
      by_cases c7 : (rd_T84 T (j : Int)).f0.toList = t.f0.toList
      · have HF : Aside0 (R = false) := ⟨rf HR.out (fun h => HQN.out h j c6 (by rw [← HQ.out]; exact c7))⟩
        obtain ⟨y, hy⟩ : ∃ y, y = (rd_T84 T (j : Int)).f0 := ⟨_, rfl⟩
        rw [← hy] at c7 hy0
        have c7b : (y.toList == t.f0.toList) = true := by simpa using c7
        clear hy c7 hjl hil c6
        go_upto_region 11 with fail
        go_quiet (fail)
        all_goals
          go_wp2
          go_ret
          exact ⟨by rw [HF.out]; rfl, pw_below_drewN HB.out _⟩
      · have HM2 : Aside0 (∀ m : Nat, m < j + 1 → (rd_T84 T (m : Int)).f0.toList ≠ t.f0.toList) := ⟨fun m hm => by
          by_cases e : m = j
          · rw [e]; exact c7
          · exact HM.out m (by omega)⟩
        obtain ⟨y, hy⟩ : ∃ y, y = (rd_T84 T (j : Int)).f0 := ⟨_, rfl⟩
        rw [← hy] at c7 hy0
        have c7b : (y.toList == t.f0.toList) = false := by simpa using c7
        clear hy c7 hjl hil c6
        go_upto_region 11 with fail
        go_quiet (fail)
        all_goals
          go_wp2
          go_roundg (gk - 1)
          case measure => have h1 := HJ.out; have h2 := HC6.out; omega
          case rel =>
            have h1 := HJ.out
            have h2 := HC6.out
            have h3 := Hp.out
            have h4 := HC5.out
            exact ⟨j + 1, by first | rfl | (rw [wr_in ((j : Int) + 1) (by omega)]; rfl), ⟨by omega⟩, HM2, ⟨pw_below_drewN HB.out _⟩, ⟨blk_drewN HXb.out _⟩⟩
end Go.Proofs.Ytpfegfkniilobaa.Rp
namespace Go.Proofs.Ytpfegfkniilobaa.XSchema
open Go.RowKit Go.Proofs.YtpfegfkniilobaaW.PrintWords Go.Proofs.YtpfegfkniilobaaW.PrintLast Go.Proofs.YtpfegfkniilobaaW.PrintMore
open Go.Proofs.Ytpfegfkniilobaa.PureS
set_option linter.unusedVariables false
def rowlockref12_May.f (k : Nat) (T : List S84) (X : List S135) : Option Bool := if bookW T X then some (decide (MayP T X)) else none
theorem rowlockref12_May.mono : ∀ a0 a1 k, LeO (rowlockref12_May.f k a0 a1) (rowlockref12_May.f (k + 1) a0 a1) := fun _ _ _ => LeO.refl _
theorem rowlockref12_May.calls (k : Nat) (A0_0 : Option Addr) (c0_0 : Nat) (l0_0 : List (S84)) (A0_1 : Option Addr) (c0_1 : Nat) (l0_1 : List (S135)) (r : Bool) (w : World) (hr0_0 : Kd.C k84 w A0_0 l0_0.length l0_0) (hc0_0 : l0_0.length ≤ c0_0) (hr0_1 : Kd.C k135 w A0_1 l0_1.length l0_1) (hc0_1 : l0_1.length ≤ c0_1) (h : rowlockref12_May.f k l0_0 l0_1 = some r) :
    Calls Try.prog 30 #[.agg #[.slice A0_0 l0_0.length c0_0, .slice A0_1 l0_1.length c0_1]] w fun e w' => e = .returned (.bool r) ∧ Below w.heap.size w w' := by
  unfold rowlockref12_May.f at h
  split at h
  · rename_i hW
    injection h with h
    exact Rp.may_ok w A0_0 c0_0 l0_0 A0_1 c0_1 l0_1 hr0_0 hr0_1 hW r (by rw [← h]; exact decide_eq_true_iff)
  · cases h
end Go.Proofs.Ytpfegfkniilobaa.XSchema
namespace Go.Proofs.Ytpfegfkniilobaa.PureS
open Go.RowKit Go.Proofs.YtpfegfkniilobaaW.PrintWords Go.Proofs.Ytpfegfkniilobaa.XSchema
theorem rMay (T : List S84) (X : List S135) (hW : bookW T X) : EvB (fun k => rowlockref12_May.f k T X) (MayP T X) :=
  EvB.congr (f := fun _ => some (decide (MayP T X))) (fun k => by rw [rowlockref12_May.f, if_pos hW]) EvB.dec
end Go.Proofs.Ytpfegfkniilobaa.PureS
