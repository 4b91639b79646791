/- The reference's Put: the walk. Conditions: the book may be. -/
import Derived.Test.YtpfegfkniilobaaPureSchC
import Derived.Deep.RegionHeld3
namespace Go.Proofs.Ytpfegfkniilobaa.Rp
open Go.RowKit Go.Proofs.YtpfegfkniilobaaW.PrintWords Go.Proofs.YtpfegfkniilobaaW.PrintLast Go.Proofs.YtpfegfkniilobaaW.PrintMore
open Go.Proofs.Ytpfegfkniilobaa.XSchema Go.Proofs.Ytpfegfkniilobaa.PureS Go.Proofs.Ytpfegfkniilobaa.Byt
set_option linter.unusedVariables false
set_option linter.unusedSimpArgs false
set_option maxRecDepth 100000
theorem one_e (w : World) (n : Int) {s : ByteArray} (h : 0 ≤ n ∧ n < 18446744073709551616) (e : s = strOfNums (be1 n)) : Calls Try.prog 65 #[.int .i64 n] w fun e w' => e = .returned (.string s) ∧ Below w.heap.size w w' := by
  subst e
  obtain ⟨k, hk⟩ := (one1 n h).rounds
  exact rowlockref12_one.calls k n _ w hk
theorem four_e (w : World) (n : Int) {s : ByteArray} (h : 0 ≤ n ∧ n < 18446744073709551616) (e : s = strOfNums (be4 n)) : Calls Try.prog 67 #[.int .i64 n] w fun e w' => e = .returned (.string s) ∧ Below w.heap.size w w' := by
  subst e
  obtain ⟨k, hk⟩ := (four4 n h).rounds
  exact rowlockref12_four.calls k n _ w hk
theorem text_e (w : World) (y : ByteArray) {s : ByteArray} (h : y.size ≤ 1000) (e : s = strOfNums (txt y)) : Calls Try.prog 66 #[.string y] w fun e w' => e = .returned (.string s) ∧ Below w.heap.size w w' := by
  subst e
  obtain ⟨k, hk⟩ := (text1 y h).rounds
  exact rowlockref12_text.calls k y _ w hk
theorem flat_take' {α : Type} (d : α) (f : α → List Int) (L : List α) (i : Nat) (h : i < L.length) : (L.take (i + 1)).flatMap f = (L.take i).flatMap f ++ f (L.getD (i : Int).toNat d) := by
  rw [getD_at L d i h, List.take_succ_eq_append_getElem h, List.flatMap_append]
  simp
theorem flat_bound {α : Type} (f : α → List Int) (m : Nat) : ∀ L : List α, (∀ x ∈ L, (f x).length ≤ m) → (L.flatMap f).length ≤ m * L.length
  | [], _ => by simp
  | x :: L, h => by
    have h1 := h x (List.mem_cons_self ..)
    have h2 := flat_bound f m L (fun y hy => h y (List.mem_cons_of_mem _ hy))
    rw [List.flatMap_cons, List.length_append, List.length_cons, Nat.mul_succ]
    omega
theorem take_bound {α : Type} (f : α → List Int) (m n i : Nat) (L : List α) (h : ∀ x ∈ L, (f x).length ≤ m) (hn : L.length ≤ n) : ((L.take i).flatMap f).length ≤ m * n := by
  have h1 := flat_bound f m (L.take i) (fun x hx => h x (List.mem_of_mem_take hx))
  have h2 : (L.take i).length ≤ n := Nat.le_trans (List.length_take_le' ..) hn
  exact Nat.le_trans h1 (Nat.mul_le_mul_left _ h2)
theorem all_T {T : List S84} {P : S84 → Prop} (h : ∀ j : Nat, j < T.length → P (rd_T84 T (j : Int))) : ∀ c ∈ T, P c := fun c hc => by
  obtain ⟨i, hi, rfl⟩ := List.getElem_of_mem hc
  have := h i hi
  rwa [rd_T84, getD_at T z84 i hi] at this
theorem all_X {X : List S135} {P : S135 → Prop} (h : ∀ j : Nat, j < X.length → P (rd_T135 X (j : Int))) : ∀ c ∈ X, P c := fun c hc => by
  obtain ⟨i, hi, rfl⟩ := List.getElem_of_mem hc
  have := h i hi
  rwa [rd_T135, getD_at X z135 i hi] at this
theorem wrX_len (T : List S84) (x : S135) (h : indexP T x) : (wrX x).length ≤ 100 := by
  obtain ⟨h1, h2, h3, h4, h5⟩ := h
  have := h1.2.1
  simp only [wrX, List.length_append, txt_len, be1_len, be4_len, flat1_len, flat4_len]
  omega
set_option maxHeartbeats 16000000 in
theorem put_ok (w : World) (A : Option Addr) (c : Nat) (T : List S84) (A2 : Option Addr) (c2 : Nat) (X : List S135) (hC : Kd.C k84 w A T.length T) (hc : T.length ≤ c) (hX : Kd.C k135 w A2 X.length X) (hc2 : X.length ≤ c2) (hM : MayP T X) :
    Calls Try.prog 32 #[.agg #[.slice A T.length c, .slice A2 X.length c2]] w fun e w' => e = .returned (.string (strOfNums (wr T X))) ∧ Below w.heap.size w w' := by
  have HC := Aside0.mk hC
  have HX := Aside0.mk hX
  have HP := Aside0.mk hM
  have HYY := Aside0.mk hM.1
  have HB := Aside0.mk (below_alloc (Below.refl w.heap.size w) (.cells #[.slice A T.length c, .slice A2 X.length c2] 80))
  have HXb := Aside0.mk (blk_new w (.cells #[.slice A T.length c, .slice A2 X.length c2] 80))
  clear hC hc hX hc2 hM
  go_enter Try.func32, Try.ntmps32
  go_upto_region 1 with fail
  generalize hw1 : w.alloc (.cells #[.slice A T.length c, .slice A2 X.length c2] 80) = w1 at HB HXb ⊢
  generalize w.heap.size = gx at HXb ⊢
  clear hw1
  have hb0 := (blk_cell HXb.out 0).trans rfl; have hb1 := (blk_cell HXb.out 1).trans rfl; 
  have HS : Aside0 (strOfNums (be1 (T.length : Int)) = strOfNums (be1 (T.length : Int))) := ⟨rfl⟩
  go_wp2_with (first
      | (go_at_call 65; (with_reducible refine (one_e _ ((T.length : Int)) (by have := HYY.out; omega) HS.out).mono ?_); rintro en wq ⟨rfl, hb_⟩; (try clear hb0 hb1); replace HB := Aside0.mk (below_then HB.out HB.out.size hb_); replace HXb := Aside0.mk (blk_below HXb.out hb_); have hb0 := (blk_cell HXb.out 0).trans rfl; have hb1 := (blk_cell HXb.out 1).trans rfl; clear hb_))
  clear HS
  go_loopg [3, 19] T.length (fun kq v3 v19 w' => ∃ i : Nat, v3 = .string (strOfNums (be1 T.length ++ (T.take i).flatMap wrT)) ∧ v19 = .int .i64 (i : Int) ∧ Aside0 (kq + i = T.length) ∧ Aside0 (Below w.heap.size w w') ∧ Aside0 (w'.heap[gx]? = some (.cells #[.slice A T.length c, .slice A2 X.length c2] 80 (0, 0))))
  case atStart => exact ⟨0, by simp, rfl, ⟨by omega⟩, HB, HXb⟩
  case round =>
    clear HB HXb hb0 hb1
    obtain ⟨i, rfl, rfl, HI, HB, HXb⟩ := hrel
    have hb0 := (blk_cell HXb.out 0).trans rfl; have hb1 := (blk_cell HXb.out 1).trans rfl; 
    by_cases c5 : i < T.length
    · have c1 : decide ((i : Int) < (T.length : Int)) = true := decide_eq_true (by omega)
      have c1b : decide (i < T.length) = true := decide_eq_true c5
      have p9 : (0 ≤ (i : Int)) = True := eq_true (by omega)
      have q9 : ((i : Int) < (T.length : Int)) = True := eq_true (by omega)
      have q9b : (i < T.length) = True := eq_true c5
      have htk := flat_take' z84 wrT T i c5
      have hPt := (HP.out.2.1 i c5).1
      have hlen := take_bound wrT 400 16 i T (fun t ht => wrT_len t ((all_T (P := tableP) fun j hj => (HP.out.2.1 j hj).1) t ht)) HYY.out.1
      obtain ⟨ad, A1, k1, e1, hx0, hx1, hx2, hx3, hx4, hl1, hi1⟩ := at_T84 HC.out (i : Int) (by omega) (by omega)
      subst e1
      rw [Int.toNat_natCast] at hx0 hx1 hx2 hx3 hx4
      replace hx0 := (HB.out.cell (World.block_lt_of_cell? w _ hx0)).trans hx0
      replace hx1 := (HB.out.cell (World.block_lt_of_cell? w _ hx1)).trans hx1
      replace hx2 := (HB.out.cell (World.block_lt_of_cell? w _ hx2)).trans hx2
      replace hx3 := (HB.out.cell (World.block_lt_of_cell? w _ hx3)).trans hx3
      replace hx4 := (HB.out.cell (World.block_lt_of_cell? w _ hx4)).trans hx4
      change _ = _ ++ wrT (rd_T84 T (i : Int)) at htk
      obtain ⟨t, ht⟩ : ∃ t, t = rd_T84 T (i : Int) := ⟨_, rfl⟩
      rw [← ht] at hx0 hx1 hx2 hx3 hx4 hl1 hi1 htk hPt
      clear ht
      have HI1 := Aside0.mk (And.intro hl1 hi1)
      have HPt := Aside0.mk hPt
      obtain ⟨ys, hys⟩ : ∃ ys, ys = be1 T.length ++ (T.take i).flatMap wrT := ⟨_, rfl⟩
      have HTK : Aside0 (be1 T.length ++ (T.take (i + 1)).flatMap wrT = ys ++ wrT t) := ⟨by rw [htk, hys, List.append_assoc]⟩
      have HTL : Aside0 (T.length ≤ 16) := ⟨HYY.out.1⟩
      replace HYY : Aside0 (ys.length ≤ 6500 ∧ t.f0.size ≤ 24 ∧ t.f1.length ≤ 8) := ⟨by rw [hys, List.length_append, be1_len]; omega, hPt.1.2.1, hPt.2.2.1⟩
      rw [← hys]
      have HC5 := Aside0.mk c5
      have HXt := Aside0.mk (blk_new wr (.cells #[.string t.f0, .slice A1 t.f1.length k1, .int .u32 t.f2, .int .i64 t.f3, .int .i64 t.f4] 84))
      replace HXb := Aside0.mk (blk_alloc HXb.out (.cells #[.string t.f0, .slice A1 t.f1.length k1, .int .u32 t.f2, .int .i64 t.f3, .int .i64 t.f4] 84))
      replace HB := Aside0.mk (below_alloc HB.out (.cells #[.string t.f0, .slice A1 t.f1.length k1, .int .u32 t.f2, .int .i64 t.f3, .int .i64 t.f4] 84))
      clear c5 hl1 hi1 hPt htk hys hlen
      obtain ⟨S, hS⟩ : ∃ S, S = strOfNums (ys) := ⟨_, rfl⟩
      obtain ⟨s0, hs0⟩ : ∃ s, s = strOfNums (txt (t.f0)) := ⟨_, rfl⟩
      obtain ⟨s1, hs1⟩ : ∃ s, s = strOfNums (be1 ((t.f1.length : Int))) := ⟨_, rfl⟩
      have HS : Aside0 (s0 = strOfNums (txt (t.f0)) ∧ s1 = strOfNums (be1 ((t.f1.length : Int)))) := ⟨⟨hs0, hs1⟩⟩
      have hz : S.size ≤ 100000 := by rw [hS, str_size]; have := HYY.out; omega
      have hz0 : s0.size ≤ 1000 := by rw [hs0, str_size]; rw [txt_len]; have := HYY.out; omega
      have hz1 : s1.size ≤ 1000 := by rw [hs1, str_size]; exact (by simp only [be1_len]; decide)
      have n0_ : (9223372036854775807 < S.size + s0.size) = False := eq_false (by omega)
      have n1_ : (9223372036854775807 < S.size + s0.size + s1.size) = False := eq_false (by omega)
      have HCAT : Aside0 (S ++ s0 ++ s1 = strOfNums (ys ++ txt (t.f0) ++ be1 ((t.f1.length : Int)))) := ⟨by rw [hS, hs0, hs1]; simp only [str_append, ByteArray.append_assoc]⟩
      rw [← hS]
      clear hS hz hs0 hz0 hs1 hz1
      go_upto_region 6 with fail
      clear hx0 hx1 hx2 hx3 hx4 hb0 hb1
      generalize hwr : wr.alloc (.cells #[.string t.f0, .slice A1 t.f1.length k1, .int .u32 t.f2, .int .i64 t.f3, .int .i64 t.f4] 84) = ws at HXt HXb HB ⊢
      generalize wr.heap.size = gt at HXt ⊢
      clear hwr
      go_region_held3 (fun w' => w'.cell? ⟨gx, 0, none⟩ = some (.slice (some ad) T.length c) ∧ w'.cell? ⟨gx, 1, none⟩ = some (.slice A2 X.length c2) ∧ w'.cell? ⟨gt, 0, none⟩ = some (.string t.f0) ∧ w'.cell? ⟨gt, 1, none⟩ = some (.slice A1 t.f1.length k1) ∧ w'.cell? ⟨gt, 2, none⟩ = some (.int .u32 t.f2) ∧ w'.cell? ⟨gt, 3, none⟩ = some (.int .i64 t.f3) ∧ w'.cell? ⟨gt, 4, none⟩ = some (.int .i64 t.f4)) (exact ⟨(blk_cell HXb.out 0).trans rfl, (blk_cell HXb.out 1).trans rfl, (blk_cell HXt.out 0).trans rfl, (blk_cell HXt.out 1).trans rfl, (blk_cell HXt.out 2).trans rfl, (blk_cell HXt.out 3).trans rfl, (blk_cell HXt.out 4).trans rfl⟩) (first
        | ((with_reducible refine (text_e _ (t.f0) (by have := HYY.out; omega) HS.out.1).mono ?_); rintro en wq ⟨rfl, hb_⟩; replace HB := Aside0.mk (by first | exact below_then HB.out HB.out.size hb_ | exact below_then (below_drew1 HB.out) (below_drew1 HB.out).size hb_); replace HXb := Aside0.mk (by first | exact blk_below HXb.out hb_ | exact blk_below (blk_drew HXb.out) hb_); replace HXt := Aside0.mk (by first | exact blk_below HXt.out hb_ | exact blk_below (blk_drew HXt.out) hb_); clear hb_)
        | ((with_reducible refine (one_e _ ((t.f1.length : Int)) (by have := HYY.out; omega) HS.out.2).mono ?_); rintro en wq ⟨rfl, hb_⟩; replace HB := Aside0.mk (by first | exact below_then HB.out HB.out.size hb_ | exact below_then (below_drew1 HB.out) (below_drew1 HB.out).size hb_); replace HXb := Aside0.mk (by first | exact blk_below HXb.out hb_ | exact blk_below (blk_drew HXb.out) hb_); replace HXt := Aside0.mk (by first | exact blk_below HXt.out hb_ | exact blk_below (blk_drew HXt.out) hb_); clear hb_))
      have hb0 := (blk_cell HXb.out 0).trans rfl; have hb1 := (blk_cell HXb.out 1).trans rfl; have ht0 := (blk_cell HXt.out 0).trans rfl; have ht1 := (blk_cell HXt.out 1).trans rfl; have ht2 := (blk_cell HXt.out 2).trans rfl; have ht3 := (blk_cell HXt.out 3).trans rfl; have ht4 := (blk_cell HXt.out 4).trans rfl; 
      go_wp2
      obtain ⟨gko, rfl⟩ : ∃ x, x = gk := ⟨gk, rfl⟩
      go_loopg [3, 40] t.f1.length (fun kq v3 v40 w' => ∃ j : Nat, v3 = .string (strOfNums (ys ++ txt t.f0 ++ be1 t.f1.length ++ (t.f1.take j).flatMap wrC)) ∧ v40 = .int .i64 (j : Int) ∧ Aside0 (kq + j = t.f1.length) ∧ Aside0 (Below w.heap.size w w') ∧ Aside0 (w'.heap[gx]? = some (.cells #[.slice (some ad) T.length c, .slice A2 X.length c2] 80 (0, 0))) ∧ Aside0 (w'.heap[gt]? = some (.cells #[.string t.f0, .slice A1 t.f1.length k1, .int .u32 t.f2, .int .i64 t.f3, .int .i64 t.f4] 84 (0, 0))))
      case atStart => exact ⟨0, by rw [HCAT.out]; simp, rfl, ⟨by omega⟩, HB, HXb, HXt⟩
      case round =>
        clear HB HXb HXt hb0 hb1 ht0 ht1 ht2 ht3 ht4 HS HCAT n0_ n1_
        obtain ⟨j, rfl, rfl, HJ, HB, HXb, HXt⟩ := hrel
        have hb0 := (blk_cell HXb.out 0).trans rfl; have hb1 := (blk_cell HXb.out 1).trans rfl; have ht0 := (blk_cell HXt.out 0).trans rfl; have ht1 := (blk_cell HXt.out 1).trans rfl; have ht2 := (blk_cell HXt.out 2).trans rfl; have ht3 := (blk_cell HXt.out 3).trans rfl; have ht4 := (blk_cell HXt.out 4).trans rfl; 
        by_cases c6 : j < t.f1.length
        · have d1 : decide ((j : Int) < (t.f1.length : Int)) = true := decide_eq_true (by omega)
          have d1b : decide (j < t.f1.length) = true := decide_eq_true c6
          have e9 : (0 ≤ (j : Int)) = True := eq_true (by omega)
          have f9 : ((j : Int) < (t.f1.length : Int)) = True := eq_true (by omega)
          have f9b : (j < t.f1.length) = True := eq_true c6
          have hck := flat_take' z87 wrC t.f1 j c6
          have hlen := take_bound wrC 40 8 j t.f1 (fun q hq => wrC_len q (all_cols (fun j hj => (HPt.out.2.2.2.2.2.2 j hj).1) q hq)) HPt.out.2.2.1
          have hPq := (HPt.out.2.2.2.2.2.2 j c6).1
          obtain ⟨ad2, e2, hy0, hy1, hy2, hy3⟩ := at_T87 HI1.out.2 (j : Int) (by omega) (by omega)
          subst e2
          rw [Int.toNat_natCast] at hy0 hy1 hy2 hy3
          replace hy0 := (HB.out.cell (World.block_lt_of_cell? w _ hy0)).trans hy0
          replace hy1 := (HB.out.cell (World.block_lt_of_cell? w _ hy1)).trans hy1
          replace hy2 := (HB.out.cell (World.block_lt_of_cell? w _ hy2)).trans hy2
          replace hy3 := (HB.out.cell (World.block_lt_of_cell? w _ hy3)).trans hy3
          change _ = _ ++ wrC (rd_T87 t.f1 (j : Int)) at hck
          obtain ⟨q, hq⟩ : ∃ q, q = rd_T87 t.f1 (j : Int) := ⟨_, rfl⟩
          rw [← hq] at hy0 hy1 hy2 hy3 hck hPq
          clear hq
          have HA : Aside0 ((0 ≤ q.f1 ∧ q.f1 < 18446744073709551616) ∧ (0 ≤ q.f2 ∧ q.f2 < 18446744073709551616) ∧ (0 ≤ q.f3 ∧ q.f3 < 18446744073709551616)) := ⟨⟨by have h1 := hPq.2.1; have h2 := hPq.2.2.1; omega, numR hPq.2.2.2.1, numR hPq.2.2.2.2⟩⟩
          obtain ⟨zs, hzs⟩ : ∃ zs, zs = ys ++ txt t.f0 ++ be1 t.f1.length ++ (t.f1.take j).flatMap wrC := ⟨_, rfl⟩
          have HCK : Aside0 (ys ++ txt t.f0 ++ be1 t.f1.length ++ (t.f1.take (j + 1)).flatMap wrC = zs ++ wrC q) := ⟨by rw [hck, hzs]; simp only [List.append_assoc]⟩
          replace HYY : Aside0 (zs.length ≤ 7000 ∧ q.f0.size ≤ 24) := ⟨by have := HYY.out; rw [hzs]; simp only [List.length_append, txt_len, be1_len]; omega, hPq.1.2.1⟩
          rw [← hzs]
          have HC6 := Aside0.mk c6
          have k1_ := hPq.2.1
          have k2_ := hPq.2.2.1
          have kw_ : IntKind.i64.wrap q.f1 = q.f1 := by rw [w64_eq]; exact wr_in _ (by omega)
          have HXc := Aside0.mk (blk_new wr (.cells #[.string q.f0, .int .u8 q.f1, .int .i64 q.f2, .int .i64 q.f3] 87))
          replace HXb := Aside0.mk (blk_alloc HXb.out (.cells #[.string q.f0, .int .u8 q.f1, .int .i64 q.f2, .int .i64 q.f3] 87))
          replace HXt := Aside0.mk (blk_alloc HXt.out (.cells #[.string q.f0, .int .u8 q.f1, .int .i64 q.f2, .int .i64 q.f3] 87))
          replace HB := Aside0.mk (below_alloc HB.out (.cells #[.string q.f0, .int .u8 q.f1, .int .i64 q.f2, .int .i64 q.f3] 87))
          clear c6 hPq hck hlen hzs
          obtain ⟨S, hS⟩ : ∃ S, S = strOfNums (zs) := ⟨_, rfl⟩
          obtain ⟨s0, hs0⟩ : ∃ s, s = strOfNums (txt (q.f0)) := ⟨_, rfl⟩
          obtain ⟨s1, hs1⟩ : ∃ s, s = strOfNums (be1 (q.f1)) := ⟨_, rfl⟩
          obtain ⟨s2, hs2⟩ : ∃ s, s = strOfNums (be4 (q.f2)) := ⟨_, rfl⟩
          obtain ⟨s3, hs3⟩ : ∃ s, s = strOfNums (be4 (q.f3)) := ⟨_, rfl⟩
          have HS : Aside0 (s0 = strOfNums (txt (q.f0)) ∧ s1 = strOfNums (be1 (q.f1)) ∧ s2 = strOfNums (be4 (q.f2)) ∧ s3 = strOfNums (be4 (q.f3))) := ⟨⟨hs0, hs1, hs2, hs3⟩⟩
          have hz : S.size ≤ 100000 := by rw [hS, str_size]; have := HYY.out; omega
          have hz0 : s0.size ≤ 1000 := by rw [hs0, str_size]; rw [txt_len]; have := HYY.out; omega
          have hz1 : s1.size ≤ 1000 := by rw [hs1, str_size]; exact (by simp only [be1_len]; decide)
          have hz2 : s2.size ≤ 1000 := by rw [hs2, str_size]; exact (by simp only [be4_len]; decide)
          have hz3 : s3.size ≤ 1000 := by rw [hs3, str_size]; exact (by simp only [be4_len]; decide)
          have n0_ : (9223372036854775807 < S.size + s0.size) = False := eq_false (by omega)
          have n1_ : (9223372036854775807 < S.size + s0.size + s1.size) = False := eq_false (by omega)
          have n2_ : (9223372036854775807 < S.size + s0.size + s1.size + s2.size) = False := eq_false (by omega)
          have n3_ : (9223372036854775807 < S.size + s0.size + s1.size + s2.size + s3.size) = False := eq_false (by omega)
          have HCAT : Aside0 (S ++ s0 ++ s1 ++ s2 ++ s3 = strOfNums (zs ++ txt (q.f0) ++ be1 (q.f1) ++ be4 (q.f2) ++ be4 (q.f3))) := ⟨by rw [hS, hs0, hs1, hs2, hs3]; simp only [str_append, ByteArray.append_assoc]⟩
          rw [← hS]
          clear hS hz hs0 hz0 hs1 hz1 hs2 hz2 hs3 hz3
          go_upto_region 11 with fail
          clear hy0 hy1 hy2 hy3 hb0 hb1 ht0 ht1 ht2 ht3 ht4
          generalize hwr : wr.alloc (.cells #[.string q.f0, .int .u8 q.f1, .int .i64 q.f2, .int .i64 q.f3] 87) = ws at HXt HXb HXc HB ⊢
          generalize wr.heap.size = gc at HXc ⊢
          clear hwr
          go_region_held3 (fun w' => w'.cell? ⟨gx, 0, none⟩ = some (.slice (some ad) T.length c) ∧ w'.cell? ⟨gx, 1, none⟩ = some (.slice A2 X.length c2) ∧ w'.cell? ⟨gt, 0, none⟩ = some (.string t.f0) ∧ w'.cell? ⟨gt, 1, none⟩ = some (.slice (some ad2) t.f1.length k1) ∧ w'.cell? ⟨gt, 2, none⟩ = some (.int .u32 t.f2) ∧ w'.cell? ⟨gt, 3, none⟩ = some (.int .i64 t.f3) ∧ w'.cell? ⟨gt, 4, none⟩ = some (.int .i64 t.f4) ∧ w'.cell? ⟨gc, 0, none⟩ = some (.string q.f0) ∧ w'.cell? ⟨gc, 1, none⟩ = some (.int .u8 q.f1) ∧ w'.cell? ⟨gc, 2, none⟩ = some (.int .i64 q.f2) ∧ w'.cell? ⟨gc, 3, none⟩ = some (.int .i64 q.f3)) (exact ⟨(blk_cell HXb.out 0).trans rfl, (blk_cell HXb.out 1).trans rfl, (blk_cell HXt.out 0).trans rfl, (blk_cell HXt.out 1).trans rfl, (blk_cell HXt.out 2).trans rfl, (blk_cell HXt.out 3).trans rfl, (blk_cell HXt.out 4).trans rfl, (blk_cell HXc.out 0).trans rfl, (blk_cell HXc.out 1).trans rfl, (blk_cell HXc.out 2).trans rfl, (blk_cell HXc.out 3).trans rfl⟩) (first
            | ((with_reducible refine (text_e _ (q.f0) (by have := HYY.out; omega) HS.out.1).mono ?_); rintro en wq ⟨rfl, hb_⟩; replace HB := Aside0.mk (by first | exact below_then HB.out HB.out.size hb_ | exact below_then (below_drew1 HB.out) (below_drew1 HB.out).size hb_); replace HXb := Aside0.mk (by first | exact blk_below HXb.out hb_ | exact blk_below (blk_drew HXb.out) hb_); replace HXt := Aside0.mk (by first | exact blk_below HXt.out hb_ | exact blk_below (blk_drew HXt.out) hb_); replace HXc := Aside0.mk (by first | exact blk_below HXc.out hb_ | exact blk_below (blk_drew HXc.out) hb_); clear hb_)
            | ((with_reducible refine (one_e _ (q.f1) HA.out.1 HS.out.2.1).mono ?_); rintro en wq ⟨rfl, hb_⟩; replace HB := Aside0.mk (by first | exact below_then HB.out HB.out.size hb_ | exact below_then (below_drew1 HB.out) (below_drew1 HB.out).size hb_); replace HXb := Aside0.mk (by first | exact blk_below HXb.out hb_ | exact blk_below (blk_drew HXb.out) hb_); replace HXt := Aside0.mk (by first | exact blk_below HXt.out hb_ | exact blk_below (blk_drew HXt.out) hb_); replace HXc := Aside0.mk (by first | exact blk_below HXc.out hb_ | exact blk_below (blk_drew HXc.out) hb_); clear hb_)
            | ((with_reducible refine (four_e _ (q.f2) HA.out.2.1 HS.out.2.2.1).mono ?_); rintro en wq ⟨rfl, hb_⟩; replace HB := Aside0.mk (by first | exact below_then HB.out HB.out.size hb_ | exact below_then (below_drew1 HB.out) (below_drew1 HB.out).size hb_); replace HXb := Aside0.mk (by first | exact blk_below HXb.out hb_ | exact blk_below (blk_drew HXb.out) hb_); replace HXt := Aside0.mk (by first | exact blk_below HXt.out hb_ | exact blk_below (blk_drew HXt.out) hb_); replace HXc := Aside0.mk (by first | exact blk_below HXc.out hb_ | exact blk_below (blk_drew HXc.out) hb_); clear hb_)
            | ((with_reducible refine (four_e _ (q.f3) HA.out.2.2 HS.out.2.2.2).mono ?_); rintro en wq ⟨rfl, hb_⟩; replace HB := Aside0.mk (by first | exact below_then HB.out HB.out.size hb_ | exact below_then (below_drew1 HB.out) (below_drew1 HB.out).size hb_); replace HXb := Aside0.mk (by first | exact blk_below HXb.out hb_ | exact blk_below (blk_drew HXb.out) hb_); replace HXt := Aside0.mk (by first | exact blk_below HXt.out hb_ | exact blk_below (blk_drew HXt.out) hb_); replace HXc := Aside0.mk (by first | exact blk_below HXc.out hb_ | exact blk_below (blk_drew HXc.out) hb_); clear hb_))
          have hb0 := (blk_cell HXb.out 0).trans rfl; have hb1 := (blk_cell HXb.out 1).trans rfl; have ht0 := (blk_cell HXt.out 0).trans rfl; have ht1 := (blk_cell HXt.out 1).trans rfl; have ht2 := (blk_cell HXt.out 2).trans rfl; have ht3 := (blk_cell HXt.out 3).trans rfl; have ht4 := (blk_cell HXt.out 4).trans rfl; have hc0 := (blk_cell HXc.out 0).trans rfl; have hc1 := (blk_cell HXc.out 1).trans rfl; have hc2 := (blk_cell HXc.out 2).trans rfl; have hc3 := (blk_cell HXc.out 3).trans rfl; 
          go_wp2
          go_roundg (gk - 1)
          case measure => have h1 := HJ.out; have h2 := HC6.out; omega
          case rel =>
            have h1 := HJ.out
            have h2 := HC6.out
            have h3 := HPt.out.2.2.1
            refine ⟨j + 1, ?_, by first | rfl | (rw [wr_in ((j : Int) + 1) (by omega)]; rfl), ⟨by omega⟩, HB, HXb, HXt⟩
            rw [HCK.out, HCAT.out]
            simp only [wrC, List.append_assoc]
        · have d1 : decide ((j : Int) < (t.f1.length : Int)) = false := decide_eq_false (by omega)
          have d1b : decide (j < t.f1.length) = false := decide_eq_false c6
          have hta : t.f1.take j = t.f1 := List.take_of_length_le (by omega)
          have hlen := flatC_len t.f1 (all_cols (fun j hj => (HPt.out.2.2.2.2.2.2 j hj).1))
          obtain ⟨zs, hzs⟩ : ∃ zs, zs = ys ++ txt t.f0 ++ be1 t.f1.length ++ t.f1.flatMap wrC := ⟨_, rfl⟩
          have HCK : Aside0 (zs = ys ++ txt t.f0 ++ be1 t.f1.length ++ t.f1.flatMap wrC) := ⟨hzs⟩
          replace HYY : Aside0 (zs.length ≤ 7000) := ⟨by have := HYY.out; rw [hzs]; simp only [List.length_append, txt_len, be1_len]; omega⟩
          rw [hta, ← hzs]
          have HA : Aside0 ((0 ≤ t.f2 ∧ t.f2 < 18446744073709551616) ∧ (0 ≤ t.f3 ∧ t.f3 < 18446744073709551616) ∧ (0 ≤ t.f4 ∧ t.f4 < 18446744073709551616)) := ⟨⟨numR HPt.out.2.2.2.1, numR HPt.out.2.2.2.2.1, numR HPt.out.2.2.2.2.2.1⟩⟩
          have k3_ := HPt.out.2.2.2.1.1
          have k4_ := HPt.out.2.2.2.1.2
          have kw_ : IntKind.i64.wrap t.f2 = t.f2 := by rw [w64_eq]; exact wr_in _ (by omega)
          clear c6 hta hzs hlen
          obtain ⟨S, hS⟩ : ∃ S, S = strOfNums (zs) := ⟨_, rfl⟩
          obtain ⟨s0, hs0⟩ : ∃ s, s = strOfNums (be4 (t.f2)) := ⟨_, rfl⟩
          obtain ⟨s1, hs1⟩ : ∃ s, s = strOfNums (be4 (t.f3)) := ⟨_, rfl⟩
          obtain ⟨s2, hs2⟩ : ∃ s, s = strOfNums (be4 (t.f4)) := ⟨_, rfl⟩
          have HS : Aside0 (s0 = strOfNums (be4 (t.f2)) ∧ s1 = strOfNums (be4 (t.f3)) ∧ s2 = strOfNums (be4 (t.f4))) := ⟨⟨hs0, hs1, hs2⟩⟩
          have hz : S.size ≤ 100000 := by rw [hS, str_size]; have := HYY.out; omega
          have hz0 : s0.size ≤ 1000 := by rw [hs0, str_size]; exact (by simp only [be4_len]; decide)
          have hz1 : s1.size ≤ 1000 := by rw [hs1, str_size]; exact (by simp only [be4_len]; decide)
          have hz2 : s2.size ≤ 1000 := by rw [hs2, str_size]; exact (by simp only [be4_len]; decide)
          have n0_ : (9223372036854775807 < S.size + s0.size) = False := eq_false (by omega)
          have n1_ : (9223372036854775807 < S.size + s0.size + s1.size) = False := eq_false (by omega)
          have n2_ : (9223372036854775807 < S.size + s0.size + s1.size + s2.size) = False := eq_false (by omega)
          have HCAT : Aside0 (S ++ s0 ++ s1 ++ s2 = strOfNums (zs ++ be4 (t.f2) ++ be4 (t.f3) ++ be4 (t.f4))) := ⟨by rw [hS, hs0, hs1, hs2]; simp only [str_append, ByteArray.append_assoc]⟩
          rw [← hS]
          clear hS hz hs0 hz0 hs1 hz1 hs2 hz2
          go_upto_region 13 with fail
          clear hb0 hb1 ht0 ht1 ht2 ht3 ht4
          go_region_held3 (fun w' => w'.cell? ⟨gx, 0, none⟩ = some (.slice (some ad) T.length c) ∧ w'.cell? ⟨gx, 1, none⟩ = some (.slice A2 X.length c2) ∧ w'.cell? ⟨gt, 0, none⟩ = some (.string t.f0) ∧ w'.cell? ⟨gt, 1, none⟩ = some (.slice A1 t.f1.length k1) ∧ w'.cell? ⟨gt, 2, none⟩ = some (.int .u32 t.f2) ∧ w'.cell? ⟨gt, 3, none⟩ = some (.int .i64 t.f3) ∧ w'.cell? ⟨gt, 4, none⟩ = some (.int .i64 t.f4)) (exact ⟨(blk_cell HXb.out 0).trans rfl, (blk_cell HXb.out 1).trans rfl, (blk_cell HXt.out 0).trans rfl, (blk_cell HXt.out 1).trans rfl, (blk_cell HXt.out 2).trans rfl, (blk_cell HXt.out 3).trans rfl, (blk_cell HXt.out 4).trans rfl⟩) (first
            | ((with_reducible refine (four_e _ (t.f2) HA.out.1 HS.out.1).mono ?_); rintro en wq ⟨rfl, hb_⟩; replace HB := Aside0.mk (by first | exact below_then HB.out HB.out.size hb_ | exact below_then (below_drew1 HB.out) (below_drew1 HB.out).size hb_); replace HXb := Aside0.mk (by first | exact blk_below HXb.out hb_ | exact blk_below (blk_drew HXb.out) hb_); replace HXt := Aside0.mk (by first | exact blk_below HXt.out hb_ | exact blk_below (blk_drew HXt.out) hb_); clear hb_)
            | ((with_reducible refine (four_e _ (t.f3) HA.out.2.1 HS.out.2.1).mono ?_); rintro en wq ⟨rfl, hb_⟩; replace HB := Aside0.mk (by first | exact below_then HB.out HB.out.size hb_ | exact below_then (below_drew1 HB.out) (below_drew1 HB.out).size hb_); replace HXb := Aside0.mk (by first | exact blk_below HXb.out hb_ | exact blk_below (blk_drew HXb.out) hb_); replace HXt := Aside0.mk (by first | exact blk_below HXt.out hb_ | exact blk_below (blk_drew HXt.out) hb_); clear hb_)
            | ((with_reducible refine (four_e _ (t.f4) HA.out.2.2 HS.out.2.2).mono ?_); rintro en wq ⟨rfl, hb_⟩; replace HB := Aside0.mk (by first | exact below_then HB.out HB.out.size hb_ | exact below_then (below_drew1 HB.out) (below_drew1 HB.out).size hb_); replace HXb := Aside0.mk (by first | exact blk_below HXb.out hb_ | exact blk_below (blk_drew HXb.out) hb_); replace HXt := Aside0.mk (by first | exact blk_below HXt.out hb_ | exact blk_below (blk_drew HXt.out) hb_); clear hb_))
          have hb0 := (blk_cell HXb.out 0).trans rfl; have hb1 := (blk_cell HXb.out 1).trans rfl; have ht0 := (blk_cell HXt.out 0).trans rfl; have ht1 := (blk_cell HXt.out 1).trans rfl; have ht2 := (blk_cell HXt.out 2).trans rfl; have ht3 := (blk_cell HXt.out 3).trans rfl; have ht4 := (blk_cell HXt.out 4).trans rfl; 
          go_wp2
          go_roundg (gko - 1)
          case measure => have h1 := HI.out; have h2 := HC5.out; omega
          case rel =>
            have h1 := HI.out
            have h2 := HC5.out
            have h3 := HTL.out
            refine ⟨i + 1, ?_, by first | rfl | (rw [wr_in ((i : Int) + 1) (by omega)]; rfl), ⟨by omega⟩, HB, HXb⟩
            rw [HTK.out, HCAT.out, HCK.out]
            simp only [wrT, List.append_assoc]
    · have c1 : decide ((i : Int) < (T.length : Int)) = false := decide_eq_false (by omega)
      have c1b : decide (i < T.length) = false := decide_eq_false c5
      have hta : T.take i = T := List.take_of_length_le (by omega)
      have hlen := flat_bound wrT 400 T (fun t ht => wrT_len t ((all_T (P := tableP) fun j hj => (HP.out.2.1 j hj).1) t ht))
      obtain ⟨xs, hxs⟩ : ∃ xs, xs = be1 T.length ++ T.flatMap wrT := ⟨_, rfl⟩
      have HXS : Aside0 (xs = be1 T.length ++ T.flatMap wrT) := ⟨hxs⟩
      replace HYY : Aside0 (xs.length ≤ 6500 ∧ X.length ≤ 16) := ⟨by have := HYY.out; rw [hxs, List.length_append, be1_len]; omega, HYY.out.2⟩
      rw [hta, ← hxs]
      have HTL := HYY
      clear c5 hta hxs hlen
      obtain ⟨S, hS⟩ : ∃ S, S = strOfNums (xs) := ⟨_, rfl⟩
      obtain ⟨s0, hs0⟩ : ∃ s, s = strOfNums (be1 ((X.length : Int))) := ⟨_, rfl⟩
      have HS : Aside0 (s0 = strOfNums (be1 ((X.length : Int)))) := ⟨hs0⟩
      have hz : S.size ≤ 100000 := by rw [hS, str_size]; have := HYY.out; omega
      have hz0 : s0.size ≤ 1000 := by rw [hs0, str_size]; exact (by simp only [be1_len]; decide)
      have n0_ : (9223372036854775807 < S.size + s0.size) = False := eq_false (by omega)
      have HCAT : Aside0 (S ++ s0 = strOfNums (xs ++ be1 ((X.length : Int)))) := ⟨by rw [hS, hs0]; simp only [str_append, ByteArray.append_assoc]⟩
      rw [← hS]
      clear hS hz hs0 hz0
      go_wp2_with (first
        | (go_at_call 65; (with_reducible refine (one_e _ ((X.length : Int)) (by have := HYY.out; omega) HS.out).mono ?_); rintro en wq ⟨rfl, hb_⟩; (try clear hb0 hb1); replace HB := Aside0.mk (below_then HB.out HB.out.size hb_); replace HXb := Aside0.mk (blk_below HXb.out hb_); have hb0 := (blk_cell HXb.out 0).trans rfl; have hb1 := (blk_cell HXb.out 1).trans rfl; clear hb_))
      go_loopg [3, 91] X.length (fun kq v3 v91 w' => ∃ i : Nat, v3 = .string (strOfNums (xs ++ be1 X.length ++ (X.take i).flatMap wrX)) ∧ v91 = .int .i64 (i : Int) ∧ Aside0 (kq + i = X.length) ∧ Aside0 (Below w.heap.size w w') ∧ Aside0 (w'.heap[gx]? = some (.cells #[.slice A T.length c, .slice A2 X.length c2] 80 (0, 0))))
      case atStart => exact ⟨0, by rw [HCAT.out]; simp, rfl, ⟨by omega⟩, HB, HXb⟩
      case round =>
        clear HB HXb hb0 hb1 HS HCAT n0_
        obtain ⟨i, rfl, rfl, HI, HB, HXb⟩ := hrel
        have hb0 := (blk_cell HXb.out 0).trans rfl; have hb1 := (blk_cell HXb.out 1).trans rfl; 
        by_cases c5 : i < X.length
        · have c1 : decide ((i : Int) < (X.length : Int)) = true := decide_eq_true (by omega)
          have c1b : decide (i < X.length) = true := decide_eq_true c5
          have p9 : (0 ≤ (i : Int)) = True := eq_true (by omega)
          have q9 : ((i : Int) < (X.length : Int)) = True := eq_true (by omega)
          have q9b : (i < X.length) = True := eq_true c5
          have htk := flat_take' z135 wrX X i c5
          have hall : ∀ x ∈ X, indexP T x := all_X (P := indexP T) fun j hj => (HP.out.2.2 j hj).1
          have hlen := take_bound wrX 100 16 i X (fun x hx => wrX_len T x (hall x hx)) HYY.out.2
          have hPt := (HP.out.2.2 i c5).1
          obtain ⟨ad, A1, k1, A6, k6, e1, hx0, hx1, hx2, hx3, hx4, hx5, hx6, hl1, hi1, hl6, hi6⟩ := at_T135 HX.out (i : Int) (by omega) (by omega)
          subst e1
          rw [Int.toNat_natCast] at hx0 hx1 hx2 hx3 hx4 hx5 hx6
          replace hx0 := (HB.out.cell (World.block_lt_of_cell? w _ hx0)).trans hx0
          replace hx1 := (HB.out.cell (World.block_lt_of_cell? w _ hx1)).trans hx1
          replace hx2 := (HB.out.cell (World.block_lt_of_cell? w _ hx2)).trans hx2
          replace hx3 := (HB.out.cell (World.block_lt_of_cell? w _ hx3)).trans hx3
          replace hx4 := (HB.out.cell (World.block_lt_of_cell? w _ hx4)).trans hx4
          replace hx5 := (HB.out.cell (World.block_lt_of_cell? w _ hx5)).trans hx5
          replace hx6 := (HB.out.cell (World.block_lt_of_cell? w _ hx6)).trans hx6
          change _ = _ ++ wrX (rd_T135 X (i : Int)) at htk
          have hcol : (rd_T84 T (rd_T135 X (i : Int)).f1).f1.length ≤ 8 := by
            have h1 := hPt.2.1
            have := (HP.out.2.1 (rd_T135 X (i : Int)).f1.toNat (by omega)).1.2.2.1
            rwa [show (((rd_T135 X (i : Int)).f1.toNat : Nat) : Int) = (rd_T135 X (i : Int)).f1 by omega] at this
          obtain ⟨t, ht⟩ : ∃ t, t = rd_T135 X (i : Int) := ⟨_, rfl⟩
          rw [← ht] at hx0 hx1 hx2 hx3 hx4 hx5 hx6 hl1 hi1 hl6 hi6 htk hPt hcol
          clear ht hall
          have HI1 := Aside0.mk (And.intro hl1 hi1)
          have HI6 := Aside0.mk (And.intro hl6 hi6)
          have HPt := Aside0.mk (And.intro hPt (And.intro hcol HP.out.1.1))
          have HA : Aside0 ((0 ≤ t.f1 ∧ t.f1 < 18446744073709551616) ∧ (0 ≤ t.f3 ∧ t.f3 < 18446744073709551616) ∧ (0 ≤ t.f4 ∧ t.f4 < 18446744073709551616) ∧ (0 ≤ t.f5 ∧ t.f5 < 18446744073709551616)) := ⟨⟨by have h1 := hPt.2.1; have h2 := HP.out.1.1; omega, numR hPt.2.2.2.2.2.2.2.1, numR hPt.2.2.2.2.2.2.2.2.1, numR hPt.2.2.2.2.2.2.2.2.2⟩⟩
          obtain ⟨ys, hys⟩ : ∃ ys, ys = xs ++ be1 X.length ++ (X.take i).flatMap wrX := ⟨_, rfl⟩
          have HTK : Aside0 (xs ++ be1 X.length ++ (X.take (i + 1)).flatMap wrX = ys ++ wrX t) := ⟨by rw [htk, hys]; simp only [List.append_assoc]⟩
          replace HYY : Aside0 (ys.length ≤ 8200 ∧ t.f0.size ≤ 24 ∧ t.f2.length ≤ 2 ∧ t.f6.length ≤ 2) := ⟨by have := HYY.out; rw [hys]; simp only [List.length_append, be1_len]; omega, hPt.1.2.1, hPt.2.2.1.2, by have h1 := hPt.2.2.2.1; have h2 := hPt.2.2.1.2; omega⟩
          rw [← hys]
          have HC5 := Aside0.mk c5
          have HXx := Aside0.mk (blk_new wr (.cells #[.string t.f0, .int .i64 t.f1, .slice A1 t.f2.length k1, .int .u32 t.f3, .int .i64 t.f4, .int .i64 t.f5, .slice A6 t.f6.length k6] 135))
          replace HXb := Aside0.mk (blk_alloc HXb.out (.cells #[.string t.f0, .int .i64 t.f1, .slice A1 t.f2.length k1, .int .u32 t.f3, .int .i64 t.f4, .int .i64 t.f5, .slice A6 t.f6.length k6] 135))
          replace HB := Aside0.mk (below_alloc HB.out (.cells #[.string t.f0, .int .i64 t.f1, .slice A1 t.f2.length k1, .int .u32 t.f3, .int .i64 t.f4, .int .i64 t.f5, .slice A6 t.f6.length k6] 135))
          clear c5 hl1 hi1 hl6 hi6 hPt htk hlen hys hcol
          obtain ⟨S, hS⟩ : ∃ S, S = strOfNums (ys) := ⟨_, rfl⟩
          obtain ⟨s0, hs0⟩ : ∃ s, s = strOfNums (txt (t.f0)) := ⟨_, rfl⟩
          obtain ⟨s1, hs1⟩ : ∃ s, s = strOfNums (be1 (t.f1)) := ⟨_, rfl⟩
          obtain ⟨s2, hs2⟩ : ∃ s, s = strOfNums (be1 ((t.f2.length : Int))) := ⟨_, rfl⟩
          have HS : Aside0 (s0 = strOfNums (txt (t.f0)) ∧ s1 = strOfNums (be1 (t.f1)) ∧ s2 = strOfNums (be1 ((t.f2.length : Int)))) := ⟨⟨hs0, hs1, hs2⟩⟩
          have hz : S.size ≤ 100000 := by rw [hS, str_size]; have := HYY.out; omega
          have hz0 : s0.size ≤ 1000 := by rw [hs0, str_size]; rw [txt_len]; have := HYY.out; omega
          have hz1 : s1.size ≤ 1000 := by rw [hs1, str_size]; exact (by simp only [be1_len]; decide)
          have hz2 : s2.size ≤ 1000 := by rw [hs2, str_size]; exact (by simp only [be1_len]; decide)
          have n0_ : (9223372036854775807 < S.size + s0.size) = False := eq_false (by omega)
          have n1_ : (9223372036854775807 < S.size + s0.size + s1.size) = False := eq_false (by omega)
          have n2_ : (9223372036854775807 < S.size + s0.size + s1.size + s2.size) = False := eq_false (by omega)
          have HCAT : Aside0 (S ++ s0 ++ s1 ++ s2 = strOfNums (ys ++ txt (t.f0) ++ be1 (t.f1) ++ be1 ((t.f2.length : Int)))) := ⟨by rw [hS, hs0, hs1, hs2]; simp only [str_append, ByteArray.append_assoc]⟩
          rw [← hS]
          clear hS hz hs0 hz0 hs1 hz1 hs2 hz2
          go_upto_region 20 with fail
          clear hx0 hx1 hx2 hx3 hx4 hx5 hx6 hb0 hb1
          generalize hwr : wr.alloc (.cells #[.string t.f0, .int .i64 t.f1, .slice A1 t.f2.length k1, .int .u32 t.f3, .int .i64 t.f4, .int .i64 t.f5, .slice A6 t.f6.length k6] 135) = ws at HXx HXb HB ⊢
          generalize wr.heap.size = gt at HXx ⊢
          clear hwr
          go_region_held3 (fun w' => w'.cell? ⟨gx, 0, none⟩ = some (.slice A T.length c) ∧ w'.cell? ⟨gx, 1, none⟩ = some (.slice (some ad) X.length c2) ∧ w'.cell? ⟨gt, 0, none⟩ = some (.string t.f0) ∧ w'.cell? ⟨gt, 1, none⟩ = some (.int .i64 t.f1) ∧ w'.cell? ⟨gt, 2, none⟩ = some (.slice A1 t.f2.length k1) ∧ w'.cell? ⟨gt, 3, none⟩ = some (.int .u32 t.f3) ∧ w'.cell? ⟨gt, 4, none⟩ = some (.int .i64 t.f4) ∧ w'.cell? ⟨gt, 5, none⟩ = some (.int .i64 t.f5) ∧ w'.cell? ⟨gt, 6, none⟩ = some (.slice A6 t.f6.length k6)) (exact ⟨(blk_cell HXb.out 0).trans rfl, (blk_cell HXb.out 1).trans rfl, (blk_cell HXx.out 0).trans rfl, (blk_cell HXx.out 1).trans rfl, (blk_cell HXx.out 2).trans rfl, (blk_cell HXx.out 3).trans rfl, (blk_cell HXx.out 4).trans rfl, (blk_cell HXx.out 5).trans rfl, (blk_cell HXx.out 6).trans rfl⟩) (first
            | ((with_reducible refine (text_e _ (t.f0) (by have := HYY.out; omega) HS.out.1).mono ?_); rintro en wq ⟨rfl, hb_⟩; replace HB := Aside0.mk (by first | exact below_then HB.out HB.out.size hb_ | exact below_then (below_drew1 HB.out) (below_drew1 HB.out).size hb_); replace HXb := Aside0.mk (by first | exact blk_below HXb.out hb_ | exact blk_below (blk_drew HXb.out) hb_); replace HXx := Aside0.mk (by first | exact blk_below HXx.out hb_ | exact blk_below (blk_drew HXx.out) hb_); clear hb_)
            | ((with_reducible refine (one_e _ (t.f1) HA.out.1 HS.out.2.1).mono ?_); rintro en wq ⟨rfl, hb_⟩; replace HB := Aside0.mk (by first | exact below_then HB.out HB.out.size hb_ | exact below_then (below_drew1 HB.out) (below_drew1 HB.out).size hb_); replace HXb := Aside0.mk (by first | exact blk_below HXb.out hb_ | exact blk_below (blk_drew HXb.out) hb_); replace HXx := Aside0.mk (by first | exact blk_below HXx.out hb_ | exact blk_below (blk_drew HXx.out) hb_); clear hb_)
            | ((with_reducible refine (one_e _ ((t.f2.length : Int)) (by have := HYY.out; omega) HS.out.2.2).mono ?_); rintro en wq ⟨rfl, hb_⟩; replace HB := Aside0.mk (by first | exact below_then HB.out HB.out.size hb_ | exact below_then (below_drew1 HB.out) (below_drew1 HB.out).size hb_); replace HXb := Aside0.mk (by first | exact blk_below HXb.out hb_ | exact blk_below (blk_drew HXb.out) hb_); replace HXx := Aside0.mk (by first | exact blk_below HXx.out hb_ | exact blk_below (blk_drew HXx.out) hb_); clear hb_))
          have hb0 := (blk_cell HXb.out 0).trans rfl; have hb1 := (blk_cell HXb.out 1).trans rfl; have hx0 := (blk_cell HXx.out 0).trans rfl; have hx1 := (blk_cell HXx.out 1).trans rfl; have hx2 := (blk_cell HXx.out 2).trans rfl; have hx3 := (blk_cell HXx.out 3).trans rfl; have hx4 := (blk_cell HXx.out 4).trans rfl; have hx5 := (blk_cell HXx.out 5).trans rfl; have hx6 := (blk_cell HXx.out 6).trans rfl; 
          go_wp2
          obtain ⟨gko, rfl⟩ : ∃ x, x = gk := ⟨gk, rfl⟩
          go_loopg [3, 116] t.f2.length (fun kq v3 v116 w' => ∃ j : Nat, v3 = .string (strOfNums (ys ++ txt t.f0 ++ be1 t.f1 ++ be1 t.f2.length ++ (t.f2.take j).flatMap be1)) ∧ v116 = .int .i64 (j : Int) ∧ Aside0 (kq + j = t.f2.length) ∧ Aside0 (Below w.heap.size w w') ∧ Aside0 (w'.heap[gx]? = some (.cells #[.slice A T.length c, .slice (some ad) X.length c2] 80 (0, 0))) ∧ Aside0 (w'.heap[gt]? = some (.cells #[.string t.f0, .int .i64 t.f1, .slice A1 t.f2.length k1, .int .u32 t.f3, .int .i64 t.f4, .int .i64 t.f5, .slice A6 t.f6.length k6] 135 (0, 0))))
          case atStart => exact ⟨0, by rw [HCAT.out]; simp, rfl, ⟨by omega⟩, HB, HXb, HXx⟩
          case round =>
            clear HB HXb HXx hb0 hb1 hx0 hx1 hx2 hx3 hx4 hx5 hx6 HS HCAT n0_ n1_ n2_
            obtain ⟨j, rfl, rfl, HJ, HB, HXb, HXx⟩ := hrel
            have hb0 := (blk_cell HXb.out 0).trans rfl; have hb1 := (blk_cell HXb.out 1).trans rfl; have hx0 := (blk_cell HXx.out 0).trans rfl; have hx1 := (blk_cell HXx.out 1).trans rfl; have hx2 := (blk_cell HXx.out 2).trans rfl; have hx3 := (blk_cell HXx.out 3).trans rfl; have hx4 := (blk_cell HXx.out 4).trans rfl; have hx5 := (blk_cell HXx.out 5).trans rfl; have hx6 := (blk_cell HXx.out 6).trans rfl; 
            by_cases c6 : j < t.f2.length
            · have d1 : decide ((j : Int) < (t.f2.length : Int)) = true := decide_eq_true (by omega)
              have d1b : decide (j < t.f2.length) = true := decide_eq_true c6
              have e9 : (0 ≤ (j : Int)) = True := eq_true (by omega)
              have f9 : ((j : Int) < (t.f2.length : Int)) = True := eq_true (by omega)
              have f9b : (j < t.f2.length) = True := eq_true c6
              have hck := flat_take' (0 : Int) be1 t.f2 j c6
              change _ = _ ++ be1 (rd t.f2 (j : Int)) at hck
              have hpq := HPt.out.1.2.2.2.2.1 j c6
              obtain ⟨ad2, e2, hy0⟩ := Kd.at_int HI1.out.2 (j : Int) (by omega) (by omega)
              subst e2
              rw [Int.toNat_natCast] at hy0
              replace hy0 := (HB.out.cell (World.block_lt_of_cell? w _ hy0)).trans hy0
              obtain ⟨n, hn⟩ : ∃ n, n = rd t.f2 (j : Int) := ⟨_, rfl⟩
              rw [← hn] at hy0 hck hpq
              clear hn
              have HPq : Aside0 (0 ≤ n ∧ n < 18446744073709551616) := ⟨by have := HPt.out.2.1; omega⟩
              obtain ⟨zs, hzs⟩ : ∃ zs, zs = ys ++ txt t.f0 ++ be1 t.f1 ++ be1 t.f2.length ++ (t.f2.take j).flatMap be1 := ⟨_, rfl⟩
              have HCK : Aside0 (ys ++ txt t.f0 ++ be1 t.f1 ++ be1 t.f2.length ++ (t.f2.take (j + 1)).flatMap be1 = zs ++ be1 n) := ⟨by rw [hck, hzs]; simp only [List.append_assoc]⟩
              have hjl : (t.f2.take j).length ≤ 2 := by have := HYY.out; rw [List.length_take]; omega
              replace HYY : Aside0 (zs.length ≤ 9000) := ⟨by have := HYY.out; rw [hzs]; simp only [List.length_append, txt_len, be1_len, flat1_len]; omega⟩
              rw [← hzs]
              have HC6 := Aside0.mk c6
              clear c6 hck hzs hjl hpq
              obtain ⟨S, hS⟩ : ∃ S, S = strOfNums (zs) := ⟨_, rfl⟩
              obtain ⟨s0, hs0⟩ : ∃ s, s = strOfNums (be1 (n)) := ⟨_, rfl⟩
              have HS : Aside0 (s0 = strOfNums (be1 (n))) := ⟨hs0⟩
              have hz : S.size ≤ 100000 := by rw [hS, str_size]; have := HYY.out; omega
              have hz0 : s0.size ≤ 1000 := by rw [hs0, str_size]; exact (by simp only [be1_len]; decide)
              have n0_ : (9223372036854775807 < S.size + s0.size) = False := eq_false (by omega)
              have HCAT : Aside0 (S ++ s0 = strOfNums (zs ++ be1 (n))) := ⟨by rw [hS, hs0]; simp only [str_append, ByteArray.append_assoc]⟩
              rw [← hS]
              clear hS hz hs0 hz0
              go_wp2_with (first
                | (go_at_call 65; (with_reducible refine (one_e _ (n) HPq.out HS.out).mono ?_); rintro en wq ⟨rfl, hb_⟩; (try clear hb0 hb1 hx0 hx1 hx2 hx3 hx4 hx5 hx6); replace HB := Aside0.mk (below_then HB.out HB.out.size hb_); replace HXb := Aside0.mk (blk_below HXb.out hb_); replace HXx := Aside0.mk (blk_below HXx.out hb_); have hb0 := (blk_cell HXb.out 0).trans rfl; have hb1 := (blk_cell HXb.out 1).trans rfl; have hx0 := (blk_cell HXx.out 0).trans rfl; have hx1 := (blk_cell HXx.out 1).trans rfl; have hx2 := (blk_cell HXx.out 2).trans rfl; have hx3 := (blk_cell HXx.out 3).trans rfl; have hx4 := (blk_cell HXx.out 4).trans rfl; have hx5 := (blk_cell HXx.out 5).trans rfl; have hx6 := (blk_cell HXx.out 6).trans rfl; clear hb_))
              go_roundg (gk - 1)
              case measure => have h1 := HJ.out; have h2 := HC6.out; omega
              case rel =>
                have h1 := HJ.out
                have h2 := HC6.out
                have h3 := HPt.out.1.2.2.1
                refine ⟨j + 1, ?_, by first | rfl | (rw [wr_in ((j : Int) + 1) (by omega)]; rfl), ⟨by omega⟩, HB, HXb, HXx⟩
                rw [HCK.out, HCAT.out]
            · have d1 : decide ((j : Int) < (t.f2.length : Int)) = false := decide_eq_false (by omega)
              have d1b : decide (j < t.f2.length) = false := decide_eq_false c6
              have hta : t.f2.take j = t.f2 := List.take_of_length_le (by omega)
              obtain ⟨zs, hzs⟩ : ∃ zs, zs = ys ++ txt t.f0 ++ be1 t.f1 ++ be1 t.f2.length ++ t.f2.flatMap be1 := ⟨_, rfl⟩
              have HCK : Aside0 (zs = ys ++ txt t.f0 ++ be1 t.f1 ++ be1 t.f2.length ++ t.f2.flatMap be1) := ⟨hzs⟩
              replace HYY : Aside0 (zs.length ≤ 9000 ∧ t.f6.length ≤ 2) := ⟨by have := HYY.out; rw [hzs]; simp only [List.length_append, txt_len, be1_len, flat1_len]; omega, by have := HYY.out; omega⟩
              rw [hta, ← hzs]
              have k3_ := HPt.out.1.2.2.2.2.2.2.2.1.1
              have k4_ := HPt.out.1.2.2.2.2.2.2.2.1.2
              have kw_ : IntKind.i64.wrap t.f3 = t.f3 := by rw [w64_eq]; exact wr_in _ (by omega)
              clear c6 hta hzs
              obtain ⟨S, hS⟩ : ∃ S, S = strOfNums (zs) := ⟨_, rfl⟩
              obtain ⟨s0, hs0⟩ : ∃ s, s = strOfNums (be4 (t.f3)) := ⟨_, rfl⟩
              obtain ⟨s1, hs1⟩ : ∃ s, s = strOfNums (be4 (t.f4)) := ⟨_, rfl⟩
              obtain ⟨s2, hs2⟩ : ∃ s, s = strOfNums (be4 (t.f5)) := ⟨_, rfl⟩
              have HS : Aside0 (s0 = strOfNums (be4 (t.f3)) ∧ s1 = strOfNums (be4 (t.f4)) ∧ s2 = strOfNums (be4 (t.f5))) := ⟨⟨hs0, hs1, hs2⟩⟩
              have hz : S.size ≤ 100000 := by rw [hS, str_size]; have := HYY.out; omega
              have hz0 : s0.size ≤ 1000 := by rw [hs0, str_size]; exact (by simp only [be4_len]; decide)
              have hz1 : s1.size ≤ 1000 := by rw [hs1, str_size]; exact (by simp only [be4_len]; decide)
              have hz2 : s2.size ≤ 1000 := by rw [hs2, str_size]; exact (by simp only [be4_len]; decide)
              have n0_ : (9223372036854775807 < S.size + s0.size) = False := eq_false (by omega)
              have n1_ : (9223372036854775807 < S.size + s0.size + s1.size) = False := eq_false (by omega)
              have n2_ : (9223372036854775807 < S.size + s0.size + s1.size + s2.size) = False := eq_false (by omega)
              have HCAT : Aside0 (S ++ s0 ++ s1 ++ s2 = strOfNums (zs ++ be4 (t.f3) ++ be4 (t.f4) ++ be4 (t.f5))) := ⟨by rw [hS, hs0, hs1, hs2]; simp only [str_append, ByteArray.append_assoc]⟩
              rw [← hS]
              clear hS hz hs0 hz0 hs1 hz1 hs2 hz2
              go_upto_region 26 with fail
              clear hb0 hb1 hx0 hx1 hx2 hx3 hx4 hx5 hx6
              go_region_held3 (fun w' => w'.cell? ⟨gx, 0, none⟩ = some (.slice A T.length c) ∧ w'.cell? ⟨gx, 1, none⟩ = some (.slice (some ad) X.length c2) ∧ w'.cell? ⟨gt, 0, none⟩ = some (.string t.f0) ∧ w'.cell? ⟨gt, 1, none⟩ = some (.int .i64 t.f1) ∧ w'.cell? ⟨gt, 2, none⟩ = some (.slice A1 t.f2.length k1) ∧ w'.cell? ⟨gt, 3, none⟩ = some (.int .u32 t.f3) ∧ w'.cell? ⟨gt, 4, none⟩ = some (.int .i64 t.f4) ∧ w'.cell? ⟨gt, 5, none⟩ = some (.int .i64 t.f5) ∧ w'.cell? ⟨gt, 6, none⟩ = some (.slice A6 t.f6.length k6)) (exact ⟨(blk_cell HXb.out 0).trans rfl, (blk_cell HXb.out 1).trans rfl, (blk_cell HXx.out 0).trans rfl, (blk_cell HXx.out 1).trans rfl, (blk_cell HXx.out 2).trans rfl, (blk_cell HXx.out 3).trans rfl, (blk_cell HXx.out 4).trans rfl, (blk_cell HXx.out 5).trans rfl, (blk_cell HXx.out 6).trans rfl⟩) (first
                | ((with_reducible refine (four_e _ (t.f3) HA.out.2.1 HS.out.1).mono ?_); rintro en wq ⟨rfl, hb_⟩; replace HB := Aside0.mk (by first | exact below_then HB.out HB.out.size hb_ | exact below_then (below_drew1 HB.out) (below_drew1 HB.out).size hb_); replace HXb := Aside0.mk (by first | exact blk_below HXb.out hb_ | exact blk_below (blk_drew HXb.out) hb_); replace HXx := Aside0.mk (by first | exact blk_below HXx.out hb_ | exact blk_below (blk_drew HXx.out) hb_); clear hb_)
                | ((with_reducible refine (four_e _ (t.f4) HA.out.2.2.1 HS.out.2.1).mono ?_); rintro en wq ⟨rfl, hb_⟩; replace HB := Aside0.mk (by first | exact below_then HB.out HB.out.size hb_ | exact below_then (below_drew1 HB.out) (below_drew1 HB.out).size hb_); replace HXb := Aside0.mk (by first | exact blk_below HXb.out hb_ | exact blk_below (blk_drew HXb.out) hb_); replace HXx := Aside0.mk (by first | exact blk_below HXx.out hb_ | exact blk_below (blk_drew HXx.out) hb_); clear hb_)
                | ((with_reducible refine (four_e _ (t.f5) HA.out.2.2.2 HS.out.2.2).mono ?_); rintro en wq ⟨rfl, hb_⟩; replace HB := Aside0.mk (by first | exact below_then HB.out HB.out.size hb_ | exact below_then (below_drew1 HB.out) (below_drew1 HB.out).size hb_); replace HXb := Aside0.mk (by first | exact blk_below HXb.out hb_ | exact blk_below (blk_drew HXb.out) hb_); replace HXx := Aside0.mk (by first | exact blk_below HXx.out hb_ | exact blk_below (blk_drew HXx.out) hb_); clear hb_))
              have hb0 := (blk_cell HXb.out 0).trans rfl; have hb1 := (blk_cell HXb.out 1).trans rfl; have hx0 := (blk_cell HXx.out 0).trans rfl; have hx1 := (blk_cell HXx.out 1).trans rfl; have hx2 := (blk_cell HXx.out 2).trans rfl; have hx3 := (blk_cell HXx.out 3).trans rfl; have hx4 := (blk_cell HXx.out 4).trans rfl; have hx5 := (blk_cell HXx.out 5).trans rfl; have hx6 := (blk_cell HXx.out 6).trans rfl; 
              go_wp2
              go_loopg [3, 145] t.f6.length (fun kq v3 v145 w' => ∃ j : Nat, v3 = .string (strOfNums (zs ++ be4 t.f3 ++ be4 t.f4 ++ be4 t.f5 ++ (t.f6.take j).flatMap be4)) ∧ v145 = .int .i64 (j : Int) ∧ Aside0 (kq + j = t.f6.length) ∧ Aside0 (Below w.heap.size w w') ∧ Aside0 (w'.heap[gx]? = some (.cells #[.slice A T.length c, .slice (some ad) X.length c2] 80 (0, 0))) ∧ Aside0 (w'.heap[gt]? = some (.cells #[.string t.f0, .int .i64 t.f1, .slice A1 t.f2.length k1, .int .u32 t.f3, .int .i64 t.f4, .int .i64 t.f5, .slice A6 t.f6.length k6] 135 (0, 0))))
              case atStart => exact ⟨0, by rw [HCAT.out]; simp, rfl, ⟨by omega⟩, HB, HXb, HXx⟩
              case round =>
                clear HB HXb HXx hb0 hb1 hx0 hx1 hx2 hx3 hx4 hx5 hx6 HS HCAT n0_ n1_ n2_
                obtain ⟨j, rfl, rfl, HJ, HB, HXb, HXx⟩ := hrel
                have hb0 := (blk_cell HXb.out 0).trans rfl; have hb1 := (blk_cell HXb.out 1).trans rfl; have hx0 := (blk_cell HXx.out 0).trans rfl; have hx1 := (blk_cell HXx.out 1).trans rfl; have hx2 := (blk_cell HXx.out 2).trans rfl; have hx3 := (blk_cell HXx.out 3).trans rfl; have hx4 := (blk_cell HXx.out 4).trans rfl; have hx5 := (blk_cell HXx.out 5).trans rfl; have hx6 := (blk_cell HXx.out 6).trans rfl; 
                by_cases c6 : j < t.f6.length
                · have d1 : decide ((j : Int) < (t.f6.length : Int)) = true := decide_eq_true (by omega)
                  have d1b : decide (j < t.f6.length) = true := decide_eq_true c6
                  have e9 : (0 ≤ (j : Int)) = True := eq_true (by omega)
                  have f9 : ((j : Int) < (t.f6.length : Int)) = True := eq_true (by omega)
                  have f9b : (j < t.f6.length) = True := eq_true c6
                  have hck := flat_take' (0 : Int) be4 t.f6 j c6
                  change _ = _ ++ be4 (rd t.f6 (j : Int)) at hck
                  have hpq := HPt.out.1.2.2.2.2.2.1 j c6
                  obtain ⟨ad2, e2, hy0⟩ := Kd.at_int HI6.out.2 (j : Int) (by omega) (by omega)
                  subst e2
                  rw [Int.toNat_natCast] at hy0
                  replace hy0 := (HB.out.cell (World.block_lt_of_cell? w _ hy0)).trans hy0
                  obtain ⟨n, hn⟩ : ∃ n, n = rd t.f6 (j : Int) := ⟨_, rfl⟩
                  rw [← hn] at hy0 hck hpq
                  clear hn
                  have HPq : Aside0 (0 ≤ n ∧ n < 18446744073709551616) := ⟨numR hpq⟩
                  obtain ⟨us, hus⟩ : ∃ us, us = zs ++ be4 t.f3 ++ be4 t.f4 ++ be4 t.f5 ++ (t.f6.take j).flatMap be4 := ⟨_, rfl⟩
                  have HCL : Aside0 (zs ++ be4 t.f3 ++ be4 t.f4 ++ be4 t.f5 ++ (t.f6.take (j + 1)).flatMap be4 = us ++ be4 n) := ⟨by rw [hck, hus]; simp only [List.append_assoc]⟩
                  have hjl : (t.f6.take j).length ≤ 2 := by have := HYY.out; rw [List.length_take]; omega
                  replace HYY : Aside0 (us.length ≤ 9500) := ⟨by have := HYY.out; rw [hus]; simp only [List.length_append, be4_len, flat4_len]; omega⟩
                  rw [← hus]
                  have HC6 := Aside0.mk c6
                  clear c6 hck hus hjl hpq
                  obtain ⟨S, hS⟩ : ∃ S, S = strOfNums (us) := ⟨_, rfl⟩
                  obtain ⟨s0, hs0⟩ : ∃ s, s = strOfNums (be4 (n)) := ⟨_, rfl⟩
                  have HS : Aside0 (s0 = strOfNums (be4 (n))) := ⟨hs0⟩
                  have hz : S.size ≤ 100000 := by rw [hS, str_size]; have := HYY.out; omega
                  have hz0 : s0.size ≤ 1000 := by rw [hs0, str_size]; exact (by simp only [be4_len]; decide)
                  have n0_ : (9223372036854775807 < S.size + s0.size) = False := eq_false (by omega)
                  have HCAT : Aside0 (S ++ s0 = strOfNums (us ++ be4 (n))) := ⟨by rw [hS, hs0]; simp only [str_append, ByteArray.append_assoc]⟩
                  rw [← hS]
                  clear hS hz hs0 hz0
                  go_wp2_with (first
                    | (go_at_call 67; (with_reducible refine (four_e _ (n) HPq.out HS.out).mono ?_); rintro en wq ⟨rfl, hb_⟩; (try clear hb0 hb1 hx0 hx1 hx2 hx3 hx4 hx5 hx6); replace HB := Aside0.mk (below_then HB.out HB.out.size hb_); replace HXb := Aside0.mk (blk_below HXb.out hb_); replace HXx := Aside0.mk (blk_below HXx.out hb_); have hb0 := (blk_cell HXb.out 0).trans rfl; have hb1 := (blk_cell HXb.out 1).trans rfl; have hx0 := (blk_cell HXx.out 0).trans rfl; have hx1 := (blk_cell HXx.out 1).trans rfl; have hx2 := (blk_cell HXx.out 2).trans rfl; have hx3 := (blk_cell HXx.out 3).trans rfl; have hx4 := (blk_cell HXx.out 4).trans rfl; have hx5 := (blk_cell HXx.out 5).trans rfl; have hx6 := (blk_cell HXx.out 6).trans rfl; clear hb_))
                  go_roundg (gk - 1)
                  case measure => have h1 := HJ.out; have h2 := HC6.out; omega
                  case rel =>
                    have h1 := HJ.out
                    have h2 := HC6.out
                    have h3 := HPt.out.1.2.2.1
                    have h4 := HPt.out.1.2.2.2.1
                    refine ⟨j + 1, ?_, by first | rfl | (rw [wr_in ((j : Int) + 1) (by omega)]; rfl), ⟨by omega⟩, HB, HXb, HXx⟩
                    rw [HCL.out, HCAT.out]
                · have d1 : decide ((j : Int) < (t.f6.length : Int)) = false := decide_eq_false (by omega)
                  have d1b : decide (j < t.f6.length) = false := decide_eq_false c6
                  have hta : t.f6.take j = t.f6 := List.take_of_length_le (by omega)
                  have HFIN : Aside0 (xs ++ be1 X.length ++ (X.take (i + 1)).flatMap wrX = zs ++ be4 t.f3 ++ be4 t.f4 ++ be4 t.f5 ++ t.f6.flatMap be4) := ⟨by rw [HTK.out, HCK.out]; simp only [wrX, List.append_assoc]⟩
                  rw [hta]
                  clear c6 hta
                  go_wp2
                  go_roundg (gko - 1)
                  case measure => have h1 := HI.out; have h2 := HC5.out; omega
                  case rel =>
                    have h1 := HI.out
                    have h2 := HC5.out
                    have h3 := HTL.out.2
                    refine ⟨i + 1, ?_, by first | rfl | (rw [wr_in ((i : Int) + 1) (by omega)]; rfl), ⟨by omega⟩, HB, HXb⟩
                    rw [HFIN.out]
        · have c1 : decide ((i : Int) < (X.length : Int)) = false := decide_eq_false (by omega)
          have c1b : decide (i < X.length) = false := decide_eq_false c5
          have hta : X.take i = X := List.take_of_length_le (by omega)
          have HFIN : Aside0 (xs ++ be1 X.length ++ X.flatMap wrX = PureS.wr T X) := ⟨by rw [HXS.out]; rfl⟩
          rw [hta]
          clear c5 hta
          go_wp2
          go_ret
          exact ⟨by rw [← HFIN.out]; rfl, HB.out⟩
end Go.Proofs.Ytpfegfkniilobaa.Rp
