/- schema.Put: the walk, out of the pen's contracts. Conditions: the book may be. -/
import Derived.Test.YtpfegfkniilobaaPenb
import Derived.Test.YtpfegfkniilobaaXSchemax6
import Derived.Test.YtpfegfkniilobaaPureSchD
import Derived.Test.YtpfegfkniilobaaPureSchM
namespace Go.Proofs.Ytpfegfkniilobaa.Pn
open Go.RowKit Go.Proofs.YtpfegfkniilobaaW.PrintWords Go.Proofs.YtpfegfkniilobaaW.PrintLast Go.Proofs.YtpfegfkniilobaaW.PrintMore
open Go.Proofs.Ytpfegfkniilobaa.XSchema Go.Proofs.Ytpfegfkniilobaa.PureS
set_option linter.unusedVariables false
set_option linter.unusedSimpArgs false
set_option maxRecDepth 100000
theorem below_of_grown {W w3 : World} (hg : W.grownBy w3 none) : Below W.heap.size W w3 := (Below.refl _ _).grown hg (Nat.le_refl _) (fun k hk => by cases hk)
theorem flat_take' {α : Type} (d : α) (f : α → List Int) (L : List α) (i : Nat) (h : i < L.length) : (L.take (i + 1)).flatMap f = (L.take i).flatMap f ++ f (L.getD (i : Int).toNat d) := by
  rw [getD_at L d i h, List.take_succ_eq_append_getElem h, List.flatMap_append]
  simp
theorem flat_bound {α : Type} (f : α → List Int) (m : Nat) : ∀ L : List α, (∀ x ∈ L, (f x).length ≤ m) → (L.flatMap f).length ≤ m * L.length
  | [], _ => by simp
  | x :: L, h => by
    have h1 := h x (List.mem_cons_self ..)
    have h2 := flat_bound f m L (fun y hy => h y (List.mem_cons_of_mem _ hy))
    rw [List.flatMap_cons, List.length_append, List.length_cons, Nat.mul_succ]
    omega
theorem take_bound {α : Type} (f : α → List Int) (m n i : Nat) (L : List α) (h : ∀ x ∈ L, (f x).length ≤ m) (hn : L.length ≤ n) : ((L.take i).flatMap f).length ≤ m * n := by
  have h1 := flat_bound f m (L.take i) (fun x hx => h x (List.mem_of_mem_take hx))
  have h2 : (L.take i).length ≤ n := Nat.le_trans (List.length_take_le' ..) hn
  exact Nat.le_trans h1 (Nat.mul_le_mul_left _ h2)
theorem wrX_len (T : List S84) (x : S135) (h : indexP T x) : (wrX x).length ≤ 100 := by
  obtain ⟨h1, h2, h3, h4, h5⟩ := h
  have := h1.2.1
  simp only [wrX, List.length_append, txt_len, be1_len, be4_len, flat1_len, flat4_len]
  omega
theorem numbers_lit (w0 W : World) (g : Nat) (xs : List Int) (A : Option Addr) (c : Nat) (l : List Int) (n : Nat) (hln : l.length = n) (h : PS w0 W g xs) (hl : xs.length ≤ 50000) (hn : l.length ≤ 1000) (hC : ∀ W', KP W W' → Below w0.heap.size w0 W' → Kd.C (Kd.int .i64) W' A l.length l) :
    Calls Try.prog 70 #[.pointer (some ⟨g, 0, none⟩), .slice A n c] W fun e W' => e = .returned (.tuple #[]) ∧ PS w0 W' g (xs ++ l.flatMap be4) ∧ KP W W' := by
  subst hln
  exact numbers_ok w0 W g xs A c l h hl hn hC
theorem PS.box {w0 W : World} {g gb t : Nat} {xs : List Int} {cs : Array Value} (h : PS w0 W g xs) (hx : W.heap[gb]? = some (.cells cs t (0, 0))) (h8 : t ≠ 148) (h5 : t ≠ 5) (hge : w0.heap.size ≤ gb) (i : Nat) (v : Value) : PS w0 (W.setCell ⟨gb, i, none⟩ v) g xs := by
  obtain ⟨h1, h2, u, h3, h4⟩ := h
  have hne : g ≠ gb := fun e => by
    subst e
    rw [hx] at h3
    injection h3 with h3
    injection h3 with _ h3
    exact h8 h3
  exact ⟨h1, h2.setCell (p := ⟨gb, i, none⟩) hge _, u, blk_far h3 hne _, Kd.R_set h4 hx (fun q hq e => by simp [Kd.int, Kd.scalar] at hq; exact h5 (e.symm.trans hq)) i _⟩

set_option maxHeartbeats 16000000 in
theorem put_ok (w : World) (A : Option Addr) (c : Nat) (T : List S84) (A2 : Option Addr) (c2 : Nat) (X : List S135) (hC : Kd.C k84 w A T.length T) (hc : T.length ≤ c) (hX : Kd.C k135 w A2 X.length X) (hc2 : X.length ≤ c2) (k : Nat) (hm : schema_May.f k T X = some true) (hM : MayP T X) :
    Calls Try.prog 33 #[.agg #[.slice A T.length c, .slice A2 X.length c2]] w fun e w' => ∃ v, e = .returned (.tuple #[v, .int .i64 0]) ∧ Kd.R (Kd.int .u8) 5 w' w.heap.size (fun _ => True) v (wr T X) ∧ Below w.heap.size w w' := by
  have HC := Aside0.mk hC
  have HX := Aside0.mk hX
  have HM := Aside0.mk (And.intro hm (And.intro hc hc2))
  have HP := Aside0.mk hM
  have HTL := Aside0.mk hM.1.1
  have HXL := Aside0.mk hM.1.2
  clear hC hc hX hc2 hm hM
  go_enter Try.func33, Try.ntmps33
  go_upto_region 1 with fail
  have HB1 := Aside0.mk (below_alloc (Below.refl w.heap.size w) (.cells #[.slice A T.length c, .slice A2 X.length c2] 80))
  have HX1 := Aside0.mk (blk_new w (.cells #[.slice A T.length c, .slice A2 X.length c2] 80))
  generalize hw1 : w.alloc (.cells #[.slice A T.length c, .slice A2 X.length c2] 80) = w1 at HB1 HX1 ⊢
  clear hw1
  have hb0 := (blk_cell HX1.out 0).trans rfl
  have hb1 := (blk_cell HX1.out 1).trans rfl
  go_wp2_with (first
    | (go_at_call 36; (with_reducible refine (schema_May.calls k A c T A2 c2 X true _ (Kd.C_below HC.out HB1.out) HM.out.2.1 (Kd.C_below HX.out HB1.out) HM.out.2.2 HM.out.1).mono ?_); rintro en w2 ⟨rfl, hb⟩; clear hb0 hb1; have HXb0 := Aside0.mk (blk_below HX1.out hb); have HB2 := Aside0.mk (below_then HB1.out HB1.out.size hb); clear hb; have HXb := Aside0.mk (blk_alloc HXb0.out (.cells #[.slice none 0 0] 148)); have HPS : Aside0 (PS w (w2.alloc (.cells #[.slice none 0 0] 148)) w2.heap.size []) := ⟨⟨HB2.out.size, below_alloc HB2.out _, _, blk_new _ _, Kd.R_nil _ _ _ _ _⟩⟩; have hb0 := (blk_cell HXb.out 0).trans rfl; have hb1 := (blk_cell HXb.out 1).trans rfl)
    | (go_at_call 68; (with_reducible refine (count_be w _ w2.heap.size [] (T.length : Int) HPS.out (by simp)).mono ?_); rintro en wq ⟨rfl, h, hk⟩; clear hb0 hb1 HPS; have HPS := Aside0.mk h; replace HXb := Aside0.mk (hk _ _ _ (by decide) (by decide) HXb.out); generalize w2.heap.size = g at HPS ⊢; generalize w.heap.size = gx at HXb ⊢; have hb0 := (blk_cell HXb.out 0).trans rfl; have hb1 := (blk_cell HXb.out 1).trans rfl; clear h hk))
  clear HXb0 HX1
  go_loopg [26] T.length (fun kq v26 w' => ∃ i : Nat, v26 = .int .i64 (i : Int) ∧ Aside0 (kq + i = T.length) ∧ Aside0 (PS w w' g (be1 T.length ++ (T.take i).flatMap wrT)) ∧ Aside0 (w'.heap[gx]? = some (.cells #[.slice A T.length c, .slice A2 X.length c2] 80 (0, 0))))
  case atStart => exact ⟨0, rfl, ⟨by omega⟩, ⟨by simpa using HPS.out⟩, HXb⟩
  case round =>
    clear HPS HXb hb0 hb1
    obtain ⟨i, rfl, HI, HPS, HXb⟩ := hrel
    have hb0 := (blk_cell HXb.out 0).trans rfl
    have hb1 := (blk_cell HXb.out 1).trans rfl
    by_cases c5 : i < T.length
    · have c1 : decide ((i : Int) < (T.length : Int)) = true := decide_eq_true (by omega)
      have c1b : decide (i < T.length) = true := decide_eq_true c5
      have p9 : (0 ≤ (i : Int)) = True := eq_true (by omega)
      have q9 : ((i : Int) < (T.length : Int)) = True := eq_true (by omega)
      have q9b : (i < T.length) = True := eq_true c5
      have htk := flat_take' z84 wrT T i c5
      have hlen := take_bound wrT 400 16 i T (fun t ht => wrT_len t ((all_T (P := tableP) fun j hj => (HP.out.2.1 j hj).1) t ht)) HTL.out
      have hPt := (HP.out.2.1 i c5).1
      obtain ⟨ad, A1, k1, e1, hx0, hx1, hx2, hx3, hx4, hl1, hi1⟩ := at_T84 HC.out (i : Int) (by omega) (by omega)
      subst e1
      rw [Int.toNat_natCast] at hx0 hx1 hx2 hx3 hx4
      replace hx0 := (HPS.out.bel.cell (World.block_lt_of_cell? w _ hx0)).trans hx0
      replace hx1 := (HPS.out.bel.cell (World.block_lt_of_cell? w _ hx1)).trans hx1
      replace hx2 := (HPS.out.bel.cell (World.block_lt_of_cell? w _ hx2)).trans hx2
      replace hx3 := (HPS.out.bel.cell (World.block_lt_of_cell? w _ hx3)).trans hx3
      replace hx4 := (HPS.out.bel.cell (World.block_lt_of_cell? w _ hx4)).trans hx4
      change _ = _ ++ wrT (rd_T84 T (i : Int)) at htk
      obtain ⟨t, ht⟩ : ∃ t, t = rd_T84 T (i : Int) := ⟨_, rfl⟩
      rw [← ht] at hx0 hx1 hx2 hx3 hx4 hl1 hi1 htk hPt
      clear ht
      have HI1 := Aside0.mk (And.intro hl1 hi1)
      have HPt := Aside0.mk hPt
      obtain ⟨ys, hys⟩ : ∃ ys, ys = be1 T.length ++ (T.take i).flatMap wrT := ⟨_, rfl⟩
      have HTK : Aside0 (be1 T.length ++ (T.take (i + 1)).flatMap wrT = ys ++ wrT t) := ⟨by rw [htk, hys, List.append_assoc]⟩
      have HYY : Aside0 (ys.length ≤ 6500 ∧ t.f0.size ≤ 24 ∧ t.f1.length ≤ 8) := ⟨by rw [hys, List.length_append, be1_len]; omega, hPt.1.2.1, hPt.2.2.1⟩
      rw [← hys] at HPS

      have HC5 := Aside0.mk c5
      clear c5 hl1 hi1 hPt htk hlen hys
      go_wp2_with (first
        | (go_at_call 69; (with_reducible refine (text_be w _ g _ t.f0 (HPS.out.alloc (.cells #[.string t.f0, .slice A1 t.f1.length k1, .int .u32 t.f2, .int .i64 t.f3, .int .i64 t.f4] 84)) (by have h1_ := HYY.out; (try simp only [List.length_append, txt_len, be1_len, be4_len, flat1_len, flat4_len, List.length_nil, List.flatMap_cons, List.flatMap_nil, List.length_cons]); omega) (by have := HYY.out; omega)).mono ?_); rintro en wq ⟨rfl, h, hk⟩; replace HPS := Aside0.mk h; (try clear hb0 hb1); replace HXb := Aside0.mk (hk _ _ _ (by decide) (by decide) (blk_alloc HXb.out (.cells #[.string t.f0, .slice A1 t.f1.length k1, .int .u32 t.f2, .int .i64 t.f3, .int .i64 t.f4] 84))); have HXt := Aside0.mk (hk _ _ _ (by decide) (by decide) (blk_new wr (.cells #[.string t.f0, .slice A1 t.f1.length k1, .int .u32 t.f2, .int .i64 t.f3, .int .i64 t.f4] 84))); generalize wr.heap.size = gt at HXt ⊢; have hb0 := (blk_cell HXb.out 0).trans rfl; have hb1 := (blk_cell HXb.out 1).trans rfl; have ht0 := (blk_cell HXt.out 0).trans rfl; have ht1 := (blk_cell HXt.out 1).trans rfl; have ht2 := (blk_cell HXt.out 2).trans rfl; have ht3 := (blk_cell HXt.out 3).trans rfl; have ht4 := (blk_cell HXt.out 4).trans rfl; clear h hk)
        | (go_at_call 68; (with_reducible refine (count_be w _ g _ _ HPS.out (by have h1_ := HYY.out; (try simp only [List.length_append, txt_len, be1_len, be4_len, flat1_len, flat4_len, List.length_nil, List.flatMap_cons, List.flatMap_nil, List.length_cons]); omega)).mono ?_); rintro en wq ⟨rfl, h, hk⟩; replace HPS := Aside0.mk h; (try clear hb0 hb1 ht0 ht1 ht2 ht3 ht4); replace HXb := Aside0.mk (hk _ _ _ (by decide) (by decide) HXb.out); replace HXt := Aside0.mk (hk _ _ _ (by decide) (by decide) HXt.out); have hb0 := (blk_cell HXb.out 0).trans rfl; have hb1 := (blk_cell HXb.out 1).trans rfl; have ht0 := (blk_cell HXt.out 0).trans rfl; have ht1 := (blk_cell HXt.out 1).trans rfl; have ht2 := (blk_cell HXt.out 2).trans rfl; have ht3 := (blk_cell HXt.out 3).trans rfl; have ht4 := (blk_cell HXt.out 4).trans rfl; clear h hk))
      obtain ⟨gko, rfl⟩ : ∃ x, x = gk := ⟨gk, rfl⟩
      go_loopg [42] t.f1.length (fun kq v42 w' => ∃ j : Nat, v42 = .int .i64 (j : Int) ∧ Aside0 (kq + j = t.f1.length) ∧ Aside0 (PS w w' g (ys ++ txt t.f0 ++ be1 t.f1.length ++ (t.f1.take j).flatMap wrC)) ∧ Aside0 (w'.heap[gx]? = some (.cells #[.slice (some ad) T.length c, .slice A2 X.length c2] 80 (0, 0))) ∧ Aside0 (w'.heap[gt]? = some (.cells #[.string t.f0, .slice A1 t.f1.length k1, .int .u32 t.f2, .int .i64 t.f3, .int .i64 t.f4] 84 (0, 0))))
      case atStart => exact ⟨0, rfl, ⟨by omega⟩, ⟨by simpa using HPS.out⟩, HXb, HXt⟩
      case round =>
        clear HPS HXb HXt hb0 hb1 ht0 ht1 ht2 ht3 ht4 hx0 hx1 hx2 hx3 hx4
        obtain ⟨j, rfl, HJ, HPS, HXb, HXt⟩ := hrel
        have hb0 := (blk_cell HXb.out 0).trans rfl
        have hb1 := (blk_cell HXb.out 1).trans rfl
        have ht0 := (blk_cell HXt.out 0).trans rfl
        have ht1 := (blk_cell HXt.out 1).trans rfl
        have ht2 := (blk_cell HXt.out 2).trans rfl
        have ht3 := (blk_cell HXt.out 3).trans rfl
        have ht4 := (blk_cell HXt.out 4).trans rfl
        by_cases c6 : j < t.f1.length
        · have d1 : decide ((j : Int) < (t.f1.length : Int)) = true := decide_eq_true (by omega)
          have d1b : decide (j < t.f1.length) = true := decide_eq_true c6
          have e9 : (0 ≤ (j : Int)) = True := eq_true (by omega)
          have f9 : ((j : Int) < (t.f1.length : Int)) = True := eq_true (by omega)
          have f9b : (j < t.f1.length) = True := eq_true c6
          have hck := flat_take' z87 wrC t.f1 j c6
          have hlen := take_bound wrC 40 8 j t.f1 (fun q hq => wrC_len q (all_cols (fun j hj => (HPt.out.2.2.2.2.2.2 j hj).1) q hq)) HPt.out.2.2.1
          have hPq := (HPt.out.2.2.2.2.2.2 j c6).1
          obtain ⟨ad2, e2, hy0, hy1, hy2, hy3⟩ := at_T87 HI1.out.2 (j : Int) (by omega) (by omega)
          subst e2
          rw [Int.toNat_natCast] at hy0 hy1 hy2 hy3
          replace hy0 := (HPS.out.bel.cell (World.block_lt_of_cell? w _ hy0)).trans hy0
          replace hy1 := (HPS.out.bel.cell (World.block_lt_of_cell? w _ hy1)).trans hy1
          replace hy2 := (HPS.out.bel.cell (World.block_lt_of_cell? w _ hy2)).trans hy2
          replace hy3 := (HPS.out.bel.cell (World.block_lt_of_cell? w _ hy3)).trans hy3
          change _ = _ ++ wrC (rd_T87 t.f1 (j : Int)) at hck
          obtain ⟨q, hq⟩ : ∃ q, q = rd_T87 t.f1 (j : Int) := ⟨_, rfl⟩
          rw [← hq] at hy0 hy1 hy2 hy3 hck hPq
          clear hq
          obtain ⟨zs, hzs⟩ : ∃ zs, zs = ys ++ txt t.f0 ++ be1 t.f1.length ++ (t.f1.take j).flatMap wrC := ⟨_, rfl⟩
          have HCK : Aside0 (ys ++ txt t.f0 ++ be1 t.f1.length ++ (t.f1.take (j + 1)).flatMap wrC = zs ++ wrC q) := ⟨by rw [hck, hzs]; simp only [List.append_assoc]⟩
          replace HYY : Aside0 (zs.length ≤ 7000 ∧ q.f0.size ≤ 24) := ⟨by have := HYY.out; rw [hzs]; simp only [List.length_append, txt_len, be1_len]; omega, hPq.1.2.1⟩
          rw [← hzs] at HPS
          have HC6 := Aside0.mk c6
          have k1_ := hPq.2.1
          have k2_ := hPq.2.2.1
          clear c6 hPq hck hlen hzs
          go_wp2_with (first
        | (go_at_call 69; (with_reducible refine (text_be w _ g _ q.f0 (HPS.out.alloc (.cells #[.string q.f0, .int .u8 q.f1, .int .i64 q.f2, .int .i64 q.f3] 87)) (by have h1_ := HYY.out; (try simp only [List.length_append, txt_len, be1_len, be4_len, flat1_len, flat4_len, List.length_nil, List.flatMap_cons, List.flatMap_nil, List.length_cons]); omega) (by have := HYY.out; omega)).mono ?_); rintro en wq ⟨rfl, h, hk⟩; replace HPS := Aside0.mk h; (try clear hb0 hb1 ht0 ht1 ht2 ht3 ht4); replace HXb := Aside0.mk (hk _ _ _ (by decide) (by decide) (blk_alloc HXb.out (.cells #[.string q.f0, .int .u8 q.f1, .int .i64 q.f2, .int .i64 q.f3] 87))); replace HXt := Aside0.mk (hk _ _ _ (by decide) (by decide) (blk_alloc HXt.out (.cells #[.string q.f0, .int .u8 q.f1, .int .i64 q.f2, .int .i64 q.f3] 87))); have HXc := Aside0.mk (hk _ _ _ (by decide) (by decide) (blk_new wr (.cells #[.string q.f0, .int .u8 q.f1, .int .i64 q.f2, .int .i64 q.f3] 87))); generalize wr.heap.size = gc at HXc ⊢; have hb0 := (blk_cell HXb.out 0).trans rfl; have hb1 := (blk_cell HXb.out 1).trans rfl; have ht0 := (blk_cell HXt.out 0).trans rfl; have ht1 := (blk_cell HXt.out 1).trans rfl; have ht2 := (blk_cell HXt.out 2).trans rfl; have ht3 := (blk_cell HXt.out 3).trans rfl; have ht4 := (blk_cell HXt.out 4).trans rfl; have hc0 := (blk_cell HXc.out 0).trans rfl; have hc1 := (blk_cell HXc.out 1).trans rfl; have hc2 := (blk_cell HXc.out 2).trans rfl; have hc3 := (blk_cell HXc.out 3).trans rfl; clear h hk)
        | (go_at_call 68; (with_reducible refine (count_be w _ g _ _ HPS.out (by have h1_ := HYY.out; (try simp only [List.length_append, txt_len, be1_len, be4_len, flat1_len, flat4_len, List.length_nil, List.flatMap_cons, List.flatMap_nil, List.length_cons]); omega)).mono ?_); rintro en wq ⟨rfl, h, hk⟩; replace HPS := Aside0.mk h; (try clear hb0 hb1 ht0 ht1 ht2 ht3 ht4 hc0 hc1 hc2 hc3); replace HXb := Aside0.mk (hk _ _ _ (by decide) (by decide) HXb.out); replace HXt := Aside0.mk (hk _ _ _ (by decide) (by decide) HXt.out); replace HXc := Aside0.mk (hk _ _ _ (by decide) (by decide) HXc.out); have hb0 := (blk_cell HXb.out 0).trans rfl; have hb1 := (blk_cell HXb.out 1).trans rfl; have ht0 := (blk_cell HXt.out 0).trans rfl; have ht1 := (blk_cell HXt.out 1).trans rfl; have ht2 := (blk_cell HXt.out 2).trans rfl; have ht3 := (blk_cell HXt.out 3).trans rfl; have ht4 := (blk_cell HXt.out 4).trans rfl; have hc0 := (blk_cell HXc.out 0).trans rfl; have hc1 := (blk_cell HXc.out 1).trans rfl; have hc2 := (blk_cell HXc.out 2).trans rfl; have hc3 := (blk_cell HXc.out 3).trans rfl; clear h hk)
        | ((with_reducible refine gate_dst (N := 60) rfl ?_); refine Kd.R_lit (Kd.int .i64) w.heap.size 3 ?hg (N := 60) ?hd (xs := [q.f2, q.f3]) (inner := [.int .i64 (q.f2), .int .i64 (q.f3)]) (ok := fun _ => True) (okp := fun _ => True) ?hr ?hp (fun _ hk => hk) trivial HPS.out.bel HPS.out.bel.size (by simp) ?_; (case hd => rfl); (case hg => rfl); (case hr => first | (go_simp; done) | (go_simp; rfl)); (case hp => exact (Reps.one (show Kd.M (Kd.int .i64) _ _ _ (q.f2) [.int .i64 (q.f2)] from rfl) (Reps.one (show Kd.M (Kd.int .i64) _ _ _ (q.f3) [.int .i64 (q.f3)] from rfl) (Reps.none _ _)))); intro v3 w3 ho3 hb3 hg3 hnew3; (obtain ⟨A3, c3, e3⟩ := Kd.R_slice ho3); replace e3 : v3 = .slice A3 2 c3 := e3; subst e3; have HL3 := Aside0.mk ho3; have hbel := below_of_grown hg3; replace HPS := Aside0.mk (HPS.out.below hbel); (try clear hb0 hb1 ht0 ht1 ht2 ht3 ht4 hc0 hc1 hc2 hc3); replace HXb := Aside0.mk (blk_below HXb.out hbel); replace HXt := Aside0.mk (blk_below HXt.out hbel); replace HXc := Aside0.mk (blk_below HXc.out hbel); have hb0 := (blk_cell HXb.out 0).trans rfl; have hb1 := (blk_cell HXb.out 1).trans rfl; have ht0 := (blk_cell HXt.out 0).trans rfl; have ht1 := (blk_cell HXt.out 1).trans rfl; have ht2 := (blk_cell HXt.out 2).trans rfl; have ht3 := (blk_cell HXt.out 3).trans rfl; have ht4 := (blk_cell HXt.out 4).trans rfl; have hc0 := (blk_cell HXc.out 0).trans rfl; have hc1 := (blk_cell HXc.out 1).trans rfl; have hc2 := (blk_cell HXc.out 2).trans rfl; have hc3 := (blk_cell HXc.out 3).trans rfl; clear ho3 hb3 hg3 hnew3 hbel)
        | (go_at_call 70; (with_reducible refine (numbers_lit w _ g _ A3 c3 [q.f2, q.f3] 2 (by simp) HPS.out (by have h1_ := HYY.out; (try simp only [List.length_append, txt_len, be1_len, be4_len, flat1_len, flat4_len, List.length_nil, List.flatMap_cons, List.flatMap_nil, List.length_cons]); omega) (by simp) (fun W' hk _ => lit_stable HL3.out W' hk)).mono ?_); rintro en wq ⟨rfl, h, hk⟩; replace HPS := Aside0.mk h; (try clear hb0 hb1 ht0 ht1 ht2 ht3 ht4 hc0 hc1 hc2 hc3); replace HXb := Aside0.mk (hk _ _ _ (by decide) (by decide) HXb.out); replace HXt := Aside0.mk (hk _ _ _ (by decide) (by decide) HXt.out); replace HXc := Aside0.mk (hk _ _ _ (by decide) (by decide) HXc.out); have hb0 := (blk_cell HXb.out 0).trans rfl; have hb1 := (blk_cell HXb.out 1).trans rfl; have ht0 := (blk_cell HXt.out 0).trans rfl; have ht1 := (blk_cell HXt.out 1).trans rfl; have ht2 := (blk_cell HXt.out 2).trans rfl; have ht3 := (blk_cell HXt.out 3).trans rfl; have ht4 := (blk_cell HXt.out 4).trans rfl; have hc0 := (blk_cell HXc.out 0).trans rfl; have hc1 := (blk_cell HXc.out 1).trans rfl; have hc2 := (blk_cell HXc.out 2).trans rfl; have hc3 := (blk_cell HXc.out 3).trans rfl; clear h hk))
          go_roundg (gk - 1)
          case measure => have h1 := HJ.out; have h2 := HC6.out; omega
          case rel =>
            have h1 := HJ.out
            have h2 := HC6.out
            have h3 := HPt.out.2.2.1
            refine ⟨j + 1, by first | rfl | (rw [wr_in ((j : Int) + 1) (by omega)]; rfl), ⟨by omega⟩, ⟨?_⟩, HXb, HXt⟩
            rw [HCK.out]
            have h4 := HPS.out
            simp only [List.flatMap_cons, List.flatMap_nil, List.append_nil, List.append_assoc] at h4
            simp only [wrC, List.append_assoc]
            exact h4
        · have d1 : decide ((j : Int) < (t.f1.length : Int)) = false := decide_eq_false (by omega)
          have d1b : decide (j < t.f1.length) = false := decide_eq_false c6
          have hta : t.f1.take j = t.f1 := List.take_of_length_le (by omega)
          have hlen := flatC_len t.f1 (all_cols (fun j hj => (HPt.out.2.2.2.2.2.2 j hj).1))
          rw [hta] at HPS
          obtain ⟨zs, hzs⟩ : ∃ zs, zs = ys ++ txt t.f0 ++ be1 t.f1.length ++ t.f1.flatMap wrC := ⟨_, rfl⟩
          have HCK : Aside0 (zs = ys ++ txt t.f0 ++ be1 t.f1.length ++ t.f1.flatMap wrC) := ⟨hzs⟩
          replace HYY : Aside0 (zs.length ≤ 7000) := ⟨by have := HYY.out; rw [hzs]; simp only [List.length_append, txt_len, be1_len]; omega⟩
          rw [← hzs] at HPS
          have k3_ := HPt.out.2.2.2.1.1
          have k4_ := HPt.out.2.2.2.1.2
          clear c6 hta hzs hlen
          go_wp2_with (first
        | ((with_reducible refine gate_dst (N := 71) rfl ?_); refine Kd.R_lit (Kd.int .i64) w.heap.size 3 ?hg (N := 71) ?hd (xs := [t.f2, t.f3, t.f4]) (inner := [.int .i64 (t.f2), .int .i64 (t.f3), .int .i64 (t.f4)]) (ok := fun _ => True) (okp := fun _ => True) ?hr ?hp (fun _ hk => hk) trivial HPS.out.bel HPS.out.bel.size (by simp) ?_; (case hd => rfl); (case hg => rfl); (case hr => first | (go_simp; done) | (go_simp; rfl)); (case hp => exact (Reps.one (show Kd.M (Kd.int .i64) _ _ _ (t.f2) [.int .i64 (t.f2)] from rfl) (Reps.one (show Kd.M (Kd.int .i64) _ _ _ (t.f3) [.int .i64 (t.f3)] from rfl) (Reps.one (show Kd.M (Kd.int .i64) _ _ _ (t.f4) [.int .i64 (t.f4)] from rfl) (Reps.none _ _))))); intro v3 w3 ho3 hb3 hg3 hnew3; (obtain ⟨A3, c3, e3⟩ := Kd.R_slice ho3); replace e3 : v3 = .slice A3 3 c3 := e3; subst e3; have HL3 := Aside0.mk ho3; have hbel := below_of_grown hg3; replace HPS := Aside0.mk (HPS.out.below hbel); (try clear hb0 hb1 ht0 ht1 ht2 ht3 ht4); replace HXb := Aside0.mk (blk_below HXb.out hbel); replace HXt := Aside0.mk (blk_below HXt.out hbel); have hb0 := (blk_cell HXb.out 0).trans rfl; have hb1 := (blk_cell HXb.out 1).trans rfl; have ht0 := (blk_cell HXt.out 0).trans rfl; have ht1 := (blk_cell HXt.out 1).trans rfl; have ht2 := (blk_cell HXt.out 2).trans rfl; have ht3 := (blk_cell HXt.out 3).trans rfl; have ht4 := (blk_cell HXt.out 4).trans rfl; clear ho3 hb3 hg3 hnew3 hbel)
        | (go_at_call 70; (with_reducible refine (numbers_lit w _ g _ A3 c3 [t.f2, t.f3, t.f4] 3 (by simp) HPS.out (by have h1_ := HYY.out; (try simp only [List.length_append, txt_len, be1_len, be4_len, flat1_len, flat4_len, List.length_nil, List.flatMap_cons, List.flatMap_nil, List.length_cons]); omega) (by simp) (fun W' hk _ => lit_stable HL3.out W' hk)).mono ?_); rintro en wq ⟨rfl, h, hk⟩; replace HPS := Aside0.mk h; (try clear hb0 hb1 ht0 ht1 ht2 ht3 ht4); replace HXb := Aside0.mk (hk _ _ _ (by decide) (by decide) HXb.out); replace HXt := Aside0.mk (hk _ _ _ (by decide) (by decide) HXt.out); have hb0 := (blk_cell HXb.out 0).trans rfl; have hb1 := (blk_cell HXb.out 1).trans rfl; have ht0 := (blk_cell HXt.out 0).trans rfl; have ht1 := (blk_cell HXt.out 1).trans rfl; have ht2 := (blk_cell HXt.out 2).trans rfl; have ht3 := (blk_cell HXt.out 3).trans rfl; have ht4 := (blk_cell HXt.out 4).trans rfl; clear h hk))
          go_roundg (gko - 1)
          case measure => have h1 := HI.out; have h2 := HC5.out; omega
          case rel =>
            have h1 := HI.out
            have h2 := HC5.out
            have h3 := HTL.out
            refine ⟨i + 1, by first | rfl | (rw [wr_in ((i : Int) + 1) (by omega)]; rfl), ⟨by omega⟩, ⟨?_⟩, HXb⟩
            rw [HTK.out]
            have h4 := HPS.out
            rw [HCK.out] at h4
            simp only [List.flatMap_cons, List.flatMap_nil, List.append_nil, List.append_assoc] at h4
            simp only [wrT, List.append_assoc]
            exact h4
    · have c1 : decide ((i : Int) < (T.length : Int)) = false := decide_eq_false (by omega)
      have c1b : decide (i < T.length) = false := decide_eq_false c5
      have hta : T.take i = T := List.take_of_length_le (by omega)
      have hlen := flat_bound wrT 400 T (fun t ht => wrT_len t ((all_T (P := tableP) fun j hj => (HP.out.2.1 j hj).1) t ht))
      rw [hta] at HPS
      obtain ⟨xs, hxs⟩ : ∃ xs, xs = be1 T.length ++ T.flatMap wrT := ⟨_, rfl⟩
      have HXS : Aside0 (xs = be1 T.length ++ T.flatMap wrT) := ⟨hxs⟩
      have HYY : Aside0 (xs.length ≤ 6500) := ⟨by have := HTL.out; rw [hxs, List.length_append, be1_len]; omega⟩
      rw [← hxs] at HPS
      have HTK : Aside0 (xs.length ≤ 6500) := HYY
      clear c5 hta hxs hlen
      go_wp2_with (first
        | (go_at_call 68; (with_reducible refine (count_be w _ g _ _ HPS.out (by have h1_ := HYY.out; (try simp only [List.length_append, txt_len, be1_len, be4_len, flat1_len, flat4_len, List.length_nil, List.flatMap_cons, List.flatMap_nil, List.length_cons]); omega)).mono ?_); rintro en wq ⟨rfl, h, hk⟩; replace HPS := Aside0.mk h; (try clear hb0 hb1); replace HXb := Aside0.mk (hk _ _ _ (by decide) (by decide) HXb.out); have hb0 := (blk_cell HXb.out 0).trans rfl; have hb1 := (blk_cell HXb.out 1).trans rfl; clear h hk))
      go_loopg [82] X.length (fun kq v82 w' => ∃ i : Nat, v82 = .int .i64 (i : Int) ∧ Aside0 (kq + i = X.length) ∧ Aside0 (PS w w' g (xs ++ be1 X.length ++ (X.take i).flatMap wrX)) ∧ Aside0 (w'.heap[gx]? = some (.cells #[.slice A T.length c, .slice A2 X.length c2] 80 (0, 0))))
      case atStart => exact ⟨0, rfl, ⟨by omega⟩, ⟨by simpa using HPS.out⟩, HXb⟩
      case round =>
        clear HPS HXb hb0 hb1
        obtain ⟨i, rfl, HI, HPS, HXb⟩ := hrel
        have hb0 := (blk_cell HXb.out 0).trans rfl
        have hb1 := (blk_cell HXb.out 1).trans rfl
        by_cases c5 : i < X.length
        · have c1 : decide ((i : Int) < (X.length : Int)) = true := decide_eq_true (by omega)
          have c1b : decide (i < X.length) = true := decide_eq_true c5
          have p9 : (0 ≤ (i : Int)) = True := eq_true (by omega)
          have q9 : ((i : Int) < (X.length : Int)) = True := eq_true (by omega)
          have q9b : (i < X.length) = True := eq_true c5
          have htk := flat_take' z135 wrX X i c5
          have hall : ∀ x ∈ X, indexP T x := all_X (P := indexP T) fun j hj => (HP.out.2.2 j hj).1
          have hlen := take_bound wrX 100 16 i X (fun x hx => wrX_len T x (hall x hx)) HXL.out
          have hPt := (HP.out.2.2 i c5).1
          obtain ⟨ad, A1, k1, A6, k6, e1, hx0, hx1, hx2, hx3, hx4, hx5, hx6, hl1, hi1, hl6, hi6⟩ := at_T135 HX.out (i : Int) (by omega) (by omega)
          subst e1
          rw [Int.toNat_natCast] at hx0 hx1 hx2 hx3 hx4 hx5 hx6
          replace hx0 := (HPS.out.bel.cell (World.block_lt_of_cell? w _ hx0)).trans hx0
          replace hx1 := (HPS.out.bel.cell (World.block_lt_of_cell? w _ hx1)).trans hx1
          replace hx2 := (HPS.out.bel.cell (World.block_lt_of_cell? w _ hx2)).trans hx2
          replace hx3 := (HPS.out.bel.cell (World.block_lt_of_cell? w _ hx3)).trans hx3
          replace hx4 := (HPS.out.bel.cell (World.block_lt_of_cell? w _ hx4)).trans hx4
          replace hx5 := (HPS.out.bel.cell (World.block_lt_of_cell? w _ hx5)).trans hx5
          replace hx6 := (HPS.out.bel.cell (World.block_lt_of_cell? w _ hx6)).trans hx6
          change _ = _ ++ wrX (rd_T135 X (i : Int)) at htk
          obtain ⟨t, ht⟩ : ∃ t, t = rd_T135 X (i : Int) := ⟨_, rfl⟩
          rw [← ht] at hx0 hx1 hx2 hx3 hx4 hx5 hx6 hl1 hi1 hl6 hi6 htk hPt
          clear ht hall
          have HI1 := Aside0.mk (And.intro hl1 hi1)
          have HI6 := Aside0.mk (And.intro hl6 hi6)
          have HPt := Aside0.mk hPt
          obtain ⟨ys, hys⟩ : ∃ ys, ys = xs ++ be1 X.length ++ (X.take i).flatMap wrX := ⟨_, rfl⟩
          replace HTK : Aside0 (xs ++ be1 X.length ++ (X.take (i + 1)).flatMap wrX = ys ++ wrX t) := ⟨by rw [htk, hys]; simp only [List.append_assoc]⟩
          replace HYY : Aside0 (ys.length ≤ 8200 ∧ t.f0.size ≤ 24 ∧ t.f2.length ≤ 2 ∧ t.f6.length = t.f2.length) := ⟨by have := HYY.out; rw [hys]; simp only [List.length_append, be1_len]; omega, hPt.1.2.1, hPt.2.2.1.2, hPt.2.2.2.1⟩
          rw [← hys] at HPS
          have HC5 := Aside0.mk c5
          clear c5 hl1 hi1 hl6 hi6 hPt htk hlen hys
          go_wp2_with (first
        | (go_at_call 69; (with_reducible refine (text_be w _ g _ t.f0 (HPS.out.alloc (.cells #[.string t.f0, .int .i64 t.f1, .slice A1 t.f2.length k1, .int .u32 t.f3, .int .i64 t.f4, .int .i64 t.f5, .slice A6 t.f6.length k6] 135)) (by have h1_ := HYY.out; (try simp only [List.length_append, txt_len, be1_len, be4_len, flat1_len, flat4_len, List.length_nil, List.flatMap_cons, List.flatMap_nil, List.length_cons]); omega) (by have := HYY.out; omega)).mono ?_); rintro en wq ⟨rfl, h, hk⟩; replace HPS := Aside0.mk h; (try clear hb0 hb1); replace HXb := Aside0.mk (hk _ _ _ (by decide) (by decide) (blk_alloc HXb.out (.cells #[.string t.f0, .int .i64 t.f1, .slice A1 t.f2.length k1, .int .u32 t.f3, .int .i64 t.f4, .int .i64 t.f5, .slice A6 t.f6.length k6] 135))); have HXx := Aside0.mk (hk _ _ _ (by decide) (by decide) (blk_new wr (.cells #[.string t.f0, .int .i64 t.f1, .slice A1 t.f2.length k1, .int .u32 t.f3, .int .i64 t.f4, .int .i64 t.f5, .slice A6 t.f6.length k6] 135))); generalize wr.heap.size = gt at HXx ⊢; have hb0 := (blk_cell HXb.out 0).trans rfl; have hb1 := (blk_cell HXb.out 1).trans rfl; have hx0 := (blk_cell HXx.out 0).trans rfl; have hx1 := (blk_cell HXx.out 1).trans rfl; have hx2 := (blk_cell HXx.out 2).trans rfl; have hx3 := (blk_cell HXx.out 3).trans rfl; have hx4 := (blk_cell HXx.out 4).trans rfl; have hx5 := (blk_cell HXx.out 5).trans rfl; have hx6 := (blk_cell HXx.out 6).trans rfl; clear h hk)
        | (go_at_call 68; (with_reducible refine (count_be w _ g _ _ HPS.out (by have h1_ := HYY.out; (try simp only [List.length_append, txt_len, be1_len, be4_len, flat1_len, flat4_len, List.length_nil, List.flatMap_cons, List.flatMap_nil, List.length_cons]); omega)).mono ?_); rintro en wq ⟨rfl, h, hk⟩; replace HPS := Aside0.mk h; (try clear hb0 hb1 hx0 hx1 hx2 hx3 hx4 hx5 hx6); replace HXb := Aside0.mk (hk _ _ _ (by decide) (by decide) HXb.out); replace HXx := Aside0.mk (hk _ _ _ (by decide) (by decide) HXx.out); have hb0 := (blk_cell HXb.out 0).trans rfl; have hb1 := (blk_cell HXb.out 1).trans rfl; have hx0 := (blk_cell HXx.out 0).trans rfl; have hx1 := (blk_cell HXx.out 1).trans rfl; have hx2 := (blk_cell HXx.out 2).trans rfl; have hx3 := (blk_cell HXx.out 3).trans rfl; have hx4 := (blk_cell HXx.out 4).trans rfl; have hx5 := (blk_cell HXx.out 5).trans rfl; have hx6 := (blk_cell HXx.out 6).trans rfl; clear h hk))
          obtain ⟨gko, rfl⟩ : ∃ x, x = gk := ⟨gk, rfl⟩
          go_loopg [102] t.f2.length (fun kq v102 w' => ∃ j : Nat, v102 = .int .i64 (j : Int) ∧ Aside0 (kq + j = t.f2.length) ∧ Aside0 (PS w w' g (ys ++ txt t.f0 ++ be1 t.f1 ++ be1 t.f2.length ++ (t.f2.take j).flatMap be1)) ∧ Aside0 (w'.heap[gx]? = some (.cells #[.slice A T.length c, .slice (some ad) X.length c2] 80 (0, 0))) ∧ Aside0 (w'.heap[gt]? = some (.cells #[.string t.f0, .int .i64 t.f1, .slice A1 t.f2.length k1, .int .u32 t.f3, .int .i64 t.f4, .int .i64 t.f5, .slice A6 t.f6.length k6] 135 (0, 0))))
          case atStart => exact ⟨0, rfl, ⟨by omega⟩, ⟨by simpa using HPS.out⟩, HXb, HXx⟩
          case round =>
            clear HPS HXb HXx hb0 hb1 hx0 hx1 hx2 hx3 hx4 hx5 hx6
            obtain ⟨j, rfl, HJ, HPS, HXb, HXx⟩ := hrel
            have hb0 := (blk_cell HXb.out 0).trans rfl
            have hb1 := (blk_cell HXb.out 1).trans rfl
            have hx0 := (blk_cell HXx.out 0).trans rfl
            have hx1 := (blk_cell HXx.out 1).trans rfl
            have hx2 := (blk_cell HXx.out 2).trans rfl
            have hx3 := (blk_cell HXx.out 3).trans rfl
            have hx4 := (blk_cell HXx.out 4).trans rfl
            have hx5 := (blk_cell HXx.out 5).trans rfl
            have hx6 := (blk_cell HXx.out 6).trans rfl
            by_cases c6 : j < t.f2.length
            · have d1 : decide ((j : Int) < (t.f2.length : Int)) = true := decide_eq_true (by omega)
              have d1b : decide (j < t.f2.length) = true := decide_eq_true c6
              have e9 : (0 ≤ (j : Int)) = True := eq_true (by omega)
              have f9 : ((j : Int) < (t.f2.length : Int)) = True := eq_true (by omega)
              have f9b : (j < t.f2.length) = True := eq_true c6
              have hck := flat_take' (0 : Int) be1 t.f2 j c6
              change _ = _ ++ be1 (rd t.f2 (j : Int)) at hck
              obtain ⟨ad2, e2, hy0⟩ := Kd.at_int HI1.out.2 (j : Int) (by omega) (by omega)
              subst e2
              rw [Int.toNat_natCast] at hy0
              replace hy0 := (HPS.out.bel.cell (World.block_lt_of_cell? w _ hy0)).trans hy0
              obtain ⟨n, hn⟩ : ∃ n, n = rd t.f2 (j : Int) := ⟨_, rfl⟩
              rw [← hn] at hy0 hck
              clear hn
              obtain ⟨zs, hzs⟩ : ∃ zs, zs = ys ++ txt t.f0 ++ be1 t.f1 ++ be1 t.f2.length ++ (t.f2.take j).flatMap be1 := ⟨_, rfl⟩
              have HCK : Aside0 (ys ++ txt t.f0 ++ be1 t.f1 ++ be1 t.f2.length ++ (t.f2.take (j + 1)).flatMap be1 = zs ++ be1 n) := ⟨by rw [hck, hzs]; simp only [List.append_assoc]⟩
              have hjl : (t.f2.take j).length ≤ 2 := by have := HYY.out; rw [List.length_take]; omega
              replace HYY : Aside0 (zs.length ≤ 9000) := ⟨by have := HYY.out; rw [hzs]; simp only [List.length_append, txt_len, be1_len, flat1_len]; omega⟩
              rw [← hzs] at HPS
              have HC6 := Aside0.mk c6
              clear c6 hck hzs hjl
              go_wp2_with (first
        | (go_at_call 68; (with_reducible refine (count_be w _ g _ _ HPS.out (by have h1_ := HYY.out; (try simp only [List.length_append, txt_len, be1_len, be4_len, flat1_len, flat4_len, List.length_nil, List.flatMap_cons, List.flatMap_nil, List.length_cons]); omega)).mono ?_); rintro en wq ⟨rfl, h, hk⟩; replace HPS := Aside0.mk h; (try clear hb0 hb1 hx0 hx1 hx2 hx3 hx4 hx5 hx6); replace HXb := Aside0.mk (hk _ _ _ (by decide) (by decide) HXb.out); replace HXx := Aside0.mk (hk _ _ _ (by decide) (by decide) HXx.out); have hb0 := (blk_cell HXb.out 0).trans rfl; have hb1 := (blk_cell HXb.out 1).trans rfl; have hx0 := (blk_cell HXx.out 0).trans rfl; have hx1 := (blk_cell HXx.out 1).trans rfl; have hx2 := (blk_cell HXx.out 2).trans rfl; have hx3 := (blk_cell HXx.out 3).trans rfl; have hx4 := (blk_cell HXx.out 4).trans rfl; have hx5 := (blk_cell HXx.out 5).trans rfl; have hx6 := (blk_cell HXx.out 6).trans rfl; clear h hk))
              go_roundg (gk - 1)
              case measure => have h1 := HJ.out; have h2 := HC6.out; omega
              case rel =>
                have h1 := HJ.out
                have h2 := HC6.out
                have h3 := HPt.out.2.2.1
                refine ⟨j + 1, by first | rfl | (rw [wr_in ((j : Int) + 1) (by omega)]; rfl), ⟨by omega⟩, ⟨?_⟩, HXb, HXx⟩
                rw [HCK.out]
                exact HPS.out
            · have d1 : decide ((j : Int) < (t.f2.length : Int)) = false := decide_eq_false (by omega)
              have d1b : decide (j < t.f2.length) = false := decide_eq_false c6
              have hta : t.f2.take j = t.f2 := List.take_of_length_le (by omega)
              rw [hta] at HPS
              obtain ⟨zs, hzs⟩ : ∃ zs, zs = ys ++ txt t.f0 ++ be1 t.f1 ++ be1 t.f2.length ++ t.f2.flatMap be1 := ⟨_, rfl⟩
              have HCK : Aside0 (zs = ys ++ txt t.f0 ++ be1 t.f1 ++ be1 t.f2.length ++ t.f2.flatMap be1) := ⟨hzs⟩
              replace HYY : Aside0 (zs.length ≤ 9000 ∧ t.f6.length ≤ 2) := ⟨by have := HYY.out; rw [hzs]; simp only [List.length_append, txt_len, be1_len, flat1_len]; omega, by have := HYY.out; omega⟩
              rw [← hzs] at HPS
              have k3_ := HPt.out.2.2.2.2.2.2.2.1.1
              have k4_ := HPt.out.2.2.2.2.2.2.2.1.2
              clear c6 hta hzs
              go_wp2_with (first
        | ((with_reducible refine gate_dst (N := 118) rfl ?_); refine Kd.R_lit (Kd.int .i64) w.heap.size 3 ?hg (N := 118) ?hd (xs := [t.f3, t.f4, t.f5]) (inner := [.int .i64 (t.f3), .int .i64 (t.f4), .int .i64 (t.f5)]) (ok := fun _ => True) (okp := fun _ => True) ?hr ?hp (fun _ hk => hk) trivial HPS.out.bel HPS.out.bel.size (by simp) ?_; (case hd => rfl); (case hg => rfl); (case hr => first | (go_simp; done) | (go_simp; rfl)); (case hp => exact (Reps.one (show Kd.M (Kd.int .i64) _ _ _ (t.f3) [.int .i64 (t.f3)] from rfl) (Reps.one (show Kd.M (Kd.int .i64) _ _ _ (t.f4) [.int .i64 (t.f4)] from rfl) (Reps.one (show Kd.M (Kd.int .i64) _ _ _ (t.f5) [.int .i64 (t.f5)] from rfl) (Reps.none _ _))))); intro v3 w3 ho3 hb3 hg3 hnew3; (obtain ⟨A3, c3, e3⟩ := Kd.R_slice ho3); replace e3 : v3 = .slice A3 3 c3 := e3; subst e3; have HL3 := Aside0.mk ho3; have hbel := below_of_grown hg3; replace HPS := Aside0.mk (HPS.out.below hbel); (try clear hb0 hb1 hx0 hx1 hx2 hx3 hx4 hx5 hx6); replace HXb := Aside0.mk (blk_below HXb.out hbel); replace HXx := Aside0.mk (blk_below HXx.out hbel); have hb0 := (blk_cell HXb.out 0).trans rfl; have hb1 := (blk_cell HXb.out 1).trans rfl; have hx0 := (blk_cell HXx.out 0).trans rfl; have hx1 := (blk_cell HXx.out 1).trans rfl; have hx2 := (blk_cell HXx.out 2).trans rfl; have hx3 := (blk_cell HXx.out 3).trans rfl; have hx4 := (blk_cell HXx.out 4).trans rfl; have hx5 := (blk_cell HXx.out 5).trans rfl; have hx6 := (blk_cell HXx.out 6).trans rfl; clear ho3 hb3 hg3 hnew3 hbel)
        | (go_at_call 70; (with_reducible refine (numbers_lit w _ g _ A3 c3 [t.f3, t.f4, t.f5] 3 (by simp) HPS.out (by have h1_ := HYY.out; (try simp only [List.length_append, txt_len, be1_len, be4_len, flat1_len, flat4_len, List.length_nil, List.flatMap_cons, List.flatMap_nil, List.length_cons]); omega) (by simp) (fun W' hk _ => lit_stable HL3.out W' hk)).mono ?_); rintro en wq ⟨rfl, h, hk⟩; replace HPS := Aside0.mk h; (try clear hb0 hb1 hx0 hx1 hx2 hx3 hx4 hx5 hx6); replace HXb := Aside0.mk (hk _ _ _ (by decide) (by decide) HXb.out); replace HXx := Aside0.mk (hk _ _ _ (by decide) (by decide) HXx.out); have hb0 := (blk_cell HXb.out 0).trans rfl; have hb1 := (blk_cell HXb.out 1).trans rfl; have hx0 := (blk_cell HXx.out 0).trans rfl; have hx1 := (blk_cell HXx.out 1).trans rfl; have hx2 := (blk_cell HXx.out 2).trans rfl; have hx3 := (blk_cell HXx.out 3).trans rfl; have hx4 := (blk_cell HXx.out 4).trans rfl; have hx5 := (blk_cell HXx.out 5).trans rfl; have hx6 := (blk_cell HXx.out 6).trans rfl; clear h hk)
        | (go_at_call 70; (with_reducible refine (numbers_lit w _ g _ A6 k6 t.f6 t.f6.length rfl HPS.out (by have h1_ := HYY.out; (try simp only [List.length_append, txt_len, be1_len, be4_len, flat1_len, flat4_len, List.length_nil, List.flatMap_cons, List.flatMap_nil, List.length_cons]); omega) (by have := HYY.out; omega) (fun W' _ hb => Kd.C_below HI6.out.2 hb)).mono ?_); rintro en wq ⟨rfl, h, hk⟩; replace HPS := Aside0.mk h; (try clear hb0 hb1 hx0 hx1 hx2 hx3 hx4 hx5 hx6); replace HXb := Aside0.mk (hk _ _ _ (by decide) (by decide) HXb.out); replace HXx := Aside0.mk (hk _ _ _ (by decide) (by decide) HXx.out); have hb0 := (blk_cell HXb.out 0).trans rfl; have hb1 := (blk_cell HXb.out 1).trans rfl; have hx0 := (blk_cell HXx.out 0).trans rfl; have hx1 := (blk_cell HXx.out 1).trans rfl; have hx2 := (blk_cell HXx.out 2).trans rfl; have hx3 := (blk_cell HXx.out 3).trans rfl; have hx4 := (blk_cell HXx.out 4).trans rfl; have hx5 := (blk_cell HXx.out 5).trans rfl; have hx6 := (blk_cell HXx.out 6).trans rfl; clear h hk))
              go_roundg (gko - 1)
              case measure => have h1 := HI.out; have h2 := HC5.out; omega
              case rel =>
                have h1 := HI.out
                have h2 := HC5.out
                have h3 := HXL.out
                refine ⟨i + 1, by first | rfl | (rw [wr_in ((i : Int) + 1) (by omega)]; rfl), ⟨by omega⟩, ⟨?_⟩, HXb⟩
                rw [HTK.out]
                have h4 := HPS.out
                rw [HCK.out] at h4
                simp only [List.flatMap_cons, List.flatMap_nil, List.append_nil, List.append_assoc] at h4
                simp only [wrX, List.append_assoc]
                exact h4
        · have c1 : decide ((i : Int) < (X.length : Int)) = false := decide_eq_false (by omega)
          have c1b : decide (i < X.length) = false := decide_eq_false c5
          have hta : X.take i = X := List.take_of_length_le (by omega)
          rw [hta] at HPS
          obtain ⟨g1, g2, v, g3, g4⟩ := HPS.out
          have hv0 := (blk_cell g3 0).trans rfl
          have HO := Aside0.mk g4
          have HB := Aside0.mk g2
          have HGG := Aside0.mk g3
          clear c5 hta g1 g2 g3 g4
          go_wp2
          go_ret2
          refine ⟨v, rfl, ?_, HB.out⟩
          have h4 := HO.out
          rw [HXS.out] at h4
          exact h4
theorem put_no (w : World) (A : Option Addr) (c : Nat) (T : List S84) (A2 : Option Addr) (c2 : Nat) (X : List S135) (hC : Kd.C k84 w A T.length T) (hc : T.length ≤ c) (hX : Kd.C k135 w A2 X.length X) (hc2 : X.length ≤ c2) (k : Nat) (hm : schema_May.f k T X = some false) :
    Calls Try.prog 33 #[.agg #[.slice A T.length c, .slice A2 X.length c2]] w fun e w' => ∃ v, e = .returned (.tuple #[v, .int .i64 1]) ∧ Kd.R (Kd.int .u8) 5 w' w.heap.size (fun _ => True) v [] ∧ Below w.heap.size w w' := by
  have HC := Aside0.mk hC
  have HX := Aside0.mk hX
  have HM := Aside0.mk (And.intro hm (And.intro hc hc2))
  clear hC hc hX hc2 hm
  go_enter Try.func33, Try.ntmps33
  go_upto_region 1 with fail
  have HB1 := Aside0.mk (below_alloc (Below.refl w.heap.size w) (.cells #[.slice A T.length c, .slice A2 X.length c2] 80))
  have HX1 := Aside0.mk (blk_new w (.cells #[.slice A T.length c, .slice A2 X.length c2] 80))
  generalize hw1 : w.alloc (.cells #[.slice A T.length c, .slice A2 X.length c2] 80) = w1 at HB1 HX1 ⊢
  clear hw1
  have hb0 := (blk_cell HX1.out 0).trans rfl
  have hb1 := (blk_cell HX1.out 1).trans rfl
  go_wp2_with (go_at_call 36; (with_reducible refine (schema_May.calls k A c T A2 c2 X false _ (Kd.C_below HC.out HB1.out) HM.out.2.1 (Kd.C_below HX.out HB1.out) HM.out.2.2 HM.out.1).mono ?_); rintro en w2 ⟨rfl, hb⟩; clear hb0 hb1; have HB2 := Aside0.mk (below_then HB1.out HB1.out.size hb); clear hb)
  go_ret2
  exact ⟨_, rfl, Kd.R_nil _ _ _ _ _, HB2.out⟩
end Go.Proofs.Ytpfegfkniilobaa.Pn
/-! ### the program's Put in the print's words -/
namespace Go.Proofs.Ytpfegfkniilobaa.XSchema
open Go.RowKit Go.Proofs.YtpfegfkniilobaaW.PrintWords Go.Proofs.YtpfegfkniilobaaW.PrintLast Go.Proofs.YtpfegfkniilobaaW.PrintMore
open Go.Proofs.Ytpfegfkniilobaa.PureS
/-- What the types hold, and sizes that may be, told by a Bool. -/
def bookOk (T : List S84) (X : List S135) : Bool := T.all (fun t => decide (0 ≤ t.f2 ∧ t.f2 < 4294967296) && (decide (t.f0.size ≤ 9223372036854775807 ∧ t.f1.length ≤ 9223372036854775807) && t.f1.all (fun c => decide ((0 ≤ c.f1 ∧ c.f1 ≤ 255) ∧ c.f0.size ≤ 9223372036854775807)))) && X.all (fun x => decide ((0 ≤ x.f3 ∧ x.f3 < 4294967296) ∧ x.f0.size ≤ 9223372036854775807 ∧ x.f6.length ≤ 9223372036854775807))
theorem bookOk_W {T : List S84} {X : List S135} (h : bookOk T X = true) : bookW T X ∧ szP T X := by
  simp only [bookOk, Bool.and_eq_true, List.all_eq_true, decide_eq_true_eq] at h
  refine ⟨⟨fun i hi => ?_, fun i hi => ?_⟩, fun t ht => ?_, fun x hx => ?_⟩
  · rw [rd_T84, getD_at T z84 i hi]
    have h1 := h.1 _ (List.getElem_mem hi)
    refine ⟨h1.1.1, h1.1.2, fun j hj => ?_⟩
    rw [rd_T87, getD_at _ z87 j hj]
    exact (h1.2.2 _ (List.getElem_mem hj)).1
  · rw [rd_T135, getD_at X z135 i hi]
    exact (h.2 _ (List.getElem_mem hi)).1
  · exact ⟨(h.1 t ht).2.1.1, (h.1 t ht).2.1.2, fun c hc => ((h.1 t ht).2.2 c hc).2⟩
  · exact (h.2 x hx).2
theorem bookOk_mk {T : List S84} {X : List S135} (hT : ∀ t ∈ T, (0 ≤ t.f2 ∧ t.f2 < 4294967296) ∧ (t.f0.size ≤ 9223372036854775807 ∧ t.f1.length ≤ 9223372036854775807) ∧ ∀ c ∈ t.f1, (0 ≤ c.f1 ∧ c.f1 ≤ 255) ∧ c.f0.size ≤ 9223372036854775807) (hX : ∀ x ∈ X, (0 ≤ x.f3 ∧ x.f3 < 4294967296) ∧ x.f0.size ≤ 9223372036854775807 ∧ x.f6.length ≤ 9223372036854775807) : bookOk T X = true := by
  simp only [bookOk, Bool.and_eq_true, List.all_eq_true, decide_eq_true_eq]
  exact ⟨hT, hX⟩
def schema_Put.f (k : Nat) (T : List S84) (X : List S135) : Option (List Int × Int) := if bookOk T X = true then (schema_May.f k T X).bind fun t => if t = true then some (wr T X, 0) else some ([], 1) else none
theorem schema_Put.mono : ∀ a0 a1 k, LeO (schema_Put.f k a0 a1) (schema_Put.f (k + 1) a0 a1) := by
  intro a0 a1 k
  unfold schema_Put.f
  exact LeO.ite (LeO.bind (schema_May.mono _ _ _) fun _ => LeO.refl _) (LeO.refl _)
theorem schema_Put.calls (k : Nat) (A0_0 : Option Addr) (c0_0 : Nat) (l0_0 : List (S84)) (A0_1 : Option Addr) (c0_1 : Nat) (l0_1 : List (S135)) (r0 : List Int) (r1 : Int) (w : World) (hr0_0 : Kd.C k84 w A0_0 l0_0.length l0_0) (hc0_0 : l0_0.length ≤ c0_0) (hr0_1 : Kd.C k135 w A0_1 l0_1.length l0_1) (hc0_1 : l0_1.length ≤ c0_1) (h : schema_Put.f k l0_0 l0_1 = some (r0, r1)) :
    Calls Try.prog 33 #[.agg #[.slice A0_0 l0_0.length c0_0, .slice A0_1 l0_1.length c0_1]] w fun e w' => ∃ v0, e = .returned (.tuple #[v0, .int .i64 r1]) ∧ Kd.R (Kd.int .u8) 5 w' w.heap.size (fun _ => True) v0 r0 ∧ Below w.heap.size w w' := by
  unfold schema_Put.f at h
  split at h
  · rename_i hok
    obtain ⟨hW, hs⟩ := bookOk_W hok
    obtain ⟨t, ht, h⟩ := Option.bind_eq_some_iff.mp h
    cases t
    · rw [if_neg (by decide)] at h
      injection h with h
      injection h with e1 e2
      subst e1 e2
      exact Pn.put_no w A0_0 c0_0 l0_0 A0_1 c0_1 l0_1 hr0_0 hc0_0 hr0_1 hc0_1 k ht
    · rw [if_pos rfl] at h
      injection h with h
      injection h with e1 e2
      subst e1 e2
      obtain ⟨r, hr, hp⟩ := sMay l0_0 l0_1 hW hs
      have hM : MayP l0_0 l0_1 := by
        refine hp.1 ?_
        obtain ⟨K, hK⟩ := hr
        obtain ⟨K1, hK1⟩ := Ev.of (fun k => schema_May.mono l0_0 l0_1 k) ht
        have h1 := hK1 (max K1 K) (Nat.le_max_left _ _)
        have h2 := hK (max K1 K) (Nat.le_max_right _ _)
        rw [h2] at h1
        exact Option.some.inj h1
      exact Pn.put_ok w A0_0 c0_0 l0_0 A0_1 c0_1 l0_1 hr0_0 hc0_0 hr0_1 hc0_1 k ht hM
  · cases h
end Go.Proofs.Ytpfegfkniilobaa.XSchema
