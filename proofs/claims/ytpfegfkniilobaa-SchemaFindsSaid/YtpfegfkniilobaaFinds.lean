/- The law SchemaFinds. Conditions: stated in each theorem. -/
import Derived.Test.YtpfegfkniilobaaGreat
namespace Go.Proofs.Ytpfegfkniilobaa.Sch
open Go.RowKit Go.Proofs.YtpfegfkniilobaaW.PrintWords Go.Proofs.YtpfegfkniilobaaW.PrintLast Go.Proofs.YtpfegfkniilobaaW.PrintMore
open Go.Proofs.Ytpfegfkniilobaa.XSchemaFinds
set_option linter.unusedVariables false
set_option linter.unusedSimpArgs false
set_option maxRecDepth 100000
theorem Finds_great (k : Nat) (A : Option Addr) (c : Nat) (T : List S84) (A2 : Option Addr) (c2 : Nat) (X : List S135) (name : ByteArray) (w : World) (hC : Kd.C k84 w A T.length T) (hc : T.length ≤ c) (hX : Kd.C k135 w A2 X.length X) (hc2 : X.length ≤ c2) (hg : rowlockref12_Great.f k T X = some true) :
    Calls Try.prog 6 #[.agg #[.slice A T.length c, .slice A2 X.length c2], .string name] w fun e w' => e = .returned (.bool true) ∧ Below w.heap.size w w' := by
  have HC := Aside0.mk (And.intro hC (And.intro hc (And.intro hX (And.intro hc2 hg))))
  clear hC hc hX hc2 hg
  go_enter Try.func6, Try.ntmps6
  go_upto_region 1 with fail
  have HB1 := Aside0.mk (below_alloc (Below.refl w.heap.size w) (.cells #[.slice A T.length c, .slice A2 X.length c2] 80))
  have HX1 := Aside0.mk (blk_new w (.cells #[.slice A T.length c, .slice A2 X.length c2] 80))
  generalize hw1 : w.alloc (.cells #[.slice A T.length c, .slice A2 X.length c2] 80) = w1 at HB1 HX1 ⊢
  clear hw1
  have hx0 := (blk_cell HX1.out 0).trans rfl
  have hx1 := (blk_cell HX1.out 1).trans rfl
  go_wp2_with (first
    | (go_at_call 26; (with_reducible refine (rowlockref12_Great.calls k A c T A2 c2 X true _ (Kd.C_below HC.out.1 HB1.out) HC.out.2.1 (Kd.C_below HC.out.2.2.1 HB1.out) HC.out.2.2.2.1 HC.out.2.2.2.2).mono ?_); rintro en w2 ⟨rfl, hb⟩; clear hx0 hx1; have HB2 := Aside0.mk (below_then HB1.out HB1.out.size hb); clear hb)
    | (go_at_call 27; (with_reducible refine (fixed_ok _).mono ?_); rintro en w3 ⟨rfl, hb⟩; have HB3 := Aside0.mk (below_then HB2.out HB2.out.size hb); clear hb))
  go_ret
  exact ⟨rfl, HB3.out⟩
set_option maxHeartbeats 16000000 in
theorem Finds_walk (k : Nat) (A : Option Addr) (c : Nat) (T : List S84) (A2 : Option Addr) (c2 : Nat) (X : List S135) (name : ByteArray) (w : World) (hC : Kd.C k84 w A T.length T) (hc : T.length ≤ c) (hX : Kd.C k135 w A2 X.length X) (hc2 : X.length ≤ c2) (hg : rowlockref12_Great.f k T X = some false) (hl : T.length ≤ 140737488355328) (hcols : ∀ q : Nat, q < T.length → (rd_T84 T (q : Int)).f1.length ≤ 3000) :
    Calls Try.prog 6 #[.agg #[.slice A T.length c, .slice A2 X.length c2], .string name] w fun e w' => e = .returned (.bool true) ∧ Below w.heap.size w w' := by
  have HC := Aside0.mk (And.intro hC (And.intro hc (And.intro hX (And.intro hc2 hg))))
  have HL := Aside0.mk (And.intro hl hcols)
  clear hC hc hX hc2 hg hl hcols
  go_enter Try.func6, Try.ntmps6
  go_upto_region 1 with fail
  have HB1 := Aside0.mk (below_alloc (Below.refl w.heap.size w) (.cells #[.slice A T.length c, .slice A2 X.length c2] 80))
  have HX1 := Aside0.mk (blk_new w (.cells #[.slice A T.length c, .slice A2 X.length c2] 80))
  generalize hw1 : w.alloc (.cells #[.slice A T.length c, .slice A2 X.length c2] 80) = w1 at HB1 HX1 ⊢
  clear hw1
  have hx0 := (blk_cell HX1.out 0).trans rfl
  have hx1 := (blk_cell HX1.out 1).trans rfl
  go_wp2_with (go_at_call 26; (with_reducible refine (rowlockref12_Great.calls k A c T A2 c2 X false _ (Kd.C_below HC.out.1 HB1.out) HC.out.2.1 (Kd.C_below HC.out.2.2.1 HB1.out) HC.out.2.2.2.1 HC.out.2.2.2.2).mono ?_); rintro en w2 ⟨rfl, hb⟩; clear hx0 hx1; have HB2 := Aside0.mk (below_then HB1.out HB1.out.size hb); have HX2 := Aside0.mk (blk_below HX1.out hb); clear hb; have hx0 := (blk_cell HX2.out 0).trans rfl; have hx1 := (blk_cell HX2.out 1).trans rfl)
  clear hx0 hx1
  go_loopg [5, 17] T.length (fun kq v5 v17 w' => ∃ (i : Nat) (want : Int), v5 = .int .i64 want ∧ v17 = .int .i64 (i : Int) ∧ Aside0 (kq + i = T.length) ∧ Aside0 ((want < 0 ∧ want = -1 ∧ ix name (T.drop i) (i : Int) = ix name T 0) ∨ (¬ want < 0 ∧ ix name T 0 = want)) ∧ Aside0 (w'.heap[w.heap.size]? = some (.cells #[.slice A T.length c, .slice A2 X.length c2] 80 (0, 0))) ∧ Aside0 (Below w.heap.size w w'))
  case atStart => exact ⟨0, -1, rfl, rfl, ⟨by omega⟩, ⟨.inl ⟨by decide, rfl, rfl⟩⟩, HX2, HB2⟩
  case round =>
    clear HX2 HB2 HX1 HB1
    obtain ⟨i, want, rfl, rfl, HI, HW, HX, HB⟩ := hrel
    by_cases c5 : i < T.length
    · have c1 : decide ((i : Int) < (T.length : Int)) = true := decide_eq_true (by omega)
      have c1b : decide (i < T.length) = true := decide_eq_true c5
      obtain ⟨ad, A1, k1, e1, hx0, hx1, hx2, hx3, hx4, hk1, hcol⟩ := at_T84 HC.out.1 (i : Int) (by omega) (by omega)
      subst e1
      replace hx0 := (HB.out.cell (World.block_lt_of_cell? w _ hx0)).trans hx0
      replace hx1 := (HB.out.cell (World.block_lt_of_cell? w _ hx1)).trans hx1
      replace hx2 := (HB.out.cell (World.block_lt_of_cell? w _ hx2)).trans hx2
      replace hx3 := (HB.out.cell (World.block_lt_of_cell? w _ hx3)).trans hx3
      replace hx4 := (HB.out.cell (World.block_lt_of_cell? w _ hx4)).trans hx4
      rw [Int.toNat_natCast] at hx0 hx1 hx2 hx3 hx4
      have p9 : (0 ≤ (i : Int)) = True := eq_true (by omega)
      have q9 : ((i : Int) < (T.length : Int)) = True := eq_true (by omega)
      have q9b : (i < T.length) = True := eq_true c5
      have hcl := HL.out.2 i c5
      have hdr := drop_T T i c5
      obtain ⟨t, ht⟩ : ∃ t, t = rd_T84 T (i : Int) := ⟨_, rfl⟩
      rw [← ht] at hx0 hx1 hx2 hx3 hx4 hcl hdr hk1 hcol
      obtain ⟨tn, tcs, tr, tx, ty⟩ := t
      have HT := Aside0.mk (And.intro hcl (And.intro hk1 hcol))
      have H := Aside0.mk c5
      have HDR := Aside0.mk hdr
      clear c5 ht hcl hdr hk1 hcol
      simp only at hx0 hx1 hx2 hx3 hx4
      obtain ⟨want2, hw2⟩ : ∃ x, x = if want < 0 ∧ (tn.toList == name.toList) = true then (i : Int) else want := ⟨_, rfl⟩
      have HW2 : Aside0 ((want2 < 0 ∧ want2 = -1 ∧ ix name (T.drop (i + 1)) ((i : Int) + 1) = ix name T 0) ∨ (¬ want2 < 0 ∧ ix name T 0 = want2)) := ⟨by
        rcases HW.out with ⟨h1, h2, h3⟩ | ⟨h1, h2⟩
        · rw [HDR.out, ix] at h3
          by_cases hm : (tn.toList == name.toList) = true
          · rw [if_pos ⟨h1, hm⟩] at hw2
            rw [if_pos hm] at h3
            right
            rw [hw2]
            exact ⟨by omega, h3.symm⟩
          · rw [if_neg (fun h => hm h.2)] at hw2
            rw [if_neg hm] at h3
            left
            rw [hw2]
            exact ⟨h1, h2, h3⟩
        · rw [if_neg (fun h => h1 h.1)] at hw2
          right
          rw [hw2]
          exact ⟨h1, h2⟩⟩
      by_cases h1 : want < 0
      · have d5 : decide (want < 0) = true := decide_eq_true h1
        by_cases h2 : (tn.toList == name.toList) = true
        · rw [if_pos ⟨h1, h2⟩] at hw2
          subst hw2
          clear h1
          obtain ⟨gk1, hgk1⟩ : ∃ x, x = gk := ⟨_, rfl⟩
          have HGK := Aside0.mk hgk1
          clear hgk1
          have HY := Aside0.mk (blk_new wr (.cells #[.string tn, .slice A1 tcs.length k1, .int .u32 tr, .int .i64 tx, .int .i64 ty] 84))
          have HXa := Aside0.mk (blk_alloc HX.out (.cells #[.string tn, .slice A1 tcs.length k1, .int .u32 tr, .int .i64 tx, .int .i64 ty] 84))
          have HBa := Aside0.mk (below_alloc HB.out (.cells #[.string tn, .slice A1 tcs.length k1, .int .u32 tr, .int .i64 tx, .int .i64 ty] 84))
          have hy0 := (blk_cell HY.out 0).trans rfl
          have hy1 := (blk_cell HY.out 1).trans rfl
          have hy2 := (blk_cell HY.out 2).trans rfl
          have hy3 := (blk_cell HY.out 3).trans rfl
          have hy4 := (blk_cell HY.out 4).trans rfl
          go_wp2_with (go_at_call 28; (with_reducible refine (schema_Kinds.calls (tcs.length + 1) tn A1 k1 tcs tr tx ty (tcs.map (fun c => c.f1)) _ (Kd.C_below HT.out.2.2 HBa.out) HT.out.2.1 (kinds_f tn tcs tr tx ty (by have := HT.out.1; omega))).mono ?_); rintro en w8 ⟨v8, rfl, ho, hb⟩; clear hy0 hy1 hy2 hy3 hy4; obtain ⟨A8, c8, e8⟩ := Kd.R_slice ho; rw [List.length_map] at e8; subst e8; have HO8 := Aside0.mk (Kd.R_reads' ho).2.2; have HY8 := Aside0.mk (blk_below HY.out hb); have HX8 := Aside0.mk (blk_below HXa.out hb); have HB8 := Aside0.mk (below_then HBa.out HBa.out.size hb); clear ho hb; have hy1 := (blk_cell HY8.out 1).trans rfl)
          go_loopg [42] tcs.length (fun kq v42 w' => ∃ (n : Nat), v42 = .int .i64 (n : Int) ∧ Aside0 (kq + n = tcs.length) ∧ Aside0 (Kd.C (Kd.int .u8) w' A8 (tcs.map (fun c => c.f1)).length (tcs.map (fun c => c.f1))) ∧ Aside0 (w'.heap[w.heap.size]? = some (.cells #[.slice (some ad) T.length c, .slice A2 X.length c2] 80 (0, 0))) ∧ Aside0 (Below w.heap.size w w'))
          case atStart => exact ⟨0, rfl, ⟨by omega⟩, HO8, HX8, HB8⟩
          case round =>
            clear HO8 HX8 HB8 HY8 HXa HBa HY
            obtain ⟨n, rfl, HI2, HO, HX2, HB2⟩ := hrel
            by_cases c7 : n < tcs.length
            · have d1 : decide ((n : Int) < (tcs.length : Int)) = true := decide_eq_true (by omega)
              have d1b : decide (n < tcs.length) = true := decide_eq_true c7
              obtain ⟨ad7, e7, hz0, hz1, hz2, hz3⟩ := at_T87 HT.out.2.2 (n : Int) (by omega) (by omega)
              obtain ⟨ad8, e8, hk0⟩ := Kd.at_int HO.out (n : Int) (by omega) (by rw [List.length_map]; omega)
              subst e7 e8
              replace hz0 := (HB2.out.cell (World.block_lt_of_cell? w _ hz0)).trans hz0
              replace hz1 := (HB2.out.cell (World.block_lt_of_cell? w _ hz1)).trans hz1
              replace hz2 := (HB2.out.cell (World.block_lt_of_cell? w _ hz2)).trans hz2
              replace hz3 := (HB2.out.cell (World.block_lt_of_cell? w _ hz3)).trans hz3
              have hrd : rd (tcs.map (fun c => c.f1)) (n : Int) = (rd_T87 tcs (n : Int)).f1 := by
                rw [rd, rd_T87, Int.toNat_natCast, List.getD_eq_getElem?_getD, List.getD_eq_getElem?_getD, List.getElem?_map, List.getElem?_eq_getElem c7]
                rfl
              rw [hrd] at hk0
              rw [Int.toNat_natCast] at hz0 hz1 hz2 hz3 hk0
              obtain ⟨q, hq⟩ : ∃ q, q = rd_T87 tcs (n : Int) := ⟨_, rfl⟩
              rw [← hq] at hz0 hz1 hz2 hz3 hk0
              obtain ⟨q0, q1, q2, q3⟩ := q
              simp only at hz0 hz1 hz2 hz3 hk0
              have HB3 := Aside0.mk (below_alloc (Below.refl wr.heap.size wr) (.cells #[.string q0, .int .u8 q1, .int .i64 q2, .int .i64 q3] 87))
              have HV3 := Aside0.mk (blk_new wr (.cells #[.string q0, .int .u8 q1, .int .i64 q2, .int .i64 q3] 87))
              have hk1' := (HB3.out.cell (World.block_lt_of_cell? _ _ hk0)).trans hk0
              have hv1 := (blk_cell HV3.out 1).trans rfl
              have p7 : (0 ≤ (n : Int)) = True := eq_true (by omega)
              have q7 : ((n : Int) < (tcs.length : Int)) = True := eq_true (by omega)
              have q7b : (n < tcs.length) = True := eq_true c7
              have HJ := Aside0.mk c7
              clear c7 hq hrd
              go_wp2
              go_quiet (fail)
              go_wp2
              go_roundg (gk - 1)
              case measure => have h1 := HI2.out; have h2 := HJ.out; omega
              case rel =>
                have h1 := HI2.out
                have h2 := HJ.out
                have h3 := HT.out.1
                exact ⟨n + 1, by first | rfl | (rw [wr_in ((n : Int) + 1) (by omega)]; rfl), ⟨by omega⟩, ⟨Kd.C_below HO.out (pw_below_drewN HB3.out _)⟩, ⟨blk_drewN (blk_alloc HX2.out _) _⟩, ⟨pw_below_drewN (below_alloc HB2.out _) _⟩⟩
            · have d1 : decide ((n : Int) < (tcs.length : Int)) = false := decide_eq_false (by omega)
              have d1b : decide (n < tcs.length) = false := decide_eq_false c7
              clear c7
              go_wp2
              go_roundg (gk1 - 1)
              case measure => have h1 := HI.out; have h2 := H.out; have h9 := HGK.out; omega
              case rel =>
                have h1 := HI.out
                have h2 := H.out
                have h9 := HGK.out
                have h3 := HL.out.1
                exact ⟨i + 1, _, rfl, by first | rfl | (rw [wr_in ((i : Int) + 1) (by omega)]; rfl), ⟨by omega⟩, HW2, HX2, HB2⟩
        · rw [if_neg (fun h => h2 h.2)] at hw2
          subst hw2
          have h3 : (tn.toList == name.toList) = false := by simpa using h2
          clear h1 h2
          obtain ⟨gk1, hgk1⟩ : ∃ x, x = gk := ⟨_, rfl⟩
          have HGK := Aside0.mk hgk1
          clear hgk1
          have HY := Aside0.mk (blk_new wr (.cells #[.string tn, .slice A1 tcs.length k1, .int .u32 tr, .int .i64 tx, .int .i64 ty] 84))
          have HXa := Aside0.mk (blk_alloc HX.out (.cells #[.string tn, .slice A1 tcs.length k1, .int .u32 tr, .int .i64 tx, .int .i64 ty] 84))
          have HBa := Aside0.mk (below_alloc HB.out (.cells #[.string tn, .slice A1 tcs.length k1, .int .u32 tr, .int .i64 tx, .int .i64 ty] 84))
          have hy0 := (blk_cell HY.out 0).trans rfl
          have hy1 := (blk_cell HY.out 1).trans rfl
          have hy2 := (blk_cell HY.out 2).trans rfl
          have hy3 := (blk_cell HY.out 3).trans rfl
          have hy4 := (blk_cell HY.out 4).trans rfl
          go_wp2_with (go_at_call 28; (with_reducible refine (schema_Kinds.calls (tcs.length + 1) tn A1 k1 tcs tr tx ty (tcs.map (fun c => c.f1)) _ (Kd.C_below HT.out.2.2 HBa.out) HT.out.2.1 (kinds_f tn tcs tr tx ty (by have := HT.out.1; omega))).mono ?_); rintro en w8 ⟨v8, rfl, ho, hb⟩; clear hy0 hy1 hy2 hy3 hy4; obtain ⟨A8, c8, e8⟩ := Kd.R_slice ho; rw [List.length_map] at e8; subst e8; have HO8 := Aside0.mk (Kd.R_reads' ho).2.2; have HY8 := Aside0.mk (blk_below HY.out hb); have HX8 := Aside0.mk (blk_below HXa.out hb); have HB8 := Aside0.mk (below_then HBa.out HBa.out.size hb); clear ho hb; have hy1 := (blk_cell HY8.out 1).trans rfl)
          go_loopg [42] tcs.length (fun kq v42 w' => ∃ (n : Nat), v42 = .int .i64 (n : Int) ∧ Aside0 (kq + n = tcs.length) ∧ Aside0 (Kd.C (Kd.int .u8) w' A8 (tcs.map (fun c => c.f1)).length (tcs.map (fun c => c.f1))) ∧ Aside0 (w'.heap[w.heap.size]? = some (.cells #[.slice (some ad) T.length c, .slice A2 X.length c2] 80 (0, 0))) ∧ Aside0 (Below w.heap.size w w'))
          case atStart => exact ⟨0, rfl, ⟨by omega⟩, HO8, HX8, HB8⟩
          case round =>
            clear HO8 HX8 HB8 HY8 HXa HBa HY
            obtain ⟨n, rfl, HI2, HO, HX2, HB2⟩ := hrel
            by_cases c7 : n < tcs.length
            · have d1 : decide ((n : Int) < (tcs.length : Int)) = true := decide_eq_true (by omega)
              have d1b : decide (n < tcs.length) = true := decide_eq_true c7
              obtain ⟨ad7, e7, hz0, hz1, hz2, hz3⟩ := at_T87 HT.out.2.2 (n : Int) (by omega) (by omega)
              obtain ⟨ad8, e8, hk0⟩ := Kd.at_int HO.out (n : Int) (by omega) (by rw [List.length_map]; omega)
              subst e7 e8
              replace hz0 := (HB2.out.cell (World.block_lt_of_cell? w _ hz0)).trans hz0
              replace hz1 := (HB2.out.cell (World.block_lt_of_cell? w _ hz1)).trans hz1
              replace hz2 := (HB2.out.cell (World.block_lt_of_cell? w _ hz2)).trans hz2
              replace hz3 := (HB2.out.cell (World.block_lt_of_cell? w _ hz3)).trans hz3
              have hrd : rd (tcs.map (fun c => c.f1)) (n : Int) = (rd_T87 tcs (n : Int)).f1 := by
                rw [rd, rd_T87, Int.toNat_natCast, List.getD_eq_getElem?_getD, List.getD_eq_getElem?_getD, List.getElem?_map, List.getElem?_eq_getElem c7]
                rfl
              rw [hrd] at hk0
              rw [Int.toNat_natCast] at hz0 hz1 hz2 hz3 hk0
              obtain ⟨q, hq⟩ : ∃ q, q = rd_T87 tcs (n : Int) := ⟨_, rfl⟩
              rw [← hq] at hz0 hz1 hz2 hz3 hk0
              obtain ⟨q0, q1, q2, q3⟩ := q
              simp only at hz0 hz1 hz2 hz3 hk0
              have HB3 := Aside0.mk (below_alloc (Below.refl wr.heap.size wr) (.cells #[.string q0, .int .u8 q1, .int .i64 q2, .int .i64 q3] 87))
              have HV3 := Aside0.mk (blk_new wr (.cells #[.string q0, .int .u8 q1, .int .i64 q2, .int .i64 q3] 87))
              have hk1' := (HB3.out.cell (World.block_lt_of_cell? _ _ hk0)).trans hk0
              have hv1 := (blk_cell HV3.out 1).trans rfl
              have p7 : (0 ≤ (n : Int)) = True := eq_true (by omega)
              have q7 : ((n : Int) < (tcs.length : Int)) = True := eq_true (by omega)
              have q7b : (n < tcs.length) = True := eq_true c7
              have HJ := Aside0.mk c7
              clear c7 hq hrd
              go_wp2
              go_quiet (fail)
              go_wp2
              go_roundg (gk - 1)
              case measure => have h1 := HI2.out; have h2 := HJ.out; omega
              case rel =>
                have h1 := HI2.out
                have h2 := HJ.out
                have h3 := HT.out.1
                exact ⟨n + 1, by first | rfl | (rw [wr_in ((n : Int) + 1) (by omega)]; rfl), ⟨by omega⟩, ⟨Kd.C_below HO.out (pw_below_drewN HB3.out _)⟩, ⟨blk_drewN (blk_alloc HX2.out _) _⟩, ⟨pw_below_drewN (below_alloc HB2.out _) _⟩⟩
            · have d1 : decide ((n : Int) < (tcs.length : Int)) = false := decide_eq_false (by omega)
              have d1b : decide (n < tcs.length) = false := decide_eq_false c7
              clear c7
              go_wp2
              go_roundg (gk1 - 1)
              case measure => have h1 := HI.out; have h2 := H.out; have h9 := HGK.out; omega
              case rel =>
                have h1 := HI.out
                have h2 := H.out
                have h9 := HGK.out
                have h3 := HL.out.1
                exact ⟨i + 1, _, rfl, by first | rfl | (rw [wr_in ((i : Int) + 1) (by omega)]; rfl), ⟨by omega⟩, HW2, HX2, HB2⟩
      · have d5 : decide (want < 0) = false := decide_eq_false h1
        rw [if_neg (fun h => h1 h.1)] at hw2
        subst hw2
        clear h1
        obtain ⟨gk1, hgk1⟩ : ∃ x, x = gk := ⟨_, rfl⟩
        have HGK := Aside0.mk hgk1
        clear hgk1
        have HY := Aside0.mk (blk_new wr (.cells #[.string tn, .slice A1 tcs.length k1, .int .u32 tr, .int .i64 tx, .int .i64 ty] 84))
        have HXa := Aside0.mk (blk_alloc HX.out (.cells #[.string tn, .slice A1 tcs.length k1, .int .u32 tr, .int .i64 tx, .int .i64 ty] 84))
        have HBa := Aside0.mk (below_alloc HB.out (.cells #[.string tn, .slice A1 tcs.length k1, .int .u32 tr, .int .i64 tx, .int .i64 ty] 84))
        have hy0 := (blk_cell HY.out 0).trans rfl
        have hy1 := (blk_cell HY.out 1).trans rfl
        have hy2 := (blk_cell HY.out 2).trans rfl
        have hy3 := (blk_cell HY.out 3).trans rfl
        have hy4 := (blk_cell HY.out 4).trans rfl
        go_wp2_with (go_at_call 28; (with_reducible refine (schema_Kinds.calls (tcs.length + 1) tn A1 k1 tcs tr tx ty (tcs.map (fun c => c.f1)) _ (Kd.C_below HT.out.2.2 HBa.out) HT.out.2.1 (kinds_f tn tcs tr tx ty (by have := HT.out.1; omega))).mono ?_); rintro en w8 ⟨v8, rfl, ho, hb⟩; clear hy0 hy1 hy2 hy3 hy4; obtain ⟨A8, c8, e8⟩ := Kd.R_slice ho; rw [List.length_map] at e8; subst e8; have HO8 := Aside0.mk (Kd.R_reads' ho).2.2; have HY8 := Aside0.mk (blk_below HY.out hb); have HX8 := Aside0.mk (blk_below HXa.out hb); have HB8 := Aside0.mk (below_then HBa.out HBa.out.size hb); clear ho hb; have hy1 := (blk_cell HY8.out 1).trans rfl)
        go_loopg [42] tcs.length (fun kq v42 w' => ∃ (n : Nat), v42 = .int .i64 (n : Int) ∧ Aside0 (kq + n = tcs.length) ∧ Aside0 (Kd.C (Kd.int .u8) w' A8 (tcs.map (fun c => c.f1)).length (tcs.map (fun c => c.f1))) ∧ Aside0 (w'.heap[w.heap.size]? = some (.cells #[.slice (some ad) T.length c, .slice A2 X.length c2] 80 (0, 0))) ∧ Aside0 (Below w.heap.size w w'))
        case atStart => exact ⟨0, rfl, ⟨by omega⟩, HO8, HX8, HB8⟩
        case round =>
          clear HO8 HX8 HB8 HY8 HXa HBa HY
          obtain ⟨n, rfl, HI2, HO, HX2, HB2⟩ := hrel
          by_cases c7 : n < tcs.length
          · have d1 : decide ((n : Int) < (tcs.length : Int)) = true := decide_eq_true (by omega)
            have d1b : decide (n < tcs.length) = true := decide_eq_true c7
            obtain ⟨ad7, e7, hz0, hz1, hz2, hz3⟩ := at_T87 HT.out.2.2 (n : Int) (by omega) (by omega)
            obtain ⟨ad8, e8, hk0⟩ := Kd.at_int HO.out (n : Int) (by omega) (by rw [List.length_map]; omega)
            subst e7 e8
            replace hz0 := (HB2.out.cell (World.block_lt_of_cell? w _ hz0)).trans hz0
            replace hz1 := (HB2.out.cell (World.block_lt_of_cell? w _ hz1)).trans hz1
            replace hz2 := (HB2.out.cell (World.block_lt_of_cell? w _ hz2)).trans hz2
            replace hz3 := (HB2.out.cell (World.block_lt_of_cell? w _ hz3)).trans hz3
            have hrd : rd (tcs.map (fun c => c.f1)) (n : Int) = (rd_T87 tcs (n : Int)).f1 := by
              rw [rd, rd_T87, Int.toNat_natCast, List.getD_eq_getElem?_getD, List.getD_eq_getElem?_getD, List.getElem?_map, List.getElem?_eq_getElem c7]
              rfl
            rw [hrd] at hk0
            rw [Int.toNat_natCast] at hz0 hz1 hz2 hz3 hk0
            obtain ⟨q, hq⟩ : ∃ q, q = rd_T87 tcs (n : Int) := ⟨_, rfl⟩
            rw [← hq] at hz0 hz1 hz2 hz3 hk0
            obtain ⟨q0, q1, q2, q3⟩ := q
            simp only at hz0 hz1 hz2 hz3 hk0
            have HB3 := Aside0.mk (below_alloc (Below.refl wr.heap.size wr) (.cells #[.string q0, .int .u8 q1, .int .i64 q2, .int .i64 q3] 87))
            have HV3 := Aside0.mk (blk_new wr (.cells #[.string q0, .int .u8 q1, .int .i64 q2, .int .i64 q3] 87))
            have hk1' := (HB3.out.cell (World.block_lt_of_cell? _ _ hk0)).trans hk0
            have hv1 := (blk_cell HV3.out 1).trans rfl
            have p7 : (0 ≤ (n : Int)) = True := eq_true (by omega)
            have q7 : ((n : Int) < (tcs.length : Int)) = True := eq_true (by omega)
            have q7b : (n < tcs.length) = True := eq_true c7
            have HJ := Aside0.mk c7
            clear c7 hq hrd
            go_wp2
            go_quiet (fail)
            go_wp2
            go_roundg (gk - 1)
            case measure => have h1 := HI2.out; have h2 := HJ.out; omega
            case rel =>
              have h1 := HI2.out
              have h2 := HJ.out
              have h3 := HT.out.1
              exact ⟨n + 1, by first | rfl | (rw [wr_in ((n : Int) + 1) (by omega)]; rfl), ⟨by omega⟩, ⟨Kd.C_below HO.out (pw_below_drewN HB3.out _)⟩, ⟨blk_drewN (blk_alloc HX2.out _) _⟩, ⟨pw_below_drewN (below_alloc HB2.out _) _⟩⟩
          · have d1 : decide ((n : Int) < (tcs.length : Int)) = false := decide_eq_false (by omega)
            have d1b : decide (n < tcs.length) = false := decide_eq_false c7
            clear c7
            go_wp2
            go_roundg (gk1 - 1)
            case measure => have h1 := HI.out; have h2 := H.out; have h9 := HGK.out; omega
            case rel =>
              have h1 := HI.out
              have h2 := H.out
              have h9 := HGK.out
              have h3 := HL.out.1
              exact ⟨i + 1, _, rfl, by first | rfl | (rw [wr_in ((i : Int) + 1) (by omega)]; rfl), ⟨by omega⟩, HW2, HX2, HB2⟩
    · have c1 : decide ((i : Int) < (T.length : Int)) = false := decide_eq_false (by omega)
      have c1b : decide (i < T.length) = false := decide_eq_false c5
      have hres : ix name T 0 = want := by
        rcases HW.out with ⟨h1, h2, h3⟩ | ⟨h1, h2⟩
        · rw [List.drop_of_length_le (by omega), ix] at h3
          rw [h2, ← h3]
        · exact h2
      have HR := Aside0.mk hres
      have hb0 : ∀ W : World, Below wr.heap.size wr W → W.cell? ⟨w.heap.size, 0, none⟩ = some (.slice A T.length c) := fun W hW => (blk_cell (blk_below HX.out hW) 0).trans rfl
      clear c5 hres
      go_wp2_with (first
        | (go_at_call 27; (with_reducible refine (fixed_ok _).mono ?_); rintro en w3 ⟨rfl, hb⟩; have HX3 := Aside0.mk (blk_below HX.out hb); have HB3 := Aside0.mk (below_then HB.out HB.out.size hb); clear hb hb0; have hx0 := (blk_cell HX3.out 0).trans rfl; have hx1 := (blk_cell HX3.out 1).trans rfl)
        | (go_at_call 29; (with_reducible refine (find_ok _ name A c T A2 X.length c2 HL.out.1 (Kd.C_below HC.out.1 HB3.out)).mono ?_); rintro en w4 ⟨rfl, hb⟩; clear hx0 hx1; have HB4 := Aside0.mk (below_then HB3.out HB3.out.size hb); clear hb))
      go_ret
      exact ⟨by rw [HR.out]; simp, HB4.out⟩
end Go.Proofs.Ytpfegfkniilobaa.Sch
