/- The reference's Fill, walked. Conditions: the disk's rows are known, the records are none of them. (printed by wip/r4/h/genrf.py) -/
import Derived.Test.YtpfegfkniilobaaHpH
namespace Go.Proofs.Ytpfegfkniilobaa.Hp
open Go.RowKit Go.Proofs.YtpfegfkniilobaaW.PrintWords Go.Proofs.YtpfegfkniilobaaW.PrintLast Go.Proofs.YtpfegfkniilobaaW.PrintMore Go.Proofs.Ytpfegfkniilobaa.Byt Go.Proofs.Ytpfegfkniilobaa.Dsk Go.Proofs.Ytpfegfkniilobaa.XHeap
open Go.Proofs.Ytpfegfkniilobaa.PureSl (room Ok txt)
set_option linter.unusedVariables false
set_option linter.unusedSimpArgs false
set_option maxRecDepth 100000
theorem txt_rd (l : List (List Int)) (i : Int) : rdOf ByteArray.empty (txt l) i = strOfNums (rd_L1 l i) := PureSl.txt_at l i.toNat ▸ rfl
theorem F_at {w W' : World} {okr S : Nat → Prop} {A : Option Addr} {n : Nat} {l : List ByteArray} (h : Kd.F Kd.string w okr A n l) (hk : Kept w W' S) (hok : ∀ k, okr k → ¬ S k) : Kd.C Kd.string W' A n l := Kd.F_now (Kd.F_kept h hk hok)
/-- What is behind a written row of places. -/
theorem Hv.places {w0 W W1 : World} {v0 v1 v5 v6 u6 : Value} {P R : List ByteArray} {T : List Bool} {O O' : List S50} (h : Hv w0 W v0 v1 v5 v6 P T R O) (hg : W.grownBy W1 v6.ownBlock) (h6 : Kd.R k50 50 W1 w0.heap.size (fun _ => True) u6 O') : Hv w0 W1 v0 v1 v5 u6 P T R O' :=
  ⟨Kd.R_over h.r0 h.r6 (by decide) hg, Kd.R_over h.r1 h.r6 (by decide) hg, Kd.R_over h.r5 h.r6 (by decide) hg, h6, h.ap⟩
/-- Another row of records. -/
theorem Hv.recs {w0 W : World} {v0 v1 v5 v6 u5 : Value} {P R R' : List ByteArray} {T : List Bool} {O : List S50} (h : Hv w0 W v0 v1 v5 v6 P T R O) (h5 : Kd.R Kd.string 9 W w0.heap.size (fun _ => True) u5 R') (ha : ∀ k, u5.ownBlock = some k → v0.ownBlock ≠ some k) : Hv w0 W v0 v1 u5 v6 P T R' O :=
  ⟨h.r0, h.r1, h5, h.r6, fun k h0 h5 => ha k h5 h0⟩
theorem Hv.grown {w0 W W1 : World} {v0 v1 v5 v6 : Value} {P R : List ByteArray} {T : List Bool} {O : List S50} {row : Option Nat} (h : Hv w0 W v0 v1 v5 v6 P T R O) (hg : W.grownBy W1 row) (hr : ∀ k, row = some k → ¬ Sv v0 v1 v5 v6 k) : Hv w0 W1 v0 v1 v5 v6 P T R O :=
  ⟨Kd.R_grown2 h.r0 rfl hg (fun k hk e => hr k hk (.inl e)), Kd.R_grown2 h.r1 rfl hg (fun k hk e => hr k hk (.inr (.inl e))), Kd.R_grown2 h.r5 rfl hg (fun k hk e => hr k hk (.inr (.inr (.inl e)))), Kd.R_grown2 h.r6 rfl hg (fun k hk e => hr k hk (.inr (.inr (.inr e)))), h.ap⟩
theorem Hv.lt {w0 W : World} {v0 v1 v5 v6 : Value} {P R : List ByteArray} {T : List Bool} {O : List S50} (h : Hv w0 W v0 v1 v5 v6 P T R O) {k : Nat} (hk : Sv v0 v1 v5 v6 k) : k < W.heap.size := by
  rcases hk with e | e | e | e
  · exact own_lt h.r0 e.symm
  · exact own_lt h.r1 e.symm
  · exact own_lt h.r5 e.symm
  · exact own_lt h.r6 e.symm
/-- What the reference's Fill leaves. -/
def Rp (w0 w : World) (S0 : Nat → Prop) (n : Nat) (E : Int) (D : List Int) (T : List Bool) (F : Int) (O : List S50) (e : Ending) (w' : World) : Prop :=
  ∃ B0 m0 e0 B1 m1 e1 x2 x3 x4 B5 m5 e5 B6 m6 e6 x7, e = .returned (.tuple #[.agg #[.slice B0 m0 e0, .slice B1 m1 e1, .int .u32 x2, .int .u32 x3, .int .u32 x4, .slice B5 m5 e5, .slice B6 m6 e6, .bool x7], .int .i64 E]) ∧ Kd.R Kd.string 9 w' w0.heap.size (fun _ => True) (.slice B0 m0 e0) (pgs D n) ∧ Kd.R Kd.bool 4 w' w0.heap.size (fun _ => True) (.slice B1 m1 e1) T ∧ Kd.R k50 50 w' w0.heap.size (fun _ => True) (.slice B6 m6 e6) O ∧ (E = 0 → x2 = F) ∧ Below w0.heap.size w0 w' ∧ Kept w w' S0 ∧ (∀ k, Sv (.slice B0 m0 e0) (.slice B1 m1 e1) (.slice none 0 0) (.slice B6 m6 e6) k → S0 k ∨ w.heap.size ≤ k)
theorem s0_okr {d : List Int} {t : List Bool} (h : d.length = 512 * t.length ∧ 0 < t.length ∧ t.length ≤ 4096 ∧ By d) : SOk (s0_ d t) := ⟨PureSl.ok_nil 0 (by omega), ⟨by show (0 : Int) ≤ 0; omega, by show (0 : Int) < 4294967296; omega⟩, h.1, ⟨h.2.1, h.2.2.1⟩, h.2.2.2⟩
section
variable {w0 w : World} {d : List Int} {t : List Bool} {n : Nat} {A0 A1 AL : Option Addr} {n0 c0 c1 cL : Nat} {okr : Nat → Prop}
set_option maxHeartbeats 8000000 in
theorem rfill_bad (l : List (List Int)) (hB : Below w0.heap.size w0 w) (h0 : Kd.R Kd.string 9 w w0.heap.size (fun _ => True) (.slice A0 n0 c0) (pgs d n)) (h1 : Kd.R Kd.bool 4 w w0.heap.size (fun _ => True) (.slice A1 t.length c1) t) (hn : t.length = n) (hF : Kd.F Kd.string w okr AL l.length (txt l)) (hokr : ∀ k, okr k → ¬ Sv (.slice A0 n0 c0) (.slice A1 t.length c1) (.slice none 0 0) (.slice none 0 0) k) (hl : l.length ≤ 100000) (hg : l.any badR = true) :
    Calls Try.prog 15 #[.agg #[.slice A0 n0 c0, .slice A1 t.length c1], .slice AL l.length cL] w fun e w' => Rp w0 w (Sv (.slice A0 n0 c0) (.slice A1 t.length c1) (.slice none 0 0) (.slice none 0 0)) n (1) (d) (t) (0) ([]) e w' := by
  have HG := Aside0.mk hg
  have HNT := Aside0.mk hn
  clear hg hn
  have HH := Aside0.mk (((show Hv w0 w (.slice A0 n0 c0) (.slice A1 t.length c1) (.slice none 0 0) (.slice none 0 0) (pgs d n) t [] [] from ⟨h0, h1, Kd.R_nil _ _ _ _ _, Kd.R_nil _ _ _ _ _, fun _ _ h => by cases h⟩).alloc (.cells #[.slice A0 n0 c0, .slice A1 t.length c1] 32)).alloc (.cells #[(.slice none 0 0), (.slice none 0 0), (.int .u32 0), (.int .u32 0), (.int .u32 0), (.slice none 0 0), (.slice none 0 0), (.bool false)] 43))
  have H2 := Aside0.mk (blk_alloc (blk_new w (.cells #[.slice A0 n0 c0, .slice A1 t.length c1] 32)) (.cells #[(.slice none 0 0), (.slice none 0 0), (.int .u32 0), (.int .u32 0), (.int .u32 0), (.slice none 0 0), (.slice none 0 0), (.bool false)] 43))
  have H4 := Aside0.mk (blk_new (w.alloc (.cells #[.slice A0 n0 c0, .slice A1 t.length c1] 32)) (.cells #[(.slice none 0 0), (.slice none 0 0), (.int .u32 0), (.int .u32 0), (.int .u32 0), (.slice none 0 0), (.slice none 0 0), (.bool false)] 43))
  rw [World.size_alloc] at H4
  have HB0 := Aside0.mk hB
  have HB := Aside0.mk (below_then hB hB.size (below_alloc (below_alloc (Below.refl w.heap.size w) (.cells #[.slice A0 n0 c0, .slice A1 t.length c1] 32)) (.cells #[(.slice none 0 0), (.slice none 0 0), (.int .u32 0), (.int .u32 0), (.int .u32 0), (.slice none 0 0), (.slice none 0 0), (.bool false)] 43)))
  have HK := Aside0.mk (((Kept.refl w (Sv (.slice A0 n0 c0) (.slice A1 t.length c1) (.slice none 0 0) (.slice none 0 0))).alloc (.cells #[.slice A0 n0 c0, .slice A1 t.length c1] 32)).alloc (.cells #[(.slice none 0 0), (.slice none 0 0), (.int .u32 0), (.int .u32 0), (.int .u32 0), (.slice none 0 0), (.slice none 0 0), (.bool false)] 43))
  have HF := Aside0.mk (And.intro hF hokr)
  have HL := Aside0.mk hl
  clear hF hokr hl h0 h1 hB
  go_enter Try.func15, Try.ntmps15
  go_upto_region 1 with fail
  generalize (w.alloc (.cells #[.slice A0 n0 c0, .slice A1 t.length c1] 32)).alloc (.cells #[(.slice none 0 0), (.slice none 0 0), (.int .u32 0), (.int .u32 0), (.int .u32 0), (.slice none 0 0), (.slice none 0 0), (.bool false)] 43) = W at HH H2 H4 HB HK ⊢
  generalize hg4 : w.heap.size + 1 = g4 at H4 ⊢
  obtain ⟨g2, hg2⟩ : ∃ g2, w.heap.size = g2 := ⟨_, rfl⟩
  have HLT := Aside0.mk (show w.heap.size ≤ g2 ∧ g2 < g4 by omega)
  rw [hg2] at H2
  simp only [hg2]
  clear hg2 hg4
  have pb0 := (blk_cell H2.out 0).trans rfl
  have pb1 := (blk_cell H2.out 1).trans rfl
  go_wp2
  go_loopg [15] l.length (fun kq v15 w' => ∃ i : Int, v15 = .int .i64 i ∧ Aside0 (0 ≤ i ∧ (kq : Int) + i = (l.length : Int)) ∧ Aside0 ((l.drop i.toNat).any badR = true) ∧ w' = W)
  case atStart => exact ⟨0, rfl, ⟨by omega⟩, HG, rfl⟩
  case round =>
    obtain ⟨i, rfl, HI, HN, hwr⟩ := hrel
    obtain rfl := hwr.symm
    by_cases c2 : i < (l.length : Int)
    · have c2b0 : decide (i < (l.length : Int)) = true := decide_eq_true c2
      obtain ⟨ad, e1, hx0⟩ := Kd.at_string (F_at HF.out.1 HK.out HF.out.2) i HI.out.1 c2
      subst e1
      rw [txt_rd] at hx0
      have p9 : (0 ≤ i) = True := eq_true HI.out.1
      have q9 : (i < (l.length : Int)) = True := eq_true c2
      have w2 : wrap64 (i + 1) = i + 1 := wr_in _ (by have := HI.out; have := HL.out; omega)
      have hn2 := HN.out
      rw [rd_drop l i HI.out.1 c2, List.any_cons, Bool.or_eq_true] at hn2
      generalize rd_L1 l i = r at hx0 hn2
      obtain ⟨q, hq⟩ : ∃ q, strOfNums r = q := ⟨_, rfl⟩
      have hqs : q.size = r.length := by rw [← hq]; exact str_size _
      rw [hq] at hx0
      clear hq
      have pc0 := (blk_cell H4.out 0).trans rfl
      have pc1 := (blk_cell H4.out 1).trans rfl
      have pc2 := (blk_cell H4.out 2).trans rfl
      have pc3 := (blk_cell H4.out 3).trans rfl
      have pc4 := (blk_cell H4.out 4).trans rfl
      have pc5 := (blk_cell H4.out 5).trans rfl
      have pc6 := (blk_cell H4.out 6).trans rfl
      have pc7 := (blk_cell H4.out 7).trans rfl
      have pcf0 := blk_frozen H4.out 0
      have pcf1 := blk_frozen H4.out 1
      have pcf2 := blk_frozen H4.out 2
      have pcf3 := blk_frozen H4.out 3
      have pcf4 := blk_frozen H4.out 4
      have pcf5 := blk_frozen H4.out 5
      have pcf6 := blk_frozen H4.out 6
      have pcf7 := blk_frozen H4.out 7
      have pcl := blk_lt H4.out
      by_cases h0 : r.length = 0
      · have e0 : ((q.size : Int) == 0) = true := beq_iff_eq.mpr (by omega)
        clear hn2 h0 c2 hqs
        go_wp2
        have q0 := H4
        have q1 := Aside0.mk (blk_put (cs' := #[(.slice A0 n0 c0), (.slice none 0 0), (.int .u32 0), (.int .u32 0), (.int .u32 0), (.slice none 0 0), (.slice none 0 0), (.bool false)]) q0.out 0 ((.slice A0 n0 c0)) rfl)
        have q2 := Aside0.mk (blk_put (cs' := #[(.slice A0 n0 c0), (.slice A1 t.length c1), (.int .u32 0), (.int .u32 0), (.int .u32 0), (.slice none 0 0), (.slice none 0 0), (.bool false)]) q1.out 1 ((.slice A1 t.length c1)) rfl)
        have q3 := Aside0.mk (blk_put (cs' := #[(.slice A0 n0 c0), (.slice A1 t.length c1), (.int .u32 0), (.int .u32 0), (.int .u32 0), (.slice none 0 0), (.slice none 0 0), (.bool false)]) q2.out 2 ((.int .u32 0)) rfl)
        have q4 := Aside0.mk (blk_put (cs' := #[(.slice A0 n0 c0), (.slice A1 t.length c1), (.int .u32 0), (.int .u32 0), (.int .u32 0), (.slice none 0 0), (.slice none 0 0), (.bool false)]) q3.out 3 ((.int .u32 0)) rfl)
        have q5 := Aside0.mk (blk_put (cs' := #[(.slice A0 n0 c0), (.slice A1 t.length c1), (.int .u32 0), (.int .u32 0), (.int .u32 0), (.slice none 0 0), (.slice none 0 0), (.bool false)]) q4.out 4 ((.int .u32 0)) rfl)
        have q6 := Aside0.mk (blk_put (cs' := #[(.slice A0 n0 c0), (.slice A1 t.length c1), (.int .u32 0), (.int .u32 0), (.int .u32 0), (.slice none 0 0), (.slice none 0 0), (.bool false)]) q5.out 5 ((.slice none 0 0)) rfl)
        have q7 := Aside0.mk (blk_put (cs' := #[(.slice A0 n0 c0), (.slice A1 t.length c1), (.int .u32 0), (.int .u32 0), (.int .u32 0), (.slice none 0 0), (.slice none 0 0), (.bool false)]) q6.out 6 ((.slice none 0 0)) rfl)
        have q8 := Aside0.mk (blk_put (cs' := #[(.slice A0 n0 c0), (.slice A1 t.length c1), (.int .u32 0), (.int .u32 0), (.int .u32 0), (.slice none 0 0), (.slice none 0 0), (.bool false)]) q7.out 7 ((.bool false)) rfl)
        have hgb : w0.heap.size ≤ g4 := by have h1 := HLT.out; have h2 := HB0.out.size; omega
        have hgw : w.heap.size ≤ g4 := by have h1 := HLT.out; omega
        have HX := Aside0.mk (Hv.set (Hv.set (Hv.set (Hv.set (Hv.set (Hv.set (Hv.set (Hv.set HH.out q0.out (by decide) 0 ((.slice A0 n0 c0))) q1.out (by decide) 1 ((.slice A1 t.length c1))) q2.out (by decide) 2 ((.int .u32 0))) q3.out (by decide) 3 ((.int .u32 0))) q4.out (by decide) 4 ((.int .u32 0))) q5.out (by decide) 5 ((.slice none 0 0))) q6.out (by decide) 6 ((.slice none 0 0))) q7.out (by decide) 7 ((.bool false)))
        refine bodyPost_ret (results_cell1 rfl _ _ g4 43 #[(.slice A0 n0 c0), (.slice A1 t.length c1), (.int .u32 0), (.int .u32 0), (.int .u32 0), (.slice none 0 0), (.slice none 0 0), (.bool false)] (0, 0) _ rfl q8.out Try.underlying43 rfl (by kernel_rfl)) rfl ?_
        unfold Rp
        exact ⟨_, _, _, _, _, _, _, _, _, _, _, _, _, _, _, _, rfl, HX.out.r0, HX.out.r1, HX.out.r6, (fun h => by cases h), (below_set0 (below_set0 (below_set0 (below_set0 (below_set0 (below_set0 (below_set0 (below_set0 HB.out hgb) hgb) hgb) hgb) hgb) hgb) hgb) hgb), (Kept.setCell (Kept.setCell (Kept.setCell (Kept.setCell (Kept.setCell (Kept.setCell (Kept.setCell (Kept.setCell HK.out (.inr hgw) _) (.inr hgw) _) (.inr hgw) _) (.inr hgw) _) (.inr hgw) _) (.inr hgw) _) (.inr hgw) _) (.inr hgw) _), (fun k h => .inl (h.imp id (fun h => h.imp id (fun h => h.imp id id))))⟩
      · have e0 : ((q.size : Int) == 0) = false := beq_eq_false_iff_ne.mpr (by omega)
        by_cases h5 : 500 < r.length
        · have e5 : decide (500 < (q.size : Int)) = true := decide_eq_true (by omega)
          have e6 : decide (500 < q.size) = true := decide_eq_true (by omega)
          clear hn2 h0 h5 c2 hqs
          go_wp2
          have q0 := H4
          have q1 := Aside0.mk (blk_put (cs' := #[(.slice A0 n0 c0), (.slice none 0 0), (.int .u32 0), (.int .u32 0), (.int .u32 0), (.slice none 0 0), (.slice none 0 0), (.bool false)]) q0.out 0 ((.slice A0 n0 c0)) rfl)
          have q2 := Aside0.mk (blk_put (cs' := #[(.slice A0 n0 c0), (.slice A1 t.length c1), (.int .u32 0), (.int .u32 0), (.int .u32 0), (.slice none 0 0), (.slice none 0 0), (.bool false)]) q1.out 1 ((.slice A1 t.length c1)) rfl)
          have q3 := Aside0.mk (blk_put (cs' := #[(.slice A0 n0 c0), (.slice A1 t.length c1), (.int .u32 0), (.int .u32 0), (.int .u32 0), (.slice none 0 0), (.slice none 0 0), (.bool false)]) q2.out 2 ((.int .u32 0)) rfl)
          have q4 := Aside0.mk (blk_put (cs' := #[(.slice A0 n0 c0), (.slice A1 t.length c1), (.int .u32 0), (.int .u32 0), (.int .u32 0), (.slice none 0 0), (.slice none 0 0), (.bool false)]) q3.out 3 ((.int .u32 0)) rfl)
          have q5 := Aside0.mk (blk_put (cs' := #[(.slice A0 n0 c0), (.slice A1 t.length c1), (.int .u32 0), (.int .u32 0), (.int .u32 0), (.slice none 0 0), (.slice none 0 0), (.bool false)]) q4.out 4 ((.int .u32 0)) rfl)
          have q6 := Aside0.mk (blk_put (cs' := #[(.slice A0 n0 c0), (.slice A1 t.length c1), (.int .u32 0), (.int .u32 0), (.int .u32 0), (.slice none 0 0), (.slice none 0 0), (.bool false)]) q5.out 5 ((.slice none 0 0)) rfl)
          have q7 := Aside0.mk (blk_put (cs' := #[(.slice A0 n0 c0), (.slice A1 t.length c1), (.int .u32 0), (.int .u32 0), (.int .u32 0), (.slice none 0 0), (.slice none 0 0), (.bool false)]) q6.out 6 ((.slice none 0 0)) rfl)
          have q8 := Aside0.mk (blk_put (cs' := #[(.slice A0 n0 c0), (.slice A1 t.length c1), (.int .u32 0), (.int .u32 0), (.int .u32 0), (.slice none 0 0), (.slice none 0 0), (.bool false)]) q7.out 7 ((.bool false)) rfl)
          have hgb : w0.heap.size ≤ g4 := by have h1 := HLT.out; have h2 := HB0.out.size; omega
          have hgw : w.heap.size ≤ g4 := by have h1 := HLT.out; omega
          have HX := Aside0.mk (Hv.set (Hv.set (Hv.set (Hv.set (Hv.set (Hv.set (Hv.set (Hv.set HH.out q0.out (by decide) 0 ((.slice A0 n0 c0))) q1.out (by decide) 1 ((.slice A1 t.length c1))) q2.out (by decide) 2 ((.int .u32 0))) q3.out (by decide) 3 ((.int .u32 0))) q4.out (by decide) 4 ((.int .u32 0))) q5.out (by decide) 5 ((.slice none 0 0))) q6.out (by decide) 6 ((.slice none 0 0))) q7.out (by decide) 7 ((.bool false)))
          refine bodyPost_ret (results_cell1 rfl _ _ g4 43 #[(.slice A0 n0 c0), (.slice A1 t.length c1), (.int .u32 0), (.int .u32 0), (.int .u32 0), (.slice none 0 0), (.slice none 0 0), (.bool false)] (0, 0) _ rfl q8.out Try.underlying43 rfl (by kernel_rfl)) rfl ?_
          unfold Rp
          exact ⟨_, _, _, _, _, _, _, _, _, _, _, _, _, _, _, _, rfl, HX.out.r0, HX.out.r1, HX.out.r6, (fun h => by cases h), (below_set0 (below_set0 (below_set0 (below_set0 (below_set0 (below_set0 (below_set0 (below_set0 HB.out hgb) hgb) hgb) hgb) hgb) hgb) hgb) hgb), (Kept.setCell (Kept.setCell (Kept.setCell (Kept.setCell (Kept.setCell (Kept.setCell (Kept.setCell (Kept.setCell HK.out (.inr hgw) _) (.inr hgw) _) (.inr hgw) _) (.inr hgw) _) (.inr hgw) _) (.inr hgw) _) (.inr hgw) _) (.inr hgw) _), (fun k h => .inl (h.imp id (fun h => h.imp id (fun h => h.imp id id))))⟩
        · have e5 : decide (500 < (q.size : Int)) = false := decide_eq_false (by omega)
          have e6 : decide (500 < q.size) = false := decide_eq_false (by omega)
          have hn3 := hn2.resolve_left (fun h => by rw [badR_false.mpr ⟨by omega, by omega⟩] at h; cases h)
          have HN2 := Aside0.mk hn3
          have HC2 := Aside0.mk c2
          clear hn2 hn3 h0 h5 c2 hqs
          clear pc0 pcf0 pc1 pcf1 pc2 pcf2 pc3 pcf3 pc4 pcf4 pc5 pcf5 pc6 pcf6 pc7 pcf7 pcl
          go_wp2
          go_roundg (gk - 1)
          case measure => have h1 := HI.out; have h2 := HC2.out; omega
          case rel =>
            have h1 := HI.out
            have h2 := HC2.out
            exact ⟨i + 1, by first | rfl | rw [w2], ⟨by omega⟩, HN2, rfl⟩
    · have c2b0 : decide (i < (l.length : Int)) = false := decide_eq_false c2
      have hn2 := HN.out
      rw [List.drop_of_length_le (by have := HI.out; omega)] at hn2
      cases hn2
set_option maxHeartbeats 8000000 in
theorem rfill_none (l : List (List Int)) (hB : Below w0.heap.size w0 w) (h0 : Kd.R Kd.string 9 w w0.heap.size (fun _ => True) (.slice A0 n0 c0) (pgs d n)) (h1 : Kd.R Kd.bool 4 w w0.heap.size (fun _ => True) (.slice A1 t.length c1) t) (hn : t.length = n) (hF : Kd.F Kd.string w okr AL l.length (txt l)) (hokr : ∀ k, okr k → ¬ Sv (.slice A0 n0 c0) (.slice A1 t.length c1) (.slice none 0 0) (.slice none 0 0) k) (hl : l.length ≤ 100000) (hp_ : d.length = 512 * t.length ∧ 0 < t.length ∧ t.length ≤ 4096 ∧ By d) (hg : l.any badR = false) (T : Int × St) (hT : nextS (s0_ d t) = T) (hz : T.1 ≠ 0) :
    Calls Try.prog 15 #[.agg #[.slice A0 n0 c0, .slice A1 t.length c1], .slice AL l.length cL] w fun e w' => Rp w0 w (Sv (.slice A0 n0 c0) (.slice A1 t.length c1) (.slice none 0 0) (.slice none 0 0)) n (T.1) (T.2.d) (T.2.t) (T.2.first) ([]) e w' := by
  have HG := Aside0.mk (show ∀ r ∈ l, badR r = false by simpa using hg)
  clear hg
  have HP := Aside0.mk hp_
  have HNT := Aside0.mk hn
  clear hp_ hn
  have HTT := Aside0.mk hT
  clear hT
  have HZ := Aside0.mk hz
  clear hz
  have HH := Aside0.mk (((show Hv w0 w (.slice A0 n0 c0) (.slice A1 t.length c1) (.slice none 0 0) (.slice none 0 0) (pgs d n) t [] [] from ⟨h0, h1, Kd.R_nil _ _ _ _ _, Kd.R_nil _ _ _ _ _, fun _ _ h => by cases h⟩).alloc (.cells #[.slice A0 n0 c0, .slice A1 t.length c1] 32)).alloc (.cells #[(.slice none 0 0), (.slice none 0 0), (.int .u32 0), (.int .u32 0), (.int .u32 0), (.slice none 0 0), (.slice none 0 0), (.bool false)] 43))
  have H2 := Aside0.mk (blk_alloc (blk_new w (.cells #[.slice A0 n0 c0, .slice A1 t.length c1] 32)) (.cells #[(.slice none 0 0), (.slice none 0 0), (.int .u32 0), (.int .u32 0), (.int .u32 0), (.slice none 0 0), (.slice none 0 0), (.bool false)] 43))
  have H4 := Aside0.mk (blk_new (w.alloc (.cells #[.slice A0 n0 c0, .slice A1 t.length c1] 32)) (.cells #[(.slice none 0 0), (.slice none 0 0), (.int .u32 0), (.int .u32 0), (.int .u32 0), (.slice none 0 0), (.slice none 0 0), (.bool false)] 43))
  rw [World.size_alloc] at H4
  have HB0 := Aside0.mk hB
  have HB := Aside0.mk (below_then hB hB.size (below_alloc (below_alloc (Below.refl w.heap.size w) (.cells #[.slice A0 n0 c0, .slice A1 t.length c1] 32)) (.cells #[(.slice none 0 0), (.slice none 0 0), (.int .u32 0), (.int .u32 0), (.int .u32 0), (.slice none 0 0), (.slice none 0 0), (.bool false)] 43)))
  have HK := Aside0.mk (((Kept.refl w (Sv (.slice A0 n0 c0) (.slice A1 t.length c1) (.slice none 0 0) (.slice none 0 0))).alloc (.cells #[.slice A0 n0 c0, .slice A1 t.length c1] 32)).alloc (.cells #[(.slice none 0 0), (.slice none 0 0), (.int .u32 0), (.int .u32 0), (.int .u32 0), (.slice none 0 0), (.slice none 0 0), (.bool false)] 43))
  have HF := Aside0.mk (And.intro hF hokr)
  have HL := Aside0.mk hl
  clear hF hokr hl h0 h1 hB
  go_enter Try.func15, Try.ntmps15
  go_upto_region 1 with fail
  generalize (w.alloc (.cells #[.slice A0 n0 c0, .slice A1 t.length c1] 32)).alloc (.cells #[(.slice none 0 0), (.slice none 0 0), (.int .u32 0), (.int .u32 0), (.int .u32 0), (.slice none 0 0), (.slice none 0 0), (.bool false)] 43) = W at HH H2 H4 HB HK ⊢
  generalize hg4 : w.heap.size + 1 = g4 at H4 ⊢
  obtain ⟨g2, hg2⟩ : ∃ g2, w.heap.size = g2 := ⟨_, rfl⟩
  have HLT := Aside0.mk (show w.heap.size ≤ g2 ∧ g2 < g4 by omega)
  rw [hg2] at H2
  simp only [hg2]
  clear hg2 hg4
  have pb0 := (blk_cell H2.out 0).trans rfl
  have pb1 := (blk_cell H2.out 1).trans rfl
  go_wp2
  go_loopg [15] l.length (fun kq v15 w' => ∃ i : Int, v15 = .int .i64 i ∧ Aside0 (0 ≤ i ∧ (kq : Int) + i = (l.length : Int)) ∧  w' = W)
  case atStart => exact ⟨0, rfl, ⟨by omega⟩,  rfl⟩
  case round =>
    obtain ⟨i, rfl, HI,  hwr⟩ := hrel
    obtain rfl := hwr.symm
    by_cases c2 : i < (l.length : Int)
    · have c2b0 : decide (i < (l.length : Int)) = true := decide_eq_true c2
      obtain ⟨ad, e1, hx0⟩ := Kd.at_string (F_at HF.out.1 HK.out HF.out.2) i HI.out.1 c2
      subst e1
      rw [txt_rd] at hx0
      have p9 : (0 ≤ i) = True := eq_true HI.out.1
      have q9 : (i < (l.length : Int)) = True := eq_true c2
      have w2 : wrap64 (i + 1) = i + 1 := wr_in _ (by have := HI.out; have := HL.out; omega)
      have hg := badR_false.mp (HG.out _ (rd_mem l i HI.out.1 c2))
      generalize rd_L1 l i = r at hx0 hg
      obtain ⟨q, hq⟩ : ∃ q, strOfNums r = q := ⟨_, rfl⟩
      have hqs : q.size = r.length := by rw [← hq]; exact str_size _
      rw [hq] at hx0
      have e0 : ((q.size : Int) == 0) = false := beq_eq_false_iff_ne.mpr (by omega)
      have e5 : decide (500 < (q.size : Int)) = false := decide_eq_false (by omega)
      have e6 : decide (500 < q.size) = false := decide_eq_false (by omega)
      have HC2 := Aside0.mk c2
      clear hq hqs hg c2
      go_wp2
      go_roundg (gk - 1)
      case measure => have h1 := HI.out; have h2 := HC2.out; omega
      case rel =>
        have h1 := HI.out
        have h2 := HC2.out
        exact ⟨i + 1, by first | rfl | rw [w2], ⟨by omega⟩, rfl⟩
    · have c2b0 : decide (i < (l.length : Int)) = false := decide_eq_false c2
      have HW := Aside0.mk HK.out.1
      have hN := hnext_ok (s := s0_ d t) (n := n) (n5 := 0) (c5 := 0) (n6 := 0) (c6 := 0) (A5 := none) (A6 := none) (s0_okr HP.out) HNT.out HB.out HH.out
      rw [HTT.out] at hN
      dsimp only [s0_] at hN
      have HN := Aside0.mk hN
      clear hN c2
      have c1_ : (T.1 != 0) = true := bne_iff_ne.mpr HZ.out
      go_upto_region 9 with (go_at_call 43; (with_reducible refine HN.out.mono ?_); rintro en wa ⟨B0, m0, e0, B1, m1, e1, B5, m5, e5, B6, m6, e6, rfl, hh_, hb_, hk_, hs_⟩; (try clear pb0 pb1); replace H4 := Aside0.mk (blk_kept H4.out hk_ (HH.out.not H4.out (by decide))); replace HK := Aside0.mk (HK.out.then_ hk_ (fun _ h => .inl h)); replace HH := Aside0.mk hh_; replace HB := Aside0.mk hb_; have HS := Aside0.mk (fun k hk => (hs_ k hk).imp id (fun h => Nat.le_trans (show w.heap.size ≤ W.heap.size from HW.out) h)); have H8 := Aside0.mk (blk_new wa (.cells #[(.slice B0 m0 e0), (.slice B1 m1 e1), (.int .u32 T.2.first), (.int .u32 T.2.pg), (.int .u32 0), (.slice B5 m5 e5), (.slice B6 m6 e6), (.bool T.2.beg)] 43)); (have hl4 := blk_lt H4.out); replace H4 := Aside0.mk (blk_alloc H4.out (.cells #[(.slice B0 m0 e0), (.slice B1 m1 e1), (.int .u32 T.2.first), (.int .u32 T.2.pg), (.int .u32 0), (.slice B5 m5 e5), (.slice B6 m6 e6), (.bool T.2.beg)] 43)); replace HK := Aside0.mk (HK.out.alloc (.cells #[(.slice B0 m0 e0), (.slice B1 m1 e1), (.int .u32 T.2.first), (.int .u32 T.2.pg), (.int .u32 0), (.slice B5 m5 e5), (.slice B6 m6 e6), (.bool T.2.beg)] 43)); replace HH := Aside0.mk (HH.out.alloc (.cells #[(.slice B0 m0 e0), (.slice B1 m1 e1), (.int .u32 T.2.first), (.int .u32 T.2.pg), (.int .u32 0), (.slice B5 m5 e5), (.slice B6 m6 e6), (.bool T.2.beg)] 43)); replace HB := Aside0.mk (below_then HB.out HB.out.size (below_alloc (Below.refl _ _) (.cells #[(.slice B0 m0 e0), (.slice B1 m1 e1), (.int .u32 T.2.first), (.int .u32 T.2.pg), (.int .u32 0), (.slice B5 m5 e5), (.slice B6 m6 e6), (.bool T.2.beg)] 43))); replace HLT := Aside0.mk (And.intro HLT.out.1 (And.intro HLT.out.2 hl4)); clear hh_ hb_ hk_ hs_ hl4)
      have pd0 := (blk_cell H8.out 0).trans rfl
      have pd1 := (blk_cell H8.out 1).trans rfl
      have pd2 := (blk_cell H8.out 2).trans rfl
      have pd3 := (blk_cell H8.out 3).trans rfl
      have pd4 := (blk_cell H8.out 4).trans rfl
      have pd5 := (blk_cell H8.out 5).trans rfl
      have pd6 := (blk_cell H8.out 6).trans rfl
      have pd7 := (blk_cell H8.out 7).trans rfl
      have pc0 := (blk_cell H4.out 0).trans rfl
      have pc1 := (blk_cell H4.out 1).trans rfl
      have pc2 := (blk_cell H4.out 2).trans rfl
      have pc3 := (blk_cell H4.out 3).trans rfl
      have pc4 := (blk_cell H4.out 4).trans rfl
      have pc5 := (blk_cell H4.out 5).trans rfl
      have pc6 := (blk_cell H4.out 6).trans rfl
      have pc7 := (blk_cell H4.out 7).trans rfl
      have pcf0 := blk_frozen H4.out 0
      have pcf1 := blk_frozen H4.out 1
      have pcf2 := blk_frozen H4.out 2
      have pcf3 := blk_frozen H4.out 3
      have pcf4 := blk_frozen H4.out 4
      have pcf5 := blk_frozen H4.out 5
      have pcf6 := blk_frozen H4.out 6
      have pcf7 := blk_frozen H4.out 7
      have pcl := blk_lt H4.out
      go_wp2
      have q0 := H4
      have q1 := Aside0.mk (blk_put (cs' := #[(.slice B0 m0 e0), (.slice none 0 0), (.int .u32 0), (.int .u32 0), (.int .u32 0), (.slice none 0 0), (.slice none 0 0), (.bool false)]) q0.out 0 ((.slice B0 m0 e0)) rfl)
      have q2 := Aside0.mk (blk_put (cs' := #[(.slice B0 m0 e0), (.slice B1 m1 e1), (.int .u32 0), (.int .u32 0), (.int .u32 0), (.slice none 0 0), (.slice none 0 0), (.bool false)]) q1.out 1 ((.slice B1 m1 e1)) rfl)
      have q3 := Aside0.mk (blk_put (cs' := #[(.slice B0 m0 e0), (.slice B1 m1 e1), (.int .u32 T.2.first), (.int .u32 0), (.int .u32 0), (.slice none 0 0), (.slice none 0 0), (.bool false)]) q2.out 2 ((.int .u32 T.2.first)) rfl)
      have q4 := Aside0.mk (blk_put (cs' := #[(.slice B0 m0 e0), (.slice B1 m1 e1), (.int .u32 T.2.first), (.int .u32 T.2.pg), (.int .u32 0), (.slice none 0 0), (.slice none 0 0), (.bool false)]) q3.out 3 ((.int .u32 T.2.pg)) rfl)
      have q5 := Aside0.mk (blk_put (cs' := #[(.slice B0 m0 e0), (.slice B1 m1 e1), (.int .u32 T.2.first), (.int .u32 T.2.pg), (.int .u32 0), (.slice none 0 0), (.slice none 0 0), (.bool false)]) q4.out 4 ((.int .u32 0)) rfl)
      have q6 := Aside0.mk (blk_put (cs' := #[(.slice B0 m0 e0), (.slice B1 m1 e1), (.int .u32 T.2.first), (.int .u32 T.2.pg), (.int .u32 0), (.slice B5 m5 e5), (.slice none 0 0), (.bool false)]) q5.out 5 ((.slice B5 m5 e5)) rfl)
      have q7 := Aside0.mk (blk_put (cs' := #[(.slice B0 m0 e0), (.slice B1 m1 e1), (.int .u32 T.2.first), (.int .u32 T.2.pg), (.int .u32 0), (.slice B5 m5 e5), (.slice B6 m6 e6), (.bool false)]) q6.out 6 ((.slice B6 m6 e6)) rfl)
      have q8 := Aside0.mk (blk_put (cs' := #[(.slice B0 m0 e0), (.slice B1 m1 e1), (.int .u32 T.2.first), (.int .u32 T.2.pg), (.int .u32 0), (.slice B5 m5 e5), (.slice B6 m6 e6), (.bool T.2.beg)]) q7.out 7 ((.bool T.2.beg)) rfl)
      have hgb : w0.heap.size ≤ g4 := by have h1 := HLT.out; have h2 := HB0.out.size; omega
      have hgw : w.heap.size ≤ g4 := by have h1 := HLT.out; omega
      have HX := Aside0.mk (Hv.set (Hv.set (Hv.set (Hv.set (Hv.set (Hv.set (Hv.set (Hv.set HH.out q0.out (by decide) 0 ((.slice B0 m0 e0))) q1.out (by decide) 1 ((.slice B1 m1 e1))) q2.out (by decide) 2 ((.int .u32 T.2.first))) q3.out (by decide) 3 ((.int .u32 T.2.pg))) q4.out (by decide) 4 ((.int .u32 0))) q5.out (by decide) 5 ((.slice B5 m5 e5))) q6.out (by decide) 6 ((.slice B6 m6 e6))) q7.out (by decide) 7 ((.bool T.2.beg)))
      refine bodyPost_ret (results_cell1 rfl _ _ g4 43 #[(.slice B0 m0 e0), (.slice B1 m1 e1), (.int .u32 T.2.first), (.int .u32 T.2.pg), (.int .u32 0), (.slice B5 m5 e5), (.slice B6 m6 e6), (.bool T.2.beg)] (0, 0) _ rfl q8.out Try.underlying43 rfl (by kernel_rfl)) rfl ?_
      unfold Rp
      exact ⟨_, _, _, _, _, _, _, _, _, _, _, _, _, _, _, _, rfl, HX.out.r0, HX.out.r1, HX.out.r6, (fun h => absurd h HZ.out), (below_set0 (below_set0 (below_set0 (below_set0 (below_set0 (below_set0 (below_set0 (below_set0 HB.out hgb) hgb) hgb) hgb) hgb) hgb) hgb) hgb), (Kept.setCell (Kept.setCell (Kept.setCell (Kept.setCell (Kept.setCell (Kept.setCell (Kept.setCell (Kept.setCell HK.out (.inr hgw) _) (.inr hgw) _) (.inr hgw) _) (.inr hgw) _) (.inr hgw) _) (.inr hgw) _) (.inr hgw) _) (.inr hgw) _), (fun k h => HS.out k (h.imp id (fun h => h.imp id (fun h => h.elim (fun h => by cases h) .inr))))⟩
set_option maxHeartbeats 16000000 in
theorem rfill_goes (l : List (List Int)) (hB : Below w0.heap.size w0 w) (h0 : Kd.R Kd.string 9 w w0.heap.size (fun _ => True) (.slice A0 n0 c0) (pgs d n)) (h1 : Kd.R Kd.bool 4 w w0.heap.size (fun _ => True) (.slice A1 t.length c1) t) (hn : t.length = n) (hF : Kd.F Kd.string w okr AL l.length (txt l)) (hokr : ∀ k, okr k → ¬ Sv (.slice A0 n0 c0) (.slice A1 t.length c1) (.slice none 0 0) (.slice none 0 0) k) (hl : l.length ≤ 100000) (hp_ : d.length = 512 * t.length ∧ 0 < t.length ∧ t.length ≤ 4096 ∧ By d) (hg : l.any badR = false) (hby : ∀ r ∈ l, By r) (s1 : St) (hT : nextS (s0_ d t) = (0, s1)) (E : Int) (S : St) (O : List S50) (he : fillS l s1 [] = (E, S, O)) (X : List Int × List Bool) (hX : X = if E = 0 then ((wrG S.d S.t S.pg (hp 0 S.rs)).1, (wrG S.d S.t S.pg (hp 0 S.rs)).2.1) else (S.d, S.t)) :
    Calls Try.prog 15 #[.agg #[.slice A0 n0 c0, .slice A1 t.length c1], .slice AL l.length cL] w fun e w' => Rp w0 w (Sv (.slice A0 n0 c0) (.slice A1 t.length c1) (.slice none 0 0) (.slice none 0 0)) n (E) (X.1) (X.2) (S.first) (O) e w' := by
  have HG := Aside0.mk (show ∀ r ∈ l, badR r = false by simpa using hg)
  clear hg
  have HP := Aside0.mk hp_
  have HNT := Aside0.mk hn
  clear hp_ hn
  have HTT := Aside0.mk hT
  have HE := Aside0.mk he
  have HXX := Aside0.mk hX
  have HY := Aside0.mk hby
  have hS1 : SOk s1 ∧ s1.beg = true ∧ s1.t.length = n := by
    have h1 := nextS_ok (s0_okr HP.out)
    have h2 := nextS_zero (s := s0_ d t) (by rw [hT])
    have h3 := nextS_len (s0_ d t)
    rw [hT] at h1 h2 h3
    exact ⟨h1, h2.2, h3.trans HNT.out⟩
  have HS1 := Aside0.mk hS1
  clear hT he hX hby hS1
  have HH := Aside0.mk (((show Hv w0 w (.slice A0 n0 c0) (.slice A1 t.length c1) (.slice none 0 0) (.slice none 0 0) (pgs d n) t [] [] from ⟨h0, h1, Kd.R_nil _ _ _ _ _, Kd.R_nil _ _ _ _ _, fun _ _ h => by cases h⟩).alloc (.cells #[.slice A0 n0 c0, .slice A1 t.length c1] 32)).alloc (.cells #[(.slice none 0 0), (.slice none 0 0), (.int .u32 0), (.int .u32 0), (.int .u32 0), (.slice none 0 0), (.slice none 0 0), (.bool false)] 43))
  have H2 := Aside0.mk (blk_alloc (blk_new w (.cells #[.slice A0 n0 c0, .slice A1 t.length c1] 32)) (.cells #[(.slice none 0 0), (.slice none 0 0), (.int .u32 0), (.int .u32 0), (.int .u32 0), (.slice none 0 0), (.slice none 0 0), (.bool false)] 43))
  have H4 := Aside0.mk (blk_new (w.alloc (.cells #[.slice A0 n0 c0, .slice A1 t.length c1] 32)) (.cells #[(.slice none 0 0), (.slice none 0 0), (.int .u32 0), (.int .u32 0), (.int .u32 0), (.slice none 0 0), (.slice none 0 0), (.bool false)] 43))
  rw [World.size_alloc] at H4
  have HB0 := Aside0.mk hB
  have HB := Aside0.mk (below_then hB hB.size (below_alloc (below_alloc (Below.refl w.heap.size w) (.cells #[.slice A0 n0 c0, .slice A1 t.length c1] 32)) (.cells #[(.slice none 0 0), (.slice none 0 0), (.int .u32 0), (.int .u32 0), (.int .u32 0), (.slice none 0 0), (.slice none 0 0), (.bool false)] 43)))
  have HK := Aside0.mk (((Kept.refl w (Sv (.slice A0 n0 c0) (.slice A1 t.length c1) (.slice none 0 0) (.slice none 0 0))).alloc (.cells #[.slice A0 n0 c0, .slice A1 t.length c1] 32)).alloc (.cells #[(.slice none 0 0), (.slice none 0 0), (.int .u32 0), (.int .u32 0), (.int .u32 0), (.slice none 0 0), (.slice none 0 0), (.bool false)] 43))
  have HF := Aside0.mk (And.intro hF hokr)
  have HL := Aside0.mk hl
  clear hF hokr hl h0 h1 hB
  go_enter Try.func15, Try.ntmps15
  go_upto_region 1 with fail
  generalize (w.alloc (.cells #[.slice A0 n0 c0, .slice A1 t.length c1] 32)).alloc (.cells #[(.slice none 0 0), (.slice none 0 0), (.int .u32 0), (.int .u32 0), (.int .u32 0), (.slice none 0 0), (.slice none 0 0), (.bool false)] 43) = W at HH H2 H4 HB HK ⊢
  generalize hg4 : w.heap.size + 1 = g4 at H4 ⊢
  obtain ⟨g2, hg2⟩ : ∃ g2, w.heap.size = g2 := ⟨_, rfl⟩
  have HLT := Aside0.mk (show w.heap.size ≤ g2 ∧ g2 < g4 by omega)
  rw [hg2] at H2
  simp only [hg2]
  clear hg2 hg4
  have pb0 := (blk_cell H2.out 0).trans rfl
  have pb1 := (blk_cell H2.out 1).trans rfl
  go_wp2
  go_loopg [15] l.length (fun kq v15 w' => ∃ i : Int, v15 = .int .i64 i ∧ Aside0 (0 ≤ i ∧ (kq : Int) + i = (l.length : Int)) ∧  w' = W)
  case atStart => exact ⟨0, rfl, ⟨by omega⟩,  rfl⟩
  case round =>
    obtain ⟨i, rfl, HI,  hwr⟩ := hrel
    obtain rfl := hwr.symm
    by_cases c2 : i < (l.length : Int)
    · have c2b0 : decide (i < (l.length : Int)) = true := decide_eq_true c2
      obtain ⟨ad, e1, hx0⟩ := Kd.at_string (F_at HF.out.1 HK.out HF.out.2) i HI.out.1 c2
      subst e1
      rw [txt_rd] at hx0
      have p9 : (0 ≤ i) = True := eq_true HI.out.1
      have q9 : (i < (l.length : Int)) = True := eq_true c2
      have w2 : wrap64 (i + 1) = i + 1 := wr_in _ (by have := HI.out; have := HL.out; omega)
      have hg := badR_false.mp (HG.out _ (rd_mem l i HI.out.1 c2))
      generalize rd_L1 l i = r at hx0 hg
      obtain ⟨q, hq⟩ : ∃ q, strOfNums r = q := ⟨_, rfl⟩
      have hqs : q.size = r.length := by rw [← hq]; exact str_size _
      rw [hq] at hx0
      have e0 : ((q.size : Int) == 0) = false := beq_eq_false_iff_ne.mpr (by omega)
      have e5 : decide (500 < (q.size : Int)) = false := decide_eq_false (by omega)
      have e6 : decide (500 < q.size) = false := decide_eq_false (by omega)
      have HC2 := Aside0.mk c2
      clear hq hqs hg c2
      go_wp2
      go_roundg (gk - 1)
      case measure => have h1 := HI.out; have h2 := HC2.out; omega
      case rel =>
        have h1 := HI.out
        have h2 := HC2.out
        exact ⟨i + 1, by first | rfl | rw [w2], ⟨by omega⟩, rfl⟩
    · have c2b0 : decide (i < (l.length : Int)) = false := decide_eq_false c2
      have HW := Aside0.mk HK.out.1
      have hN := hnext_ok (s := s0_ d t) (n := n) (n5 := 0) (c5 := 0) (n6 := 0) (c6 := 0) (A5 := none) (A6 := none) (s0_okr HP.out) HNT.out HB.out HH.out
      rw [HTT.out] at hN
      dsimp only [s0_] at hN
      have HN := Aside0.mk hN
      clear hN c2
      go_upto_region 10 with (go_at_call 43; (with_reducible refine HN.out.mono ?_); rintro en wa ⟨B0, m0, e0, B1, m1, e1, B5, m5, e5, B6, m6, e6, rfl, hh_, hb_, hk_, hs_⟩; (try clear pb0 pb1); replace H4 := Aside0.mk (blk_kept H4.out hk_ (HH.out.not H4.out (by decide))); replace HK := Aside0.mk (HK.out.then_ hk_ (fun _ h => .inl h)); replace HH := Aside0.mk hh_; replace HB := Aside0.mk hb_; have HS := Aside0.mk (fun k hk => (hs_ k hk).imp id (fun h => Nat.le_trans (show w.heap.size ≤ W.heap.size from HW.out) h)); have H8 := Aside0.mk (blk_new wa (.cells #[(.slice B0 m0 e0), (.slice B1 m1 e1), (.int .u32 s1.first), (.int .u32 s1.pg), (.int .u32 0), (.slice B5 m5 e5), (.slice B6 m6 e6), (.bool s1.beg)] 43)); (have hl4 := blk_lt H4.out); replace H4 := Aside0.mk (blk_alloc H4.out (.cells #[(.slice B0 m0 e0), (.slice B1 m1 e1), (.int .u32 s1.first), (.int .u32 s1.pg), (.int .u32 0), (.slice B5 m5 e5), (.slice B6 m6 e6), (.bool s1.beg)] 43)); replace HK := Aside0.mk (HK.out.alloc (.cells #[(.slice B0 m0 e0), (.slice B1 m1 e1), (.int .u32 s1.first), (.int .u32 s1.pg), (.int .u32 0), (.slice B5 m5 e5), (.slice B6 m6 e6), (.bool s1.beg)] 43)); replace HH := Aside0.mk (HH.out.alloc (.cells #[(.slice B0 m0 e0), (.slice B1 m1 e1), (.int .u32 s1.first), (.int .u32 s1.pg), (.int .u32 0), (.slice B5 m5 e5), (.slice B6 m6 e6), (.bool s1.beg)] 43)); replace HB := Aside0.mk (below_then HB.out HB.out.size (below_alloc (Below.refl _ _) (.cells #[(.slice B0 m0 e0), (.slice B1 m1 e1), (.int .u32 s1.first), (.int .u32 s1.pg), (.int .u32 0), (.slice B5 m5 e5), (.slice B6 m6 e6), (.bool s1.beg)] 43))); replace HLT := Aside0.mk (And.intro HLT.out.1 (And.intro HLT.out.2 hl4)); clear hh_ hb_ hk_ hs_ hl4)
      obtain ⟨hs1, hb1, hl1⟩ := HS1.out
      generalize wa.heap.size = g8 at H8 HLT ⊢
      generalize World.alloc wa _ = W8 at H8 H4 HH HB HK ⊢
      rw [hb1] at H8
      have HX0 := Aside0.mk (And.intro hs1 (And.intro hb1 hl1))
      clear hs1 hb1 hl1 HS1 H2 HI
      go_upto_region 11 with fail
      go_wp2
      go_loopg [47] l.length (fun kq v47 w' => ∃ (i : Int) (s : St) (o : List S50) (B0 : Option Addr) (m0 e0 : Nat) (B1 : Option Addr) (m1 e1 : Nat) (B5 : Option Addr) (m5 e5 : Nat) (B6 : Option Addr) (m6 e6 : Nat), v47 = .int .i64 i ∧ Aside0 (0 ≤ i ∧ (kq : Int) + i = (l.length : Int)) ∧ Aside0 (fillS (l.drop i.toNat) s o = (E, S, O)) ∧ Aside0 (SOk s ∧ s.beg = true ∧ s.t.length = n ∧ o.length ≤ i.toNat) ∧ Aside0 (w'.heap[g8]? = some (.cells #[(.slice B0 m0 e0), (.slice B1 m1 e1), (.int .u32 s.first), (.int .u32 s.pg), (.int .u32 0), (.slice B5 m5 e5), (.slice B6 m6 e6), (.bool true)] 43 (0, 0))) ∧ Aside0 (w'.heap[g4]? = some (.cells #[(.slice none 0 0), (.slice none 0 0), (.int .u32 0), (.int .u32 0), (.int .u32 0), (.slice none 0 0), (.slice none 0 0), (.bool false)] 43 (0, 0))) ∧ Aside0 (Hv w0 w' (.slice B0 m0 e0) (.slice B1 m1 e1) (.slice B5 m5 e5) (.slice B6 m6 e6) (pgs s.d n) s.t (txt s.rs) o) ∧ Aside0 (Below w0.heap.size w0 w') ∧ Aside0 (Kept w w' (Sv (.slice A0 n0 c0) (.slice A1 t.length c1) (.slice none 0 0) (.slice none 0 0))) ∧ Aside0 (∀ k, Sv (.slice B0 m0 e0) (.slice B1 m1 e1) (.slice B5 m5 e5) (.slice B6 m6 e6) k → Sv (.slice A0 n0 c0) (.slice A1 t.length c1) (.slice none 0 0) (.slice none 0 0) k ∨ w.heap.size ≤ k))
      case atStart => exact ⟨0, s1, [], B0, m0, e0, B1, m1, e1, B5, m5, e5, B6, m6, e6, rfl, ⟨by omega⟩, ⟨by simpa using HE.out⟩, ⟨HX0.out.1, HX0.out.2.1, HX0.out.2.2, by simp⟩, H8, H4, HH, HB, HK, HS⟩
      case round =>
        clear H8 H4 HH HB HK HS HE HX0
        obtain ⟨i, s, o, B0, m0, e0, B1, m1, e1, B5, m5, e5, B6, m6, e6, rfl, HI, HQ, HSO, H8, H4, HH, HB, HK, HS⟩ := hrel
        by_cases c2 : i < (l.length : Int)
        · have c2b0 : decide (i < (l.length : Int)) = true := decide_eq_true c2
          obtain ⟨ad, e1_, hx0⟩ := Kd.at_string (F_at HF.out.1 HK.out HF.out.2) i HI.out.1 c2
          subst e1_
          rw [txt_rd] at hx0
          have p9 : (0 ≤ i) = True := eq_true HI.out.1
          have q9 : (i < (l.length : Int)) = True := eq_true c2
          have w2 : wrap64 (i + 1) = i + 1 := wr_in _ (by have := HI.out; have := HL.out; omega)
          have hq := HQ.out
          rw [rd_drop l i HI.out.1 c2, fillS] at hq
          have hgr := badR_false.mp (HG.out _ (rd_mem l i HI.out.1 c2))
          have hyr := HY.out _ (rd_mem l i HI.out.1 c2)
          have HAT := Aside0.mk (show ∀ W', Kept w W' (Sv (.slice A0 n0 c0) (.slice A1 t.length c1) (.slice none 0 0) (.slice none 0 0)) → W'.cell? (ad.add i.toNat) = some (.string (strOfNums (rd_L1 l i))) from fun W' hk => by
            obtain ⟨ad2, e2, hx2⟩ := Kd.at_string (F_at HF.out.1 hk HF.out.2) i HI.out.1 c2
            injection e2 with e2
            subst e2
            rw [txt_rd] at hx2
            exact hx2)
          generalize rd_L1 l i = r at hx0 hq hgr hyr HAT
          obtain ⟨q, hqq⟩ : ∃ q, strOfNums r = q := ⟨_, rfl⟩
          have hqs : q.size = r.length := by rw [← hqq]; exact str_size _
          rw [hqq] at hx0 HAT
          have HQQ := Aside0.mk (And.intro hqq (And.intro hqs (And.intro hgr hyr)))
          have HC2 := Aside0.mk c2
          obtain rfl : m1 = s.t.length := (Kd.R_reads' HH.out.r1).1
          obtain rfl : m5 = s.rs.length := (Kd.R_reads' HH.out.r5).1.trans (PureSl.txt_len _)
          have HR5 := Aside0.mk (show Kd.C Kd.string wr B5 s.rs.length (txt s.rs) ∧ s.rs.length ≤ e5 by have h5 := Kd.R_reads' HH.out.r5; have h6 := h5.2.2; rw [PureSl.txt_len] at h6; exact ⟨h6, h5.2.1⟩)
          clear hqq c2 hgr hyr HQ
          -- the record's page
          go_upto_region 12 with fail
          iterate 11 go_step
          go_cut [] (fun wc => ∃ (s' : St) (D0 : Option Addr) (k0 j0 : Nat) (D1 : Option Addr) (k1 j1 : Nat) (D5 : Option Addr) (k5 j5 : Nat) (D6 : Option Addr) (k6 j6 : Nat), Aside0 (fillS (l.drop (i + 1).toNat) { s' with rs := s'.rs ++ [r] } (o ++ [⟨s'.pg, (s'.rs.length : Int) % 65536⟩]) = (E, S, O)) ∧ Aside0 (SOk s' ∧ s'.beg = true ∧ s'.t.length = n ∧ r.length ≤ room s'.rs) ∧ Aside0 (wc.heap[g8]? = some (.cells #[(.slice D0 k0 j0), (.slice D1 k1 j1), (.int .u32 s'.first), (.int .u32 s'.pg), (.int .u32 0), (.slice D5 k5 j5), (.slice D6 k6 j6), (.bool true)] 43 (0, 0))) ∧ Aside0 (wc.heap[g4]? = some (.cells #[(.slice none 0 0), (.slice none 0 0), (.int .u32 0), (.int .u32 0), (.int .u32 0), (.slice none 0 0), (.slice none 0 0), (.bool false)] 43 (0, 0))) ∧ Aside0 (Hv w0 wc (.slice D0 k0 j0) (.slice D1 k1 j1) (.slice D5 k5 j5) (.slice D6 k6 j6) (pgs s'.d n) s'.t (txt s'.rs) o) ∧ Aside0 (Below w0.heap.size w0 wc) ∧ Aside0 (Kept w wc (Sv (.slice A0 n0 c0) (.slice A1 t.length c1) (.slice none 0 0) (.slice none 0 0))) ∧ Aside0 (∀ k, Sv (.slice D0 k0 j0) (.slice D1 k1 j1) (.slice D5 k5 j5) (.slice D6 k6 j6) k → Sv (.slice A0 n0 c0) (.slice A1 t.length c1) (.slice none 0 0) (.slice none 0 0) k ∨ w.heap.size ≤ k))
          case first =>
            have hrm := rowlockref08_Page_Room.calls (s.rs.length + 1) 0 B5 e5 (txt s.rs) (room s.rs : Int) wr.drew (by rw [PureSl.txt_len]; exact Kd.C_drew HR5.out.1) (by rw [PureSl.txt_len]; exact HR5.out.2) (PureSl.ref_room 0 s.rs _ HSO.out.1.rs.sz (Nat.lt_succ_self _))
            rw [PureSl.txt_len] at hrm
            have HRM := Aside0.mk hrm
            clear hrm
            have pd4 := (blk_cell H8.out 4).trans rfl
            have pd5 := (blk_cell H8.out 5).trans rfl
            by_cases hf : room s.rs < r.length
            · have cg1 : decide ((room s.rs : Int) < (q.size : Int)) = true := decide_eq_true (by omega)
              have cg2 : decide (room s.rs < q.size) = true := decide_eq_true (by omega)
              rw [addS, if_pos hf] at hq
              have HQ2 := Aside0.mk hq
              have HFT := Aside0.mk hf
              clear hq hf hqs
              go_step
              go_cut [58] (fun v58 wc => v58 = .bool true ∧ Aside0 (Below wr.heap.size wr wc))
              case first =>
                go_region_law (refine goes_ Try.func44 (by kernel_rfl) rfl #[.agg #[.int .u32 0, .slice B5 s.rs.length e5]] rfl rfl rfl (by simp [Act.eval, Act.put]) ?_; (with_reducible refine HRM.out.mono ?_); rintro en wx ⟨rfl, hb_⟩; refine ⟨_, rfl, ?_⟩; have HBX := Aside0.mk (below_then (below_drew1 (Below.refl wr.heap.size wr)) (Nat.le_refl _) hb_); clear hb_; have hx0x := (HBX.out.cell (World.block_lt_of_cell? wr _ hx0)).trans hx0)
                all_goals
                  go_wp2
                  go_meet
                  exact ⟨rfl, HBX⟩
              case rest =>
                obtain ⟨rfl, HBc⟩ := hcut
                clear pd4 pd5 hx0 cg1 cg2 HRM HR5
                replace H8 := Aside0.mk (blk_below H8.out HBc.out)
                replace H4 := Aside0.mk (blk_below H4.out HBc.out)
                replace HH := Aside0.mk (HH.out.below HBc.out)
                replace HB := Aside0.mk (below_then HB.out HB.out.size HBc.out)
                replace HK := Aside0.mk (HK.out.below HBc.out)
                clear HBc
                obtain ⟨E1, s2, hT2⟩ : ∃ E1 s2, nextS s = (E1, s2) := ⟨_, _, rfl⟩
                have hN := hnext_ok (s := s) (n := n) HSO.out.1 HSO.out.2.2.1 HB.out HH.out
                rw [hT2, HSO.out.2.1] at hN
                dsimp only at hN
                have hq := HQ2.out
                rw [hT2] at hq
                dsimp only at hq
                have hs2 := nextS_ok HSO.out.1
                have hl2 := nextS_len s
                have hf2 := nextS_keep HSO.out.2.1
                have hz2 := @nextS_zero s
                have hb2 : s2.beg = true := by
                  have h3 : (nextS s).2.beg = true := by
                    unfold nextS
                    rw [HSO.out.2.1]
                    split <;> rfl
                  rw [hT2] at h3
                  exact h3
                rw [hT2] at hs2 hl2 hz2 hf2
                dsimp only at hs2 hl2 hz2 hf2
                rw [hb2] at hN
                have HN2 := Aside0.mk hN
                have HS2 := Aside0.mk (And.intro hs2 (And.intro hb2 (And.intro (hl2.trans HSO.out.2.2.1) hz2)))
                have HQ3 := Aside0.mk hq
                clear hN hs2 hl2 hz2 hb2 hq hT2 HQ2 hf2
                have pd0 := (blk_cell H8.out 0).trans rfl
                have pd1 := (blk_cell H8.out 1).trans rfl
                have pd2 := (blk_cell H8.out 2).trans rfl
                have pd3 := (blk_cell H8.out 3).trans rfl
                have pd4 := (blk_cell H8.out 4).trans rfl
                have pd5 := (blk_cell H8.out 5).trans rfl
                have pd6 := (blk_cell H8.out 6).trans rfl
                have pd7 := (blk_cell H8.out 7).trans rfl
                go_upto_region 15 with (go_at_call 43; (with_reducible refine HN2.out.mono ?_); rintro en wa ⟨D0, k0, j0, D1, k1, j1, D5, k5, j5, D6, k6, j6, rfl, hh_, hb_, hk_, hs_⟩; clear pd0 pd1 pd2 pd3 pd4 pd5 pd6 pd7; replace H8 := Aside0.mk (blk_kept H8.out hk_ (HH.out.not H8.out (by decide))); replace H4 := Aside0.mk (blk_kept H4.out hk_ (HH.out.not H4.out (by decide))); have HS0 := HS; replace HS := Aside0.mk (fun k hk => (hs_ k hk).elim (HS0.out k) (fun h => .inr (Nat.le_trans HK.out.1 h))); replace HK := Aside0.mk (HK.out.then_ hk_ HS0.out); replace HH := Aside0.mk hh_; replace HB := Aside0.mk hb_; clear hh_ hb_ hk_ hs_ HS0; have H11 := Aside0.mk (blk_new wa (.cells #[(.slice D0 k0 j0), (.slice D1 k1 j1), (.int .u32 s2.first), (.int .u32 s2.pg), (.int .u32 0), (.slice D5 k5 j5), (.slice D6 k6 j6), (.bool true)] 43)); (have hl4 := blk_lt H8.out); replace H8 := Aside0.mk (blk_alloc H8.out (.cells #[(.slice D0 k0 j0), (.slice D1 k1 j1), (.int .u32 s2.first), (.int .u32 s2.pg), (.int .u32 0), (.slice D5 k5 j5), (.slice D6 k6 j6), (.bool true)] 43)); replace H4 := Aside0.mk (blk_alloc H4.out (.cells #[(.slice D0 k0 j0), (.slice D1 k1 j1), (.int .u32 s2.first), (.int .u32 s2.pg), (.int .u32 0), (.slice D5 k5 j5), (.slice D6 k6 j6), (.bool true)] 43)); replace HH := Aside0.mk (HH.out.alloc (.cells #[(.slice D0 k0 j0), (.slice D1 k1 j1), (.int .u32 s2.first), (.int .u32 s2.pg), (.int .u32 0), (.slice D5 k5 j5), (.slice D6 k6 j6), (.bool true)] 43)); replace HB := Aside0.mk (below_then HB.out HB.out.size (below_alloc (Below.refl _ _) (.cells #[(.slice D0 k0 j0), (.slice D1 k1 j1), (.int .u32 s2.first), (.int .u32 s2.pg), (.int .u32 0), (.slice D5 k5 j5), (.slice D6 k6 j6), (.bool true)] 43))); replace HK := Aside0.mk (HK.out.alloc (.cells #[(.slice D0 k0 j0), (.slice D1 k1 j1), (.int .u32 s2.first), (.int .u32 s2.pg), (.int .u32 0), (.slice D5 k5 j5), (.slice D6 k6 j6), (.bool true)] 43)))
                generalize wa.heap.size = g11 at H11 hl4 ⊢
                generalize World.alloc wa _ = W11 at H8 H4 HH HB HK H11 ⊢
                have pd0 := (blk_cell H8.out 0).trans rfl
                have pd1 := (blk_cell H8.out 1).trans rfl
                have pd2 := (blk_cell H8.out 2).trans rfl
                have pd3 := (blk_cell H8.out 3).trans rfl
                have pd4 := (blk_cell H8.out 4).trans rfl
                have pd5 := (blk_cell H8.out 5).trans rfl
                have pd6 := (blk_cell H8.out 6).trans rfl
                have pd7 := (blk_cell H8.out 7).trans rfl
                have pdf0 := blk_frozen H8.out 0
                have pdf1 := blk_frozen H8.out 1
                have pdf2 := blk_frozen H8.out 2
                have pdf3 := blk_frozen H8.out 3
                have pdf4 := blk_frozen H8.out 4
                have pdf5 := blk_frozen H8.out 5
                have pdf6 := blk_frozen H8.out 6
                have pdf7 := blk_frozen H8.out 7
                have pdl := blk_lt H8.out
                have pe0 := (blk_cell H11.out 0).trans rfl
                have pe1 := (blk_cell H11.out 1).trans rfl
                have pe2 := (blk_cell H11.out 2).trans rfl
                have pe3 := (blk_cell H11.out 3).trans rfl
                have pe4 := (blk_cell H11.out 4).trans rfl
                have pe5 := (blk_cell H11.out 5).trans rfl
                have pe6 := (blk_cell H11.out 6).trans rfl
                have pe7 := (blk_cell H11.out 7).trans rfl
                go_upto_region 16 with fail
                clear pd0 pdf0 pd1 pdf1 pd2 pdf2 pd3 pdf3 pd4 pdf4 pd5 pdf5 pd6 pdf6 pd7 pdf7 pdl
                clear pe0 pe1 pe2 pe3 pe4 pe5 pe6 pe7 H11 hl4
                replace HB := Aside0.mk (below_set0 (j := 0) (v := (.slice D0 k0 j0)) HB.out (show w0.heap.size ≤ g8 by have h1 := HLT.out; have h2 := HB0.out.size; omega))
                replace HK := Aside0.mk (HK.out.setCell (p := ⟨g8, 0, none⟩) (.inr (show w.heap.size ≤ g8 by have h1 := HLT.out; omega)) ((.slice D0 k0 j0)))
                replace HH := Aside0.mk (HH.out.set H8.out (by decide) 0 ((.slice D0 k0 j0)))
                replace H4 := Aside0.mk (blk_far (p := ⟨g8, 0, none⟩) H4.out (show g4 ≠ g8 by have h1 := HLT.out; omega) ((.slice D0 k0 j0)))
                replace H8 := Aside0.mk (blk_put (cs' := #[(.slice D0 k0 j0), (.slice B1 s.t.length e1), (.int .u32 s.first), (.int .u32 s.pg), (.int .u32 0), (.slice B5 s.rs.length e5), (.slice B6 m6 e6), (.bool true)]) H8.out 0 ((.slice D0 k0 j0)) rfl)
                replace HB := Aside0.mk (below_set0 (j := 1) (v := (.slice D1 k1 j1)) HB.out (show w0.heap.size ≤ g8 by have h1 := HLT.out; have h2 := HB0.out.size; omega))
                replace HK := Aside0.mk (HK.out.setCell (p := ⟨g8, 1, none⟩) (.inr (show w.heap.size ≤ g8 by have h1 := HLT.out; omega)) ((.slice D1 k1 j1)))
                replace HH := Aside0.mk (HH.out.set H8.out (by decide) 1 ((.slice D1 k1 j1)))
                replace H4 := Aside0.mk (blk_far (p := ⟨g8, 1, none⟩) H4.out (show g4 ≠ g8 by have h1 := HLT.out; omega) ((.slice D1 k1 j1)))
                replace H8 := Aside0.mk (blk_put (cs' := #[(.slice D0 k0 j0), (.slice D1 k1 j1), (.int .u32 s.first), (.int .u32 s.pg), (.int .u32 0), (.slice B5 s.rs.length e5), (.slice B6 m6 e6), (.bool true)]) H8.out 1 ((.slice D1 k1 j1)) rfl)
                replace HB := Aside0.mk (below_set0 (j := 2) (v := (.int .u32 s2.first)) HB.out (show w0.heap.size ≤ g8 by have h1 := HLT.out; have h2 := HB0.out.size; omega))
                replace HK := Aside0.mk (HK.out.setCell (p := ⟨g8, 2, none⟩) (.inr (show w.heap.size ≤ g8 by have h1 := HLT.out; omega)) ((.int .u32 s2.first)))
                replace HH := Aside0.mk (HH.out.set H8.out (by decide) 2 ((.int .u32 s2.first)))
                replace H4 := Aside0.mk (blk_far (p := ⟨g8, 2, none⟩) H4.out (show g4 ≠ g8 by have h1 := HLT.out; omega) ((.int .u32 s2.first)))
                replace H8 := Aside0.mk (blk_put (cs' := #[(.slice D0 k0 j0), (.slice D1 k1 j1), (.int .u32 s2.first), (.int .u32 s.pg), (.int .u32 0), (.slice B5 s.rs.length e5), (.slice B6 m6 e6), (.bool true)]) H8.out 2 ((.int .u32 s2.first)) rfl)
                replace HB := Aside0.mk (below_set0 (j := 3) (v := (.int .u32 s2.pg)) HB.out (show w0.heap.size ≤ g8 by have h1 := HLT.out; have h2 := HB0.out.size; omega))
                replace HK := Aside0.mk (HK.out.setCell (p := ⟨g8, 3, none⟩) (.inr (show w.heap.size ≤ g8 by have h1 := HLT.out; omega)) ((.int .u32 s2.pg)))
                replace HH := Aside0.mk (HH.out.set H8.out (by decide) 3 ((.int .u32 s2.pg)))
                replace H4 := Aside0.mk (blk_far (p := ⟨g8, 3, none⟩) H4.out (show g4 ≠ g8 by have h1 := HLT.out; omega) ((.int .u32 s2.pg)))
                replace H8 := Aside0.mk (blk_put (cs' := #[(.slice D0 k0 j0), (.slice D1 k1 j1), (.int .u32 s2.first), (.int .u32 s2.pg), (.int .u32 0), (.slice B5 s.rs.length e5), (.slice B6 m6 e6), (.bool true)]) H8.out 3 ((.int .u32 s2.pg)) rfl)
                replace HB := Aside0.mk (below_set0 (j := 4) (v := (.int .u32 0)) HB.out (show w0.heap.size ≤ g8 by have h1 := HLT.out; have h2 := HB0.out.size; omega))
                replace HK := Aside0.mk (HK.out.setCell (p := ⟨g8, 4, none⟩) (.inr (show w.heap.size ≤ g8 by have h1 := HLT.out; omega)) ((.int .u32 0)))
                replace HH := Aside0.mk (HH.out.set H8.out (by decide) 4 ((.int .u32 0)))
                replace H4 := Aside0.mk (blk_far (p := ⟨g8, 4, none⟩) H4.out (show g4 ≠ g8 by have h1 := HLT.out; omega) ((.int .u32 0)))
                replace H8 := Aside0.mk (blk_put (cs' := #[(.slice D0 k0 j0), (.slice D1 k1 j1), (.int .u32 s2.first), (.int .u32 s2.pg), (.int .u32 0), (.slice B5 s.rs.length e5), (.slice B6 m6 e6), (.bool true)]) H8.out 4 ((.int .u32 0)) rfl)
                replace HB := Aside0.mk (below_set0 (j := 5) (v := (.slice D5 k5 j5)) HB.out (show w0.heap.size ≤ g8 by have h1 := HLT.out; have h2 := HB0.out.size; omega))
                replace HK := Aside0.mk (HK.out.setCell (p := ⟨g8, 5, none⟩) (.inr (show w.heap.size ≤ g8 by have h1 := HLT.out; omega)) ((.slice D5 k5 j5)))
                replace HH := Aside0.mk (HH.out.set H8.out (by decide) 5 ((.slice D5 k5 j5)))
                replace H4 := Aside0.mk (blk_far (p := ⟨g8, 5, none⟩) H4.out (show g4 ≠ g8 by have h1 := HLT.out; omega) ((.slice D5 k5 j5)))
                replace H8 := Aside0.mk (blk_put (cs' := #[(.slice D0 k0 j0), (.slice D1 k1 j1), (.int .u32 s2.first), (.int .u32 s2.pg), (.int .u32 0), (.slice D5 k5 j5), (.slice B6 m6 e6), (.bool true)]) H8.out 5 ((.slice D5 k5 j5)) rfl)
                replace HB := Aside0.mk (below_set0 (j := 6) (v := (.slice D6 k6 j6)) HB.out (show w0.heap.size ≤ g8 by have h1 := HLT.out; have h2 := HB0.out.size; omega))
                replace HK := Aside0.mk (HK.out.setCell (p := ⟨g8, 6, none⟩) (.inr (show w.heap.size ≤ g8 by have h1 := HLT.out; omega)) ((.slice D6 k6 j6)))
                replace HH := Aside0.mk (HH.out.set H8.out (by decide) 6 ((.slice D6 k6 j6)))
                replace H4 := Aside0.mk (blk_far (p := ⟨g8, 6, none⟩) H4.out (show g4 ≠ g8 by have h1 := HLT.out; omega) ((.slice D6 k6 j6)))
                replace H8 := Aside0.mk (blk_put (cs' := #[(.slice D0 k0 j0), (.slice D1 k1 j1), (.int .u32 s2.first), (.int .u32 s2.pg), (.int .u32 0), (.slice D5 k5 j5), (.slice D6 k6 j6), (.bool true)]) H8.out 6 ((.slice D6 k6 j6)) rfl)
                replace HB := Aside0.mk (below_set0 (j := 7) (v := (.bool true)) HB.out (show w0.heap.size ≤ g8 by have h1 := HLT.out; have h2 := HB0.out.size; omega))
                replace HK := Aside0.mk (HK.out.setCell (p := ⟨g8, 7, none⟩) (.inr (show w.heap.size ≤ g8 by have h1 := HLT.out; omega)) ((.bool true)))
                replace HH := Aside0.mk (HH.out.set H8.out (by decide) 7 ((.bool true)))
                replace H4 := Aside0.mk (blk_far (p := ⟨g8, 7, none⟩) H4.out (show g4 ≠ g8 by have h1 := HLT.out; omega) ((.bool true)))
                replace H8 := Aside0.mk (blk_put (cs' := #[(.slice D0 k0 j0), (.slice D1 k1 j1), (.int .u32 s2.first), (.int .u32 s2.pg), (.int .u32 0), (.slice D5 k5 j5), (.slice D6 k6 j6), (.bool true)]) H8.out 7 ((.bool true)) rfl)
                generalize (World.setCell (World.setCell (World.setCell (World.setCell (World.setCell (World.setCell (World.setCell (World.setCell W11 ⟨g8, 0, none⟩ ((.slice D0 k0 j0))) ⟨g8, 1, none⟩ ((.slice D1 k1 j1))) ⟨g8, 2, none⟩ ((.int .u32 s2.first))) ⟨g8, 3, none⟩ ((.int .u32 s2.pg))) ⟨g8, 4, none⟩ ((.int .u32 0))) ⟨g8, 5, none⟩ ((.slice D5 k5 j5))) ⟨g8, 6, none⟩ ((.slice D6 k6 j6))) ⟨g8, 7, none⟩ ((.bool true))) = W12 at HB HK HH H4 H8  ⊢
                by_cases hz : E1 = 0
                · have hq := HQ3.out
                  rw [if_pos hz] at hq
                  simp only [if_true] at hq
                  subst hz
                  have HQ4 := Aside0.mk hq
                  clear hq
                  go_wp2
                  go_meet
                  exact ⟨s2, D0, k0, j0, D1, k1, j1, D5, k5, j5, D6, k6, j6, HQ4, ⟨HS2.out.1, HS2.out.2.1, HS2.out.2.2.1, by rw [(HS2.out.2.2.2 (by first | rfl | trivial)).1]; exact HQQ.out.2.2.1.2⟩, H8, H4, HH, HB, HK, HS⟩
                · have hq := HQ3.out
                  rw [if_neg hz] at hq
                  dsimp only at hq
                  rw [if_neg hz] at hq
                  injection hq with hq1 hq2
                  injection hq2 with hq2 hq3
                  subst hq1 hq2 hq3
                  have c1_ : (E1 != 0) = true := bne_iff_ne.mpr hz
                  have HZ := Aside0.mk hz
                  clear hz
                  have hxx := HXX.out
                  rw [if_neg HZ.out] at hxx
                  subst hxx
                  clear HXX
                  have pd0 := (blk_cell H8.out 0).trans rfl
                  have pd1 := (blk_cell H8.out 1).trans rfl
                  have pd2 := (blk_cell H8.out 2).trans rfl
                  have pd3 := (blk_cell H8.out 3).trans rfl
                  have pd4 := (blk_cell H8.out 4).trans rfl
                  have pd5 := (blk_cell H8.out 5).trans rfl
                  have pd6 := (blk_cell H8.out 6).trans rfl
                  have pd7 := (blk_cell H8.out 7).trans rfl
                  have pc0 := (blk_cell H4.out 0).trans rfl
                  have pc1 := (blk_cell H4.out 1).trans rfl
                  have pc2 := (blk_cell H4.out 2).trans rfl
                  have pc3 := (blk_cell H4.out 3).trans rfl
                  have pc4 := (blk_cell H4.out 4).trans rfl
                  have pc5 := (blk_cell H4.out 5).trans rfl
                  have pc6 := (blk_cell H4.out 6).trans rfl
                  have pc7 := (blk_cell H4.out 7).trans rfl
                  have pcf0 := blk_frozen H4.out 0
                  have pcf1 := blk_frozen H4.out 1
                  have pcf2 := blk_frozen H4.out 2
                  have pcf3 := blk_frozen H4.out 3
                  have pcf4 := blk_frozen H4.out 4
                  have pcf5 := blk_frozen H4.out 5
                  have pcf6 := blk_frozen H4.out 6
                  have pcf7 := blk_frozen H4.out 7
                  have pcl := blk_lt H4.out
                  go_wp2
                  have q0 := H4
                  have q1 := Aside0.mk (blk_put (cs' := #[(.slice D0 k0 j0), (.slice none 0 0), (.int .u32 0), (.int .u32 0), (.int .u32 0), (.slice none 0 0), (.slice none 0 0), (.bool false)]) q0.out 0 ((.slice D0 k0 j0)) rfl)
                  have q2 := Aside0.mk (blk_put (cs' := #[(.slice D0 k0 j0), (.slice D1 k1 j1), (.int .u32 0), (.int .u32 0), (.int .u32 0), (.slice none 0 0), (.slice none 0 0), (.bool false)]) q1.out 1 ((.slice D1 k1 j1)) rfl)
                  have q3 := Aside0.mk (blk_put (cs' := #[(.slice D0 k0 j0), (.slice D1 k1 j1), (.int .u32 s2.first), (.int .u32 0), (.int .u32 0), (.slice none 0 0), (.slice none 0 0), (.bool false)]) q2.out 2 ((.int .u32 s2.first)) rfl)
                  have q4 := Aside0.mk (blk_put (cs' := #[(.slice D0 k0 j0), (.slice D1 k1 j1), (.int .u32 s2.first), (.int .u32 s2.pg), (.int .u32 0), (.slice none 0 0), (.slice none 0 0), (.bool false)]) q3.out 3 ((.int .u32 s2.pg)) rfl)
                  have q5 := Aside0.mk (blk_put (cs' := #[(.slice D0 k0 j0), (.slice D1 k1 j1), (.int .u32 s2.first), (.int .u32 s2.pg), (.int .u32 0), (.slice none 0 0), (.slice none 0 0), (.bool false)]) q4.out 4 ((.int .u32 0)) rfl)
                  have q6 := Aside0.mk (blk_put (cs' := #[(.slice D0 k0 j0), (.slice D1 k1 j1), (.int .u32 s2.first), (.int .u32 s2.pg), (.int .u32 0), (.slice D5 k5 j5), (.slice none 0 0), (.bool false)]) q5.out 5 ((.slice D5 k5 j5)) rfl)
                  have q7 := Aside0.mk (blk_put (cs' := #[(.slice D0 k0 j0), (.slice D1 k1 j1), (.int .u32 s2.first), (.int .u32 s2.pg), (.int .u32 0), (.slice D5 k5 j5), (.slice D6 k6 j6), (.bool false)]) q6.out 6 ((.slice D6 k6 j6)) rfl)
                  have q8 := Aside0.mk (blk_put (cs' := #[(.slice D0 k0 j0), (.slice D1 k1 j1), (.int .u32 s2.first), (.int .u32 s2.pg), (.int .u32 0), (.slice D5 k5 j5), (.slice D6 k6 j6), (.bool true)]) q7.out 7 ((.bool true)) rfl)
                  have hgb : w0.heap.size ≤ g4 := by have h1 := HLT.out; have h2 := HB0.out.size; omega
                  have hgw : w.heap.size ≤ g4 := by have h1 := HLT.out; omega
                  have HX := Aside0.mk (Hv.set (Hv.set (Hv.set (Hv.set (Hv.set (Hv.set (Hv.set (Hv.set HH.out q0.out (by decide) 0 ((.slice D0 k0 j0))) q1.out (by decide) 1 ((.slice D1 k1 j1))) q2.out (by decide) 2 ((.int .u32 s2.first))) q3.out (by decide) 3 ((.int .u32 s2.pg))) q4.out (by decide) 4 ((.int .u32 0))) q5.out (by decide) 5 ((.slice D5 k5 j5))) q6.out (by decide) 6 ((.slice D6 k6 j6))) q7.out (by decide) 7 ((.bool true)))
                  refine bodyPost_ret (results_cell1 rfl _ _ g4 43 #[(.slice D0 k0 j0), (.slice D1 k1 j1), (.int .u32 s2.first), (.int .u32 s2.pg), (.int .u32 0), (.slice D5 k5 j5), (.slice D6 k6 j6), (.bool true)] (0, 0) _ rfl q8.out Try.underlying43 rfl (by kernel_rfl)) rfl ?_
                  unfold Rp
                  exact ⟨_, _, _, _, _, _, _, _, _, _, _, _, _, _, _, _, rfl, HX.out.r0, HX.out.r1, HX.out.r6, (fun h => absurd h HZ.out), (below_set0 (below_set0 (below_set0 (below_set0 (below_set0 (below_set0 (below_set0 (below_set0 HB.out hgb) hgb) hgb) hgb) hgb) hgb) hgb) hgb), (Kept.setCell (Kept.setCell (Kept.setCell (Kept.setCell (Kept.setCell (Kept.setCell (Kept.setCell (Kept.setCell HK.out (.inr hgw) _) (.inr hgw) _) (.inr hgw) _) (.inr hgw) _) (.inr hgw) _) (.inr hgw) _) (.inr hgw) _) (.inr hgw) _), (fun k h => HS.out k (h.imp id (fun h => h.imp id (fun h => h.elim (fun h => by cases h) .inr))))⟩
            · have cg1 : decide ((room s.rs : Int) < (q.size : Int)) = false := decide_eq_false (by omega)
              have cg2 : decide (room s.rs < q.size) = false := decide_eq_false (by omega)
              rw [addS, if_neg hf] at hq
              simp only [if_true] at hq
              have HQ2 := Aside0.mk hq
              have HFT := Aside0.mk (Nat.le_of_not_lt hf)
              clear hq hf hqs
              go_step
              go_cut [58] (fun v58 wc => v58 = .bool false ∧ Aside0 (Below wr.heap.size wr wc))
              case first =>
                go_region_law (refine goes_ Try.func44 (by kernel_rfl) rfl #[.agg #[.int .u32 0, .slice B5 s.rs.length e5]] rfl rfl rfl (by simp [Act.eval, Act.put]) ?_; (with_reducible refine HRM.out.mono ?_); rintro en wx ⟨rfl, hb_⟩; refine ⟨_, rfl, ?_⟩; have HBX := Aside0.mk (below_then (below_drew1 (Below.refl wr.heap.size wr)) (Nat.le_refl _) hb_); clear hb_; have hx0x := (HBX.out.cell (World.block_lt_of_cell? wr _ hx0)).trans hx0)
                all_goals
                  go_wp2
                  go_meet
                  exact ⟨rfl, HBX⟩
              case rest =>
                obtain ⟨rfl, HBc⟩ := hcut
                clear pd4 pd5 hx0 cg1 cg2 HRM HR5
                replace H8 := Aside0.mk (blk_below H8.out HBc.out)
                replace H4 := Aside0.mk (blk_below H4.out HBc.out)
                replace HH := Aside0.mk (HH.out.below HBc.out)
                replace HB := Aside0.mk (below_then HB.out HB.out.size HBc.out)
                replace HK := Aside0.mk (HK.out.below HBc.out)
                clear HBc
                go_wp2
                go_meet
                exact ⟨s, B0, m0, e0, B1, s.t.length, e1, B5, s.rs.length, e5, B6, m6, e6, HQ2, ⟨HSO.out.1, HSO.out.2.1, HSO.out.2.2.1, HFT.out⟩, H8, H4, HH, HB, HK, HS⟩
          case rest =>
            clear H8 H4 HH HB HK HS hx0 HR5 hq hqs
            obtain ⟨s', B0, m0, e0, B1, m1, e1, B5, m5, e5, B6, m6, e6, HQ, HS2, H8, H4, HH, HB, HK, HS⟩ := hcut
            obtain rfl : m5 = s'.rs.length := (Kd.R_reads' HH.out.r5).1.trans (PureSl.txt_len _)
            obtain ⟨y, hy⟩ : ∃ y, IntKind.u16.wrap (s'.rs.length : Int) = y := ⟨_, rfl⟩
            replace HQ := Aside0.mk (show fillS (l.drop (i + 1).toNat) { s' with rs := s'.rs ++ [r] } (o ++ [⟨s'.pg, y⟩]) = (E, S, O) by rw [← hy]; exact HQ.out)
            have pd3 := (blk_cell H8.out 3).trans rfl
            have pd5 := (blk_cell H8.out 5).trans rfl
            have pd6 := (blk_cell H8.out 6).trans rfl
            go_upto_region 19 with ((with_reducible refine gate_builtin (b := .append) (xs := #[.tmp 70, .tmp 79]) rfl ?_); at_builtin; refine Kd.R_append k50 (w0 := w0) w0.heap.size rfl (.tmp 70) (.tmp 79) 37 50 (.agg #[(.int .u32 0), (.int .u16 0)]) 8 rfl Try.underlying37 info50 rfl (by decide) (by omega) (.slice B6 m6 e6) o ⟨s'.pg, y⟩ [.int .u32 s'.pg, .int .u16 y] (fun _ => True) (fun _ => False) rfl (by first | (go_simp; done) | (go_simp; rfl)) (k50_mkM _ _ _ ⟨s'.pg, y⟩) (fun _ hk => hk.elim) (fun _ _ => trivial) HH.out.r6 HB.out HB.out.size (by have h1 := HI.out; have h2 := HSO.out.2.2.2; have h3 := HL.out; have h4 := HC2.out; omega) ?_; intro v6 w6 ho hb hg_ hat; (obtain ⟨Ax, cx, ex⟩ := Kd.R_slice ho); generalize List.length _ = nx_ at ex; subst ex; clear pd3 pd5 pd6; replace H8 := Aside0.mk (blk_grown H8.out hg_ (Kd.R_ne HH.out.r6 H8.out (by decide))); replace H4 := Aside0.mk (blk_grown H4.out hg_ (Kd.R_ne HH.out.r6 H4.out (by decide))); have HS0 := HS; replace HS := Aside0.mk (show ∀ k, Sv (.slice B0 m0 e0) (.slice B1 m1 e1) (.slice B5 s'.rs.length e5) (.slice Ax nx_ cx) k → Sv (.slice A0 n0 c0) (.slice A1 t.length c1) (.slice none 0 0) (.slice none 0 0) k ∨ w.heap.size ≤ k from fun k h => h.elim (fun h => HS0.out k (.inl h)) (fun h => h.elim (fun h => HS0.out k (.inr (.inl h))) (fun h => h.elim (fun h => HS0.out k (.inr (.inr (.inl h)))) (fun h => hat.elim (fun e => HS0.out k (.inr (.inr (.inr (h.trans e))))) (fun ⟨b, e, hl⟩ => .inr (by rw [e] at h; injection h with h; rw [h]; exact Nat.le_trans HK.out.1 hl)))))); replace HK := Aside0.mk (Kept.of_grown hg_ HK.out (fun k hk => HS0.out k (.inr (.inr (.inr hk.symm))))); replace HH := Aside0.mk (HH.out.places hg_ ho); replace HB := Aside0.mk hb; clear ho hb hg_ hat HS0; have pd6 := (blk_cell H8.out 6).trans rfl; have pdf6 := blk_frozen H8.out 6; have pdl := blk_lt H8.out)
            clear pd6 pdf6 pdl
            replace HB := Aside0.mk (below_set0 (j := 6) (v := (.slice Ax nx_ cx)) HB.out (show w0.heap.size ≤ g8 by have h1 := HLT.out; have h2 := HB0.out.size; omega))
            replace HK := Aside0.mk (HK.out.setCell (p := ⟨g8, 6, none⟩) (.inr (show w.heap.size ≤ g8 by have h1 := HLT.out; omega)) ((.slice Ax nx_ cx)))
            replace HH := Aside0.mk (HH.out.set H8.out (by decide) 6 ((.slice Ax nx_ cx)))
            replace H4 := Aside0.mk (blk_far (p := ⟨g8, 6, none⟩) H4.out (show g4 ≠ g8 by have h1 := HLT.out; omega) ((.slice Ax nx_ cx)))
            replace H8 := Aside0.mk (blk_put (cs' := #[(.slice B0 m0 e0), (.slice B1 m1 e1), (.int .u32 s'.first), (.int .u32 s'.pg), (.int .u32 0), (.slice B5 s'.rs.length e5), (.slice Ax nx_ cx), (.bool true)]) H8.out 6 ((.slice Ax nx_ cx)) rfl)
            generalize (World.setCell w6 ⟨g8, 6, none⟩ ((.slice Ax nx_ cx))) = W2 at HB HK HH H4 H8  ⊢
            have HW2 := Aside0.mk (And.intro HB.out.size (And.intro HK.out.1 (show ∀ k, Sv (.slice B0 m0 e0) (.slice B1 m1 e1) (.slice B5 s'.rs.length e5) (.slice Ax nx_ cx) k → k < W2.heap.size from fun k hk => HH.out.lt hk)))
            have HR5 := Aside0.mk (show s'.rs.length ≤ 100000 by have h1 := HS2.out.1.rs.count; omega)
            go_upto_region 21 with (first
              | ((with_reducible refine gate_dst (N := 82) rfl ?_); refine Kd.R_lit Kd.string (w0 := W2) W2.heap.size 9 ?hg (N := 82) ?hd (xs := ([] : List ByteArray)) (inner := []) (ok := fun _ => True) (okp := fun _ => True) ?hr ?hp (fun _ hk => hk) trivial (Below.refl _ _) (Nat.le_refl _) (by simp) ?_; (case hd => rfl); (case hg => rfl); (case hr => first | (go_simp; done) | (go_simp; rfl)); (case hp => exact Reps.none _ _); intro v82 wy ho hb hg_ hn_; (obtain ⟨Ay, cy, ey⟩ := Kd.R_slice ho); generalize List.length _ = ny_ at ey; subst ey; replace H8 := Aside0.mk (blk_below H8.out hb); replace H4 := Aside0.mk (blk_below H4.out hb); replace HH := Aside0.mk (HH.out.below hb); replace HB := Aside0.mk (below_then HB.out HB.out.size hb); replace HK := Aside0.mk (HK.out.below hb); have HY5 := Aside0.mk ho; have HYS := Aside0.mk hb.size; clear ho hb hg_ hn_; have pd5 := (blk_cell H8.out 5).trans rfl)
              | ((with_reducible refine gate_builtin (b := .append) (xs := #[.tmp 83, .tmp 86]) rfl ?_); at_builtin; refine Kd.R_append_rows Kd.string (w0 := wy) W2.heap.size rfl (.tmp 83) (.tmp 86) 29 9 (.string ⟨#[]⟩) 16 rfl Try.underlying29 info9 rfl (by decide) (by omega) (.slice Ay ny_ cy) ([] : List ByteArray) (txt s'.rs) B5 s'.rs.length e5 (fun _ => True) (fun _ => False) rfl rfl HY5.out ?aR (fun _ _ h => h) (fun _ h => h.elim) (fun _ _ => trivial) (Below.refl _ _) HYS.out (by have h1 := HR5.out; simp; omega) ?_; (case aR => (have h5 := (Kd.R_reads' HH.out.r5).2.2); rw [PureSl.txt_len] at h5; exact h5); intro v87 wz ho hb hg_ hat; rw [List.nil_append] at ho; (obtain ⟨Az, cz, ez⟩ := Kd.R_slice ho); generalize List.length _ = nz_ at ez; subst ez; clear pd5; (have hrow : ∀ k, (Value.slice Ay ny_ cy).ownBlock = some k → W2.heap.size ≤ k := Kd.R_base HY5.out); replace H8 := Aside0.mk (blk_grown H8.out hg_ (Kd.R_ne HY5.out H8.out (by decide))); replace H4 := Aside0.mk (blk_grown H4.out hg_ (Kd.R_ne HY5.out H4.out (by decide))); replace HH := Aside0.mk (HH.out.grown hg_ (fun k hk hs => by have h1 := hrow k hk; have h2 := HW2.out.2.2 k hs; omega)); replace HB := Aside0.mk (Below.grown HB.out hg_ HB.out.size (fun k hk => Nat.le_trans HW2.out.1 (hrow k hk))); replace HK := Aside0.mk (Kept.of_grown hg_ HK.out (fun k hk => .inr (Nat.le_trans HW2.out.2.1 (hrow k hk)))); have HZ5 := Aside0.mk ho; have HZS := Aside0.mk (show W2.heap.size ≤ wz.heap.size from Nat.le_trans HYS.out hg_.size); clear ho hb hg_ hat hrow))
            have hx9 := HAT.out _ HK.out
            go_upto_region 22 with ((with_reducible refine gate_builtin (b := .append) (xs := #[.tmp 88, .tmp 93]) rfl ?_); at_builtin; refine Kd.R_append Kd.string (w0 := wz) W2.heap.size rfl (.tmp 88) (.tmp 93) 29 9 (.string ⟨#[]⟩) 16 rfl Try.underlying29 info9 rfl (by decide) (by omega) (.slice Az nz_ cz) (txt s'.rs) q [.string q] (fun _ => True) (fun _ => False) rfl (by first | (go_simp; done) | (go_simp; rfl)) rfl (fun _ hk => hk.elim) (fun _ _ => trivial) HZ5.out (Below.refl _ _) HZS.out (by rw [PureSl.txt_len]; have h1 := HR5.out; omega) ?_; intro v94 wq ho hb hg_ hat; (obtain ⟨Aq, cq, eq_⟩ := Kd.R_slice ho); generalize List.length _ = nq_ at eq_; subst eq_; clear hx9; (have hrow : ∀ k, (Value.slice Az nz_ cz).ownBlock = some k → W2.heap.size ≤ k := Kd.R_base HZ5.out); replace H8 := Aside0.mk (blk_grown H8.out hg_ (Kd.R_ne HZ5.out H8.out (by decide))); replace H4 := Aside0.mk (blk_grown H4.out hg_ (Kd.R_ne HZ5.out H4.out (by decide))); replace HH := Aside0.mk (HH.out.grown hg_ (fun k hk hs => by have h1 := hrow k hk; have h2 := HW2.out.2.2 k hs; omega)); replace HB := Aside0.mk (Below.grown HB.out hg_ HB.out.size (fun k hk => Nat.le_trans HW2.out.1 (hrow k hk))); replace HK := Aside0.mk (Kept.of_grown hg_ HK.out (fun k hk => .inr (Nat.le_trans HW2.out.2.1 (hrow k hk)))); have HQ5 := Aside0.mk ho; clear ho hb hg_ hat hrow; have pd5 := (blk_cell H8.out 5).trans rfl; have pdf5 := blk_frozen H8.out 5; have pdl := blk_lt H8.out)
            clear pd5 pdf5 pdl
            replace HB := Aside0.mk (below_set0 (j := 5) (v := (.slice Aq nq_ cq)) HB.out (show w0.heap.size ≤ g8 by have h1 := HLT.out; have h2 := HB0.out.size; omega))
            replace HK := Aside0.mk (HK.out.setCell (p := ⟨g8, 5, none⟩) (.inr (show w.heap.size ≤ g8 by have h1 := HLT.out; omega)) ((.slice Aq nq_ cq)))
            replace HH := Aside0.mk (HH.out.set H8.out (by decide) 5 ((.slice Aq nq_ cq)))
            replace H4 := Aside0.mk (blk_far (p := ⟨g8, 5, none⟩) H4.out (show g4 ≠ g8 by have h1 := HLT.out; omega) ((.slice Aq nq_ cq)))
            replace HQ5 := Aside0.mk (Kd.R_set HQ5.out H8.out (by decide) 5 ((.slice Aq nq_ cq)))
            replace H8 := Aside0.mk (blk_put (cs' := #[(.slice B0 m0 e0), (.slice B1 m1 e1), (.int .u32 s'.first), (.int .u32 s'.pg), (.int .u32 0), (.slice Aq nq_ cq), (.slice Ax nx_ cx), (.bool true)]) H8.out 5 ((.slice Aq nq_ cq)) rfl)
            generalize (World.setCell wq ⟨g8, 5, none⟩ ((.slice Aq nq_ cq))) = W3 at HB HK HH H4 H8 HQ5 ⊢
            go_wp2
            go_roundg (gk - 1)
            case measure => have h1 := HI.out; have h2 := HC2.out; omega
            case rel =>
              have h1 := HI.out
              have h2 := HC2.out
              have hb5 := Kd.R_base HQ5.out
              have h5 : Kd.R Kd.string 9 W3 w0.heap.size (fun _ => True) (.slice Aq nq_ cq) (txt (s'.rs ++ [r])) := by
                rw [PureSl.txt_more, HQQ.out.1]
                exact Kd.R_lower HQ5.out HW2.out.1
              refine ⟨i + 1, { s' with rs := s'.rs ++ [r] }, o ++ [⟨s'.pg, y⟩], B0, m0, e0, B1, m1, e1, Aq, nq_, cq, Ax, nx_, cx, by first | rfl | rw [w2], ⟨by omega⟩, HQ, ⟨⟨HS2.out.1.rs.more r HQQ.out.2.2.1.1 HQQ.out.2.2.2 HS2.out.2.2.2, HS2.out.1.pg, HS2.out.1.len, HS2.out.1.n4, HS2.out.1.by_⟩, HS2.out.2.1, HS2.out.2.2.1, by rw [List.length_append, List.length_singleton]; have := HSO.out.2.2.2; omega⟩, H8, H4, ⟨HH.out.recs h5 (fun k hk h0 => ?_)⟩, HB, HK, ⟨fun k hk => ?_⟩⟩
              · have h3 := hb5 k hk
                have h4 := HW2.out.2.2 k (.inl h0.symm)
                omega
              · rcases hk with hk | hk | hk | hk
                · exact HS.out k (.inl hk)
                · exact HS.out k (.inr (.inl hk))
                · exact .inr (Nat.le_trans HW2.out.2.1 (hb5 k hk.symm))
                · exact HS.out k (.inr (.inr (.inr hk)))
        · have c2b0 : decide (i < (l.length : Int)) = false := decide_eq_false c2
          have hq := HQ.out
          rw [List.drop_of_length_le (by have := HI.out; omega), fillS] at hq
          injection hq with hq1 hq2
          injection hq2 with hq2 hq3
          subst hq1 hq2 hq3
          have hxx := HXX.out
          rw [if_pos (by first | rfl | trivial)] at hxx
          subst hxx
          obtain rfl : m1 = s.t.length := (Kd.R_reads' HH.out.r1).1
          clear c2 HQ HXX
          have pd0 := (blk_cell H8.out 0).trans rfl
          have pd1 := (blk_cell H8.out 1).trans rfl
          have pd2 := (blk_cell H8.out 2).trans rfl
          have pd3 := (blk_cell H8.out 3).trans rfl
          have pd4 := (blk_cell H8.out 4).trans rfl
          have pd5 := (blk_cell H8.out 5).trans rfl
          have pd6 := (blk_cell H8.out 6).trans rfl
          have pd7 := (blk_cell H8.out 7).trans rfl
          go_upto_region 23 with fail
          go_wp2_with (go_at_call 45; (with_reducible refine (write_h n HSO.out.2.2.1 s.first true HSO.out.1.rs HSO.out.1.pg.1 HSO.out.1.pg.2 HSO.out.1.len HSO.out.1.n4.2 HB.out HH.out).mono ?_); rintro en wb ⟨D0, k0, j0, D1, k1, j1, D5, k5, j5, D6, k6, j6, rfl, hh_, hb_, hk_, hs_⟩; clear pd0 pd1 pd2 pd3 pd4 pd5 pd6 pd7; replace H4 := Aside0.mk (blk_kept H4.out hk_ (HH.out.not H4.out (by decide))); have HS0 := HS; replace HS := Aside0.mk (fun k hk => (hs_ k hk).elim (HS0.out k) (fun h => .inr (Nat.le_trans HK.out.1 h))); replace HK := Aside0.mk (HK.out.then_ hk_ HS0.out); replace HH := Aside0.mk hh_; replace HB := Aside0.mk hb_; clear hh_ hb_ hk_ hs_ HS0; have pc0 := (blk_cell H4.out 0).trans rfl; have pc1 := (blk_cell H4.out 1).trans rfl; have pc2 := (blk_cell H4.out 2).trans rfl; have pc3 := (blk_cell H4.out 3).trans rfl; have pc4 := (blk_cell H4.out 4).trans rfl; have pc5 := (blk_cell H4.out 5).trans rfl; have pc6 := (blk_cell H4.out 6).trans rfl; have pc7 := (blk_cell H4.out 7).trans rfl; have pcf0 := blk_frozen H4.out 0; have pcf1 := blk_frozen H4.out 1; have pcf2 := blk_frozen H4.out 2; have pcf3 := blk_frozen H4.out 3; have pcf4 := blk_frozen H4.out 4; have pcf5 := blk_frozen H4.out 5; have pcf6 := blk_frozen H4.out 6; have pcf7 := blk_frozen H4.out 7; have pcl := blk_lt H4.out)
          have q0 := H4
          have q1 := Aside0.mk (blk_put (cs' := #[(.slice D0 k0 j0), (.slice none 0 0), (.int .u32 0), (.int .u32 0), (.int .u32 0), (.slice none 0 0), (.slice none 0 0), (.bool false)]) q0.out 0 ((.slice D0 k0 j0)) rfl)
          have q2 := Aside0.mk (blk_put (cs' := #[(.slice D0 k0 j0), (.slice D1 k1 j1), (.int .u32 0), (.int .u32 0), (.int .u32 0), (.slice none 0 0), (.slice none 0 0), (.bool false)]) q1.out 1 ((.slice D1 k1 j1)) rfl)
          have q3 := Aside0.mk (blk_put (cs' := #[(.slice D0 k0 j0), (.slice D1 k1 j1), (.int .u32 s.first), (.int .u32 0), (.int .u32 0), (.slice none 0 0), (.slice none 0 0), (.bool false)]) q2.out 2 ((.int .u32 s.first)) rfl)
          have q4 := Aside0.mk (blk_put (cs' := #[(.slice D0 k0 j0), (.slice D1 k1 j1), (.int .u32 s.first), (.int .u32 s.pg), (.int .u32 0), (.slice none 0 0), (.slice none 0 0), (.bool false)]) q3.out 3 ((.int .u32 s.pg)) rfl)
          have q5 := Aside0.mk (blk_put (cs' := #[(.slice D0 k0 j0), (.slice D1 k1 j1), (.int .u32 s.first), (.int .u32 s.pg), (.int .u32 0), (.slice none 0 0), (.slice none 0 0), (.bool false)]) q4.out 4 ((.int .u32 0)) rfl)
          have q6 := Aside0.mk (blk_put (cs' := #[(.slice D0 k0 j0), (.slice D1 k1 j1), (.int .u32 s.first), (.int .u32 s.pg), (.int .u32 0), (.slice D5 k5 j5), (.slice none 0 0), (.bool false)]) q5.out 5 ((.slice D5 k5 j5)) rfl)
          have q7 := Aside0.mk (blk_put (cs' := #[(.slice D0 k0 j0), (.slice D1 k1 j1), (.int .u32 s.first), (.int .u32 s.pg), (.int .u32 0), (.slice D5 k5 j5), (.slice D6 k6 j6), (.bool false)]) q6.out 6 ((.slice D6 k6 j6)) rfl)
          have q8 := Aside0.mk (blk_put (cs' := #[(.slice D0 k0 j0), (.slice D1 k1 j1), (.int .u32 s.first), (.int .u32 s.pg), (.int .u32 0), (.slice D5 k5 j5), (.slice D6 k6 j6), (.bool true)]) q7.out 7 ((.bool true)) rfl)
          have hgb : w0.heap.size ≤ g4 := by have h1 := HLT.out; have h2 := HB0.out.size; omega
          have hgw : w.heap.size ≤ g4 := by have h1 := HLT.out; omega
          have HX := Aside0.mk (Hv.set (Hv.set (Hv.set (Hv.set (Hv.set (Hv.set (Hv.set (Hv.set HH.out q0.out (by decide) 0 ((.slice D0 k0 j0))) q1.out (by decide) 1 ((.slice D1 k1 j1))) q2.out (by decide) 2 ((.int .u32 s.first))) q3.out (by decide) 3 ((.int .u32 s.pg))) q4.out (by decide) 4 ((.int .u32 0))) q5.out (by decide) 5 ((.slice D5 k5 j5))) q6.out (by decide) 6 ((.slice D6 k6 j6))) q7.out (by decide) 7 ((.bool true)))
          refine bodyPost_ret (results_cell1 rfl _ _ g4 43 #[(.slice D0 k0 j0), (.slice D1 k1 j1), (.int .u32 s.first), (.int .u32 s.pg), (.int .u32 0), (.slice D5 k5 j5), (.slice D6 k6 j6), (.bool true)] (0, 0) _ rfl q8.out Try.underlying43 rfl (by kernel_rfl)) rfl ?_
          unfold Rp
          exact ⟨_, _, _, _, _, _, _, _, _, _, _, _, _, _, _, _, rfl, HX.out.r0, HX.out.r1, HX.out.r6, (fun _ => rfl), (below_set0 (below_set0 (below_set0 (below_set0 (below_set0 (below_set0 (below_set0 (below_set0 HB.out hgb) hgb) hgb) hgb) hgb) hgb) hgb) hgb), (Kept.setCell (Kept.setCell (Kept.setCell (Kept.setCell (Kept.setCell (Kept.setCell (Kept.setCell (Kept.setCell HK.out (.inr hgw) _) (.inr hgw) _) (.inr hgw) _) (.inr hgw) _) (.inr hgw) _) (.inr hgw) _) (.inr hgw) _) (.inr hgw) _), (fun k h => HS.out k (h.imp id (fun h => h.imp id (fun h => h.elim (fun h => by cases h) .inr))))⟩
/-- The reference's Fill. -/
theorem rfill_ok (l : List (List Int)) (hB : Below w0.heap.size w0 w) (h0 : Kd.R Kd.string 9 w w0.heap.size (fun _ => True) (.slice A0 n0 c0) (pgs d n)) (h1 : Kd.R Kd.bool 4 w w0.heap.size (fun _ => True) (.slice A1 t.length c1) t) (hn : t.length = n) (hF : Kd.F Kd.string w okr AL l.length (txt l)) (hokr : ∀ k, okr k → ¬ Sv (.slice A0 n0 c0) (.slice A1 t.length c1) (.slice none 0 0) (.slice none 0 0) k) (hl : l.length ≤ 100000) (hp_ : d.length = 512 * t.length ∧ 0 < t.length ∧ t.length ≤ 4096 ∧ By d) (hby : ∀ r ∈ l, By r) :
    Calls Try.prog 15 #[.agg #[.slice A0 n0 c0, .slice A1 t.length c1], .slice AL l.length cL] w fun e w' => Rp w0 w (Sv (.slice A0 n0 c0) (.slice A1 t.length c1) (.slice none 0 0) (.slice none 0 0)) n (fillF d t l).1 (fillF d t l).2.1.d (fillF d t l).2.1.t (fillF d t l).2.1.first (fillF d t l).2.2 e w' := by
  unfold fillF
  by_cases hg : l.any badR = true
  · rw [if_pos hg]
    exact rfill_bad l hB h0 h1 hn hF hokr hl hg
  · rw [if_neg hg]
    have hg2 : l.any badR = false := by simpa using hg
    obtain ⟨E1, s1, hT⟩ : ∃ E1 s1, nextS (s0_ d t) = (E1, s1) := ⟨_, _, rfl⟩
    by_cases hz : E1 = 0
    · subst hz
      rw [show (nextS ⟨d, t, 0, [], false, 0⟩) = (0, s1) from hT]
      simp only [if_true]
      obtain ⟨E, S, O, he⟩ : ∃ E S O, fillS l s1 [] = (E, S, O) := ⟨_, _, _, rfl⟩
      rw [he]
      have hx := rfill_goes l hB h0 h1 hn hF hokr hl hp_ hg2 hby s1 hT E S O he _ rfl (cL := cL)
      by_cases h0 : E = 0
      · subst h0
        simp only [if_true] at hx ⊢
        exact hx
      · simp only [if_neg h0] at hx ⊢
        exact hx
    · rw [show (nextS ⟨d, t, 0, [], false, 0⟩) = (E1, s1) from hT]
      simp only [if_neg hz]
      exact rfill_none l hB h0 h1 hn hF hokr hl hp_ hg2 (E1, s1) hT hz
end
end Go.Proofs.Ytpfegfkniilobaa.Hp
