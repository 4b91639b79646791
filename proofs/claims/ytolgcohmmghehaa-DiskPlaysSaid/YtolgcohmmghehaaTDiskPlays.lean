/- The law DiskPlays is true. Conditions: the numbers are of their kinds. -/
import Derived.Test.YtolgcohmmghehaaDskJ
import Derived.Test.YtolgcohmmghehaaTDiskApart
import Derived.Deep.DeepCutAuto
import Derived.BigQuiet
import Derived.Deep.QuietTactic
namespace Go.Proofs.Ytolgcohmmghehaa.Dsk
open Go.RowKit Go.Proofs.YtolgcohmmghehaaW.PrintWords Go.Proofs.YtolgcohmmghehaaW.PrintLast Go.Proofs.YtolgcohmmghehaaW.PrintMore Go.Proofs.Ytolgcohmmghehaa.Byt Go.Proofs.Ytolgcohmmghehaa.XDiskPlays
set_option linter.unusedVariables false
set_option linter.unusedSimpArgs false
set_option maxRecDepth 100000
theorem DiskPlays_big (pages : Int) (A : Option Addr) (n c : Nat) (w : World) (hbig : (20 < pages ∧ pages ≤ 4096) ∨ 100 < n) : Calls Try.prog 6 #[.int .i64 pages, .slice A n c] w fun e w' => e = .returned (.bool true) ∧ Below w.heap.size w w' := by
  by_cases h1 : 20 < pages
  · have c1 : decide (20 < pages) = true := decide_eq_true h1
    by_cases h2 : pages ≤ 4096
    · have c2 : decide (pages ≤ 4096) = true := decide_eq_true h2
      clear hbig h1 h2
      go_enter Try.func6, Try.ntmps6
      go_wp2_with (go_at_call 15; (with_reducible refine (fixed_ok _).mono ?_); rintro en w1 ⟨rfl, hb⟩; have HB := Aside0.mk hb; clear hb)
      go_ret
      exact ⟨rfl, HB.out⟩
    · have c2 : decide (pages ≤ 4096) = false := decide_eq_false h2
      have c3 : decide (100 < (n : Int)) = true := decide_eq_true (by omega)
      clear hbig h1 h2
      go_enter Try.func6, Try.ntmps6
      go_wp2_with (go_at_call 15; (with_reducible refine (fixed_ok _).mono ?_); rintro en w1 ⟨rfl, hb⟩; have HB := Aside0.mk hb; clear hb)
      go_ret
      exact ⟨rfl, HB.out⟩
  · have c1 : decide (20 < pages) = false := decide_eq_false h1
    have c3 : decide (100 < (n : Int)) = true := decide_eq_true (by omega)
    clear hbig h1
    go_enter Try.func6, Try.ntmps6
    go_wp2_with (go_at_call 15; (with_reducible refine (fixed_ok _).mono ?_); rintro en w1 ⟨rfl, hb⟩; have HB := Aside0.mk hb; clear hb)
    go_ret
    exact ⟨rfl, HB.out⟩
theorem DiskPlays_bad (pages : Int) (A : Option Addr) (n c : Nat) (w : World) (hbad : ¬ (1 ≤ pages ∧ pages ≤ 4096)) (hn : n ≤ 100) : Calls Try.prog 6 #[.int .i64 pages, .slice A n c] w fun e w' => e = .returned (.bool true) ∧ Below w.heap.size w w' := by
  have c3 : decide (100 < (n : Int)) = false := decide_eq_false (by omega)
  have HB := Aside0.mk hbad
  have HB0 := Aside0.mk (Below.refl w.heap.size w)
  by_cases h1 : 20 < pages
  · have c1 : decide (20 < pages) = true := decide_eq_true h1
    have c2 : decide (pages ≤ 4096) = false := decide_eq_false (by omega)
    clear hbad h1 hn
    go_enter Try.func6, Try.ntmps6
    go_wp2_with (first
      | (go_at_call 20; (with_reducible refine (new_bad _ pages HB.out).mono ?_); rintro en w1 ⟨rfl, rfl⟩)
      | (go_at_call 27; (with_reducible refine (rowlockref06_New.calls 4101 pages [] [] false _ (refnew_bad pages HB.out)).mono ?_); rintro en w2 ⟨v0, v1, rfl, ho0, ho1, hb⟩; obtain ⟨A0, c0, e0⟩ := Kd.R_slice ho0; subst e0; obtain ⟨A1, c1', e1⟩ := Kd.R_slice ho1; subst e1; have HB2 := Aside0.mk (below_then HB0.out HB0.out.size hb); clear ho0 ho1 hb)
      | (go_at_call 15; (with_reducible refine (fixed_ok _).mono ?_); rintro en w3 ⟨rfl, hb⟩; have HB3 := Aside0.mk (below_then (below_alloc HB2.out _) (below_alloc HB2.out _).size hb); clear hb))
    go_ret
    exact ⟨rfl, HB3.out⟩
  · have c1 : decide (20 < pages) = false := decide_eq_false h1
    clear hbad h1 hn
    go_enter Try.func6, Try.ntmps6
    go_wp2_with (first
      | (go_at_call 20; (with_reducible refine (new_bad _ pages HB.out).mono ?_); rintro en w1 ⟨rfl, rfl⟩)
      | (go_at_call 27; (with_reducible refine (rowlockref06_New.calls 4101 pages [] [] false _ (refnew_bad pages HB.out)).mono ?_); rintro en w2 ⟨v0, v1, rfl, ho0, ho1, hb⟩; obtain ⟨A0, c0, e0⟩ := Kd.R_slice ho0; subst e0; obtain ⟨A1, c1', e1⟩ := Kd.R_slice ho1; subst e1; have HB2 := Aside0.mk (below_then HB0.out HB0.out.size hb); clear ho0 ho1 hb)
      | (go_at_call 15; (with_reducible refine (fixed_ok _).mono ?_); rintro en w3 ⟨rfl, hb⟩; have HB3 := Aside0.mk (below_then (below_alloc HB2.out _) (below_alloc HB2.out _).size hb); clear hb))
    go_ret
    exact ⟨rfl, HB3.out⟩
theorem Dk.ln {w : World} {ok : Nat → Prop} {g : Nat} {d : List Int} {t : List Bool} (h : Dk w ok g d t) : d.length = 512 * t.length ∧ 0 < t.length ∧ t.length ≤ 4096 := by
  obtain ⟨_, h2, h3, h4, _⟩ := h
  exact ⟨h2, h3, h4⟩
theorem Inv.start {w w1 w2 : World} {g n : Nat} {v0 v1 : Value} {d : List Int} {t : List Bool} (hd : Dk w1 (fun k => w.heap.size ≤ k) g d t) (hb1 : Below w.heap.size w w1) (hl : t.length = n) (hy : By d) (hp : Kd.R Kd.string 9 w2 w1.heap.size (fun _ => True) v0 (pgs d n)) (ht : Kd.R Kd.bool 4 w2 w1.heap.size (fun _ => True) v1 t) (hb2 : Below w1.heap.size w1 w2) :
    Inv w (w2.alloc (.cells #[v0, v1] 49)) (fun k => w.heap.size ≤ k ∧ k < w1.heap.size) (fun k => w1.heap.size ≤ k ∧ k < w2.heap.size) g w2.heap.size n v0 v1 d t :=
  ⟨((hd.bound).below hb2).alloc _, hl, hy, blk_new w2 _, Kd.R_alloc (Kd.R_lower (Kd.R_mono (Kd.R_bound hp) (fun _ hk => ⟨hk.2.1, hk.2.2.1⟩)) hb1.size) _, Kd.R_alloc (Kd.R_lower (Kd.R_mono (Kd.R_bound ht) (fun _ hk => ⟨hk.2.1, hk.2.2.1⟩)) hb1.size) _,
    fun k hk => ⟨hk.1, by have := hb2.size; have := hk.2; simp; omega, fun hE => by have := hk.2; have := hE.1; omega⟩, fun k hk => by have := hk.2; simp; omega, ⟨Nat.le_trans hb1.size hb2.size, fun hk => by have := hb2.size; have := hk.2; omega, fun hk => by have := hk.2; omega⟩, below_alloc (below_then hb1 hb1.size hb2) _⟩
theorem clear_nil (W : World) : (Builtin.clear_ #[26] 0 #[.slice none 0 0]).run Try.prog W = .ok (.tuple #[]) W := by simp [Builtin.clear_, run_underlying Try.underlying26]
theorem cut_one (W : World) (g c : Nat) (hc : 512 ≤ c) : (Instr.slice 26 (.slice (some ⟨g, 0, none⟩) 512 c) (some (.int .i64 1)) none none).run Try.prog W = .ok (.slice (some ⟨g, 1, none⟩) 511 (c - 1)) W := by
  obtain ⟨i0, hi0, _, hsz, _⟩ := info_parts info5
  have hel : Try.prog.elem 26 = 5 := by simp [Program.elem, Try.underlying26]
  have hu : Try.prog.underlying 26 = some (.slice (Try.prog.elem 26)) := by rw [hel]; exact Try.underlying26
  rw [run_slice_l W 26 _ 512 c hu .i64 1 (by omega) (by omega), hel]
  have hj : ¬ c = 1 := by omega
  simp [typeInfo, hi0, hsz, sliced, hj, add0]
theorem cut_oneC {w : World} {g c : Nat} {bs : List Int} (h : Kd.C (Kd.int .u8) w (some ⟨g, 0, none⟩) 512 bs) (hl : bs.length = 512) (hc : 512 ≤ c) : Kd.C (Kd.int .u8) w (some ⟨g, 1, none⟩) 511 (bs.drop 1) := by
  rw [← hl] at h
  have hm := Kd.C_drop (m := 1) (c := c) h (by omega) (by omega)
  rw [if_neg (by omega), List.length_drop, hl] at hm
  have e2 : (some (⟨g, 0, none⟩ : Addr)).map (·.add (1 * (Kd.int .u8).sz)) = some ⟨g, 1, none⟩ := by
    show some (Addr.add ⟨g, 0, none⟩ (1 * 1)) = _
    rw [add0]
  rw [e2] at hm
  exact hm
theorem stored {w w6 : World} {gm B : Nat} {v0 v1 u0 u1 : Value} (hx : w6.heap[gm]? = some (.cells #[v0, v1] 49 (0, 0))) :
    w6.heap.size ≤ (((w6.setCell ⟨gm, 0, none⟩ u0).setCell ⟨gm, 1, none⟩ u1).alloc (.cells #[u0, u1] 49)).heap.size ∧
    (∀ k, k < w6.heap.size → k ≠ gm → (((w6.setCell ⟨gm, 0, none⟩ u0).setCell ⟨gm, 1, none⟩ u1).alloc (.cells #[u0, u1] 49)).heap[k]? = w6.heap[k]?) ∧
    (((w6.setCell ⟨gm, 0, none⟩ u0).setCell ⟨gm, 1, none⟩ u1).alloc (.cells #[u0, u1] 49)).heap[gm]? = some (.cells #[u0, u1] 49 (0, 0)) ∧
    (Below B w w6 → B ≤ gm → Below B w (((w6.setCell ⟨gm, 0, none⟩ u0).setCell ⟨gm, 1, none⟩ u1).alloc (.cells #[u0, u1] 49))) := by
  have hs : ((w6.setCell ⟨gm, 0, none⟩ u0).setCell ⟨gm, 1, none⟩ u1).heap.size = w6.heap.size := by simp [World.setCell]
  have hl := blk_lt hx
  refine ⟨by simp [World.setCell], fun k hk hne => (Below.heap_alloc _ _ k (by rw [hs]; exact hk)).trans ((Below.heap_setCell _ _ _ k hne).trans (Below.heap_setCell _ _ _ k hne)), blk_alloc (blk_put (blk_put hx 0 _ rfl) 1 _ rfl) _, fun hb hB => ((hb.setCell (p := ⟨gm, 0, none⟩) hB _).setCell (p := ⟨gm, 1, none⟩) hB _).alloc (by rw [hs]; omega) _⟩
set_option maxHeartbeats 8000000 in
theorem DiskPlays_walk (n : Nat) (A : Option Addr) (c : Nat) (l : List S40) (w : World) (hC : Kd.C k40 w A l.length l) (hn : 1 ≤ n ∧ n ≤ 20) (hl : l.length ≤ 100) (hw : ∀ x ∈ l, Opw x) : Calls Try.prog 6 #[.int .i64 (n : Int), .slice A l.length c] w fun e w' => e = .returned (.bool true) ∧ Below w.heap.size w w' := by
  have c1 : decide (20 < (n : Int)) = false := decide_eq_false (by omega)
  have c3 : decide (100 < (l.length : Int)) = false := decide_eq_false (by omega)
  have hz : (ld (List.replicate (n * 512) 0)).length = n := by rw [ld_zeros, List.length_map, List.length_range]
  have HC := Aside0.mk hC
  have HN := Aside0.mk hn
  have HL := Aside0.mk hl
  have HW := Aside0.mk hw
  have HZ := Aside0.mk hz
  clear hC hn hl hw hz
  go_enter Try.func6, Try.ntmps6
  go_upto_region 9 with (first
    | (go_at_call 20; (with_reducible refine (new_ok _ (n : Int) (by have := HN.out; omega)).mono ?_); rintro en w1 ⟨g, rfl, hd, hb⟩; rw [Int.toNat_natCast] at hd; have HD := Aside0.mk hd; have HB := Aside0.mk hb; clear hd hb)
    | (go_at_call 27; (with_reducible refine (rowlockref06_New.calls 4101 (n : Int) (pgs (List.replicate (n * 512) 0) n) (ld (List.replicate (n * 512) 0)) true _ (refnew_ok n (by have := HN.out; omega))).mono ?_); rintro en w2 ⟨v0, v1, rfl, ho0, ho1, hb⟩; obtain ⟨A0, c0', e0⟩ := Kd.R_slice ho0; rw [pgs_len] at e0; subst e0; obtain ⟨A1, c1', e1⟩ := Kd.R_slice ho1; rw [HZ.out] at e1; subst e1; have HI0 := Aside0.mk (Inv.start HD.out HB.out HZ.out (By.zeros _) ho0 ho1 hb); clear ho0 ho1 hb))
  generalize hw2 : w2.alloc (.cells #[.slice A0 n c0', .slice A1 n c1'] 49) = w2a at HI0 ⊢
  obtain ⟨gm, hgm⟩ : ∃ gm, gm = w2.heap.size := ⟨_, rfl⟩
  rw [← hgm] at HI0 ⊢
  clear hw2 hgm
  go_wp2
  go_loopg [5, 64] l.length (fun kq v5 v64 w' => ∃ (i : Int) (g : Nat) (D E : Nat → Prop) (A0 : Option Addr) (c0' : Nat) (A1 : Option Addr) (c1' : Nat) (d : List Int) (t : List Bool), v5 = .pointer (some ⟨g, 0, none⟩) ∧ v64 = .int .i64 i ∧ Aside0 (0 ≤ i ∧ (kq : Int) + i = l.length) ∧ Aside0 (Inv w w' D E g gm n (.slice A0 n c0') (.slice A1 n c1') d t))
  case atStart => exact ⟨0, g, _, _, A0, c0', A1, c1', _, _, rfl, rfl, ⟨by omega⟩, HI0⟩
  case round =>
    clear HI0
    obtain ⟨i, g, D, E, A0, c0', A1, c1', d, t, rfl, rfl, HI_, HI⟩ := hrel
    by_cases c5 : i < (l.length : Int)
    · have c5b : decide (i < (l.length : Int)) = true := decide_eq_true c5
      obtain ⟨ad, e1, hx0, hx1, hx2, hx3⟩ := at_T40 HC.out i HI_.out.1 c5
      subst e1
      have hop := op_at HW.out i HI_.out.1 c5
      replace hx0 := (HI.out.below.cell (World.block_lt_of_cell? w _ hx0)).trans hx0
      replace hx1 := (HI.out.below.cell (World.block_lt_of_cell? w _ hx1)).trans hx1
      replace hx2 := (HI.out.below.cell (World.block_lt_of_cell? w _ hx2)).trans hx2
      replace hx3 := (HI.out.below.cell (World.block_lt_of_cell? w _ hx3)).trans hx3
      generalize (rd_T40 l i).f0 = k0 at hx0 hop
      generalize (rd_T40 l i).f1 = p1 at hx1 hop
      generalize (rd_T40 l i).f2 = b2 at hx2 hop
      generalize (rd_T40 l i).f3 = s3 at hx3 hop
      have HOP := Aside0.mk hop
      have p9 : (0 ≤ i) = True := eq_true HI_.out.1
      have q9 : (i < (l.length : Int)) = True := eq_true c5
      have HC5 := Aside0.mk c5
      have wp : wrap64 p1 = p1 := wr_in _ (by omega)
      clear c5 hop
      go_upto_region 12 with fail
      have HX3 := Aside0.mk (blk_new wr (.cells #[.int .i64 k0, .int .u32 p1, .int .u8 b2, .bool s3] 40))
      have HI3 := Aside0.mk (HI.out.on (below_alloc (Below.refl _ _) (.cells #[.int .i64 k0, .int .u32 p1, .int .u8 b2, .bool s3] 40)))
      have hxg : wr.heap.size < (wr.alloc (.cells #[.int .i64 k0, .int .u32 p1, .int .u8 b2, .bool s3] 40)).heap.size := by simp
      have HXD := Aside0.mk (show ∀ k, D k → k < wr.heap.size from fun k hD => (HI.out.apart k hD).2.1)
      generalize hgx : wr.heap.size = gx at HX3 HXD hxg ⊢
      generalize hw3 : wr.alloc (.cells #[.int .i64 k0, .int .u32 p1, .int .u8 b2, .bool s3] 40) = w3 at HX3 HI3 hxg ⊢
      have HXG := Aside0.mk hxg
      clear hw3 hgx hx0 hx1 hx2 hx3 hxg
      have hx0 := (blk_cell HX3.out 0).trans rfl
      have hx1 := (blk_cell HX3.out 1).trans rfl
      have hx2 := (blk_cell HX3.out 2).trans rfl
      have hx3 := (blk_cell HX3.out 3).trans rfl
      have hm0 := (blk_cell HI3.out.box 0).trans rfl
      have hm1 := (blk_cell HI3.out.box 1).trans rfl
      by_cases k0e : k0 = 0
      · have kb0 : (k0 == 0) = true := beq_iff_eq.mpr k0e
        have p9 : (0 ≤ p1) = True := eq_true HOP.out.1
        clear k0e
        by_cases hpp : p1 < (n : Int)
        · have c7 : decide ((n : Int) ≤ p1) = false := decide_eq_false (by omega)
          have hpn : p1 < (n : Int) := hpp
          have HPP := Aside0.mk hpn
          have p9 : (0 ≤ p1) = True := eq_true HOP.out.1
          have q9 : (p1 < (n : Int)) = True := eq_true hpn
          clear hpp hpn
          go_wp2_with (go_at_call 28; (with_reducible refine (read_in HI3.out.dk p1 HOP.out.1 (by rw [HI3.out.len]; exact HPP.out)).mono ?_); rintro en w4 ⟨v, rfl, ho, hb⟩; have hI4 := HI3.out.on hb; have hpl : (pg d p1.toNat).length = 512 := pg_len HI3.out.dk.ln.1 (by rw [HI3.out.len]; have := HPP.out; have := HOP.out; omega); obtain ⟨gv, cv, ev, hgv, hgl, cellsv, hcells⟩ := Kd.R_form ho (by rw [hpl]; omega); rw [hpl] at ev; subst ev; have HV := Aside0.mk (And.intro hgv (And.intro hcells (R_Cn ho))); have hcv4 := (fun m => own_string (P := Try.prog) Try.underlying26 Try.underlying5 Try.underlying9 (Kd.own_of_R (Kd.R_drewN ho m))); obtain ⟨gs, cs, es, _⟩ := Kd.R_form hI4.pages (by rw [pgs_len]; have := HN.out; omega); have es2 : A0 = some ⟨gs, 0, none⟩ := (by injection es); subst es2; have hpr : Kd.R Kd.string 9 w4 w.heap.size E (.slice (some ⟨gs, 0, none⟩) (pgs d n).length c0') (pgs d n) := (by rw [pgs_len]; exact hI4.pages); obtain ⟨hsc, _⟩ := Kd.R_cell ByteArray.empty hpr p1 HOP.out.1 (by rw [pgs_len]; exact HPP.out); rw [pgs_at d n p1 HOP.out.1 HPP.out] at hsc; have es3 : Addr.add ⟨gs, 0, none⟩ p1.toNat = ⟨gs, p1.toNat, none⟩ := add0 _ _; have HX4 := Aside0.mk (blk_below HX3.out hb); have HI4 := Aside0.mk hI4; have HB4 := Aside0.mk hb; clear ho hb hI4 es hpr hpl hgv hgl hcells hx1 hx2 hx3 hx0; have hx1 := (blk_cell HX4.out 1).trans rfl; have hm0 := (blk_cell HI4.out.box 0).trans rfl)
          obtain ⟨fw, hfw⟩ := Classical.axiomOfChoice (fun m : Nat => clear_cut (W := w4.drewN m) (c := cv) (show (w4.drewN m).heap[gv]? = some (.cells cellsv 5 (0, 0)) from HV.out.2.1) (Kd.C_drewN HV.out.2.2 m) 0)
          have hcl := fun m => (hfw m).1
          have HI5 := Aside0.mk (fun m => HI3.out.on (W2 := fw m) ((pw_below_drewN HB4.out m).grown (hfw m).2 (pw_below_drewN HB4.out m).size (fun k hk => by injection hk with hk; have := HV.out.1; omega)))
          clear hfw
          go_quiet (fail)
          go_wp2
          go_roundg (gk - 1)
          case measure => have h1 := HI_.out; have h2 := HC5.out; omega
          case rel =>
            have h1 := HI_.out
            have h2 := HC5.out
            have h3 := HL.out
            exact ⟨i + 1, g, D, E, _, c0', A1, c1', d, t, rfl, by rw [wr_in (i + 1) (by omega)], ⟨by omega⟩, ⟨HI5.out _⟩⟩
        · have c7 : decide ((n : Int) ≤ p1) = true := decide_eq_true (by omega)
          have HPP := Aside0.mk (show (n : Int) ≤ p1 by omega)
          clear hpp
          have hcl := clear_nil
          go_wp2_with (go_at_call 28; (with_reducible refine (read_out HI3.out.dk p1 HOP.out.1 (by rw [HI3.out.len]; exact HPP.out) HOP.out.2.1).mono ?_); rintro en w4 ⟨rfl, rfl⟩)
          go_roundg (gk - 1)
          case measure => have h1 := HI_.out; have h2 := HC5.out; omega
          case rel =>
            have h1 := HI_.out
            have h2 := HC5.out
            have h3 := HL.out
            exact ⟨i + 1, g, D, E, A0, c0', A1, c1', d, t, rfl, by rw [wr_in (i + 1) (by omega)], ⟨by omega⟩, HI3⟩
      · have kb0 : (k0 == 0) = false := beq_eq_false_iff_ne.mpr k0e
        clear k0e
        by_cases k1e : k0 = 1
        · have kb1 : (k0 == 1) = true := beq_iff_eq.mpr k1e
          clear k1e
          cases s3
          case false =>
            obtain ⟨bs, hbs⟩ : ∃ bs, bs = List.replicate 512 b2 := ⟨_, rfl⟩
            have hbl : bs.length = 512 := by rw [hbs]; exact List.length_replicate
            have hby : By bs := by rw [hbs]; exact By.rep HOP.out.2.2 512
            obtain ⟨bs2, hbs2⟩ : ∃ bs2, bs2 = bs := ⟨_, rfl⟩
            have hbl2 : bs2.length = 512 := by rw [hbs2]; exact hbl
            have hby2 : By bs2 := by rw [hbs2]; exact hby
            have HBS := Aside0.mk (And.intro hbs (And.intro hbl (And.intro hbs2 (And.intro hbl2 hby2))))
            clear hbs hbl hby hbs2 hbl2 hby2
            go_upto_region 32 with (first
              | (go_at_call 22; (with_reducible refine (page512 b2 bs HBS.out.1 _).mono ?_); rintro en w4 ⟨A4, c4, rfl, ho, hb⟩; obtain ⟨gv, cv, ev, hgv, hgl, cellsv, hcells⟩ := Kd.R_form ho (by rw [HBS.out.2.1]; omega); have ev2 : A4 = some ⟨gv, 0, none⟩ := (by injection ev); subst ev2; have HV := Aside0.mk (And.intro hgv (And.intro hcells (R_Cn ho))); have hc4 : 512 ≤ c4 := (by have := (Kd.R_reads' ho).2.1; omega); have hcut := (fun W => cut_one W gv c4 hc4); have HRb := Aside0.mk (Kd.R_mono (ok' := fun k => w3.heap.size ≤ k) (Kd.R_bound ho) (fun _ hk => hk.2.1)); have HI4 := Aside0.mk (HI3.out.on hb); have HX4 := Aside0.mk (blk_below HX3.out hb); have HB4 := Aside0.mk hb; have HC4 := Aside0.mk hc4; clear ho hb ev hgv hgl hcells hc4 hx0 hx1 hx2 hx3; have hx0 := (blk_cell HX4.out 0).trans rfl; have hx1 := (blk_cell HX4.out 1).trans rfl; have hx2 := (blk_cell HX4.out 2).trans rfl; have hx3 := (blk_cell HX4.out 3).trans rfl)
              | (go_at_call 21; (with_reducible refine (write_all HI4.out.dk p1 (some ⟨gv, 0, none⟩) 512 c4 bs2 HOP.out.1 HOP.out.2.1 HBS.out.2.2.2.1 (by rw [HBS.out.2.2.1]; exact HV.out.2.2)).mono ?_); rintro en w5 ⟨rfl, hd, hk, hb⟩; have HD5 := Aside0.mk hd; have HK5 := Aside0.mk hk; have hdk := HI4.out.disk hk hb; have HM5 := Aside0.mk hdk; have hX5 := blk_kept HX4.out hk (fun hD => by have := HXD.out _ hD; omega); have HX5 := Aside0.mk hX5; have HR5 := Aside0.mk (Kd.R_kept HRb.out hk (fun k hk1 hD => by have := (HI3.out.apart _ hD).2.1; omega)); have hcv5 := Kd.C_string (P := Try.prog) (c := c4) Try.underlying26 Try.underlying5 Try.underlying9 (by rw [HBS.out.2.2.1]; exact R_Cn HR5.out : Kd.C (Kd.int .u8) w5 (some ⟨gv, 0, none⟩) 512 bs2); clear hd hk hb hX5 hdk hx0 hx1 hx2 hx3; have hx0 := (blk_cell HX5.out 0).trans rfl; have hx1 := (blk_cell HX5.out 1).trans rfl; have hm0 := (blk_cell HM5.out.1 0).trans rfl; have hm1 := (blk_cell HM5.out.1 1).trans rfl)
              | (go_at_call 29; (with_reducible refine (rowlockref06_Disk_Write.calls E (.slice A0 n c0') (pgs d n) E (.slice A1 n c1') t p1 (strOfNums bs2) (wrG d t p1 bs2).2.2 (pgs (wrG d t p1 bs2).1 n) (wrG d t p1 bs2).2.1 w w5 HM5.out.2.2.2 HM5.out.2.1 HM5.out.2.2.1 (by have := refwrite_all d t p1 bs2 HOP.out.1 HOP.out.2.1 HI3.out.dk.ln.1 HI3.out.dk.ln.2.2; rw [HI3.out.len] at this; exact this)).mono ?_); rintro en w6 ⟨v1_, v2_, rfl, ho0, ho1, hb, hk⟩; obtain ⟨A0', c0'', e0⟩ := Kd.R_slice ho0; rw [pgs_len] at e0; subst e0; obtain ⟨A1', c1'', e1⟩ := Kd.R_slice ho1; rw [wrG_len, HI3.out.len] at e1; subst e1; have hbox : w6.heap[gm]? = some (.cells #[.slice A0 n c0', .slice A1 n c1'] 49 (0, 0)) := blk_kept HM5.out.1 hk (fun hE => HI3.out.gm.2.2 (hE.elim id id)); have HBX6 := Aside0.mk hbox; have HP6 := Aside0.mk ho0; have HT6 := Aside0.mk ho1; have HK6 := Aside0.mk hk; have HB6 := Aside0.mk hb; clear ho0 ho1 hb hk hx0 hx1 hm0 hm1; have hm0 := (blk_cell hbox 0).trans rfl; have hm1 := (blk_cell hbox 1).trans rfl; have hmf0 := blk_frozen hbox 0; have hmf1 := blk_frozen hbox 1; have hgml := blk_lt hbox; clear hbox))
            have hst := stored (w := w) (B := w.heap.size) (u0 := .slice A0' n c0'') (u1 := .slice A1' n c1'') HBX6.out
            generalize hWs : ((w6.setCell ⟨gm, 0, none⟩ (.slice A0' n c0'')).setCell ⟨gm, 1, none⟩ (.slice A1' n c1'')).alloc (.cells #[.slice A0' n c0'', .slice A1' n c1''] 49) = Ws at hst ⊢
            have hgl := blk_lt HI3.out.box
            have hRs := Kd.R_step (w1 := Ws) (Kd.R_kept HR5.out HK6.out (fun k hk1 hE => by have := HI3.out.new k (hE.elim id id); omega)) (fun k hk1 hlt => hst.2.1 k hlt (by omega))
            obtain ⟨gv', cv', ev', hgv', _, cells', hcells'⟩ := Kd.R_form hRs (by rw [HBS.out.2.1]; omega)
            have ev2 : gv = gv' := by injection ev' with ev'; injection ev' with ev'; injection ev'
            subst ev2
            obtain ⟨w8, hcl, hg8⟩ := clear_cut (n := 512) (o := 0) (c := c4) (xs := bs2) hcells' (by rw [HBS.out.2.2.1]; exact R_Cn hRs) 0
            have hs4 := HB4.out.size
            have hs5 := HK5.out.1
            have hgvl : gv < w4.heap.size := blk_lt HV.out.2.1
            have HI9 := Aside0.mk (HI3.out.both (W2 := w5) (W4 := w8) ((Kept.of_below HB4.out D).then_ HK5.out (fun k h => .inl h)) HD5.out (by rw [wrG_len]; exact HI3.out.len) (wrG_by _ _ HI3.out.by_ HBS.out.2.2.2.2) HK6.out HP6.out HT6.out (Nat.le_trans hst.1 hg8.size) (fun k h1 h2 h3 => (hg8.block k (Nat.lt_of_lt_of_le h1 hst.1) (fun e => by injection e with e; rcases h3 with h3 | h3 <;> omega)).trans (hst.2.1 k h1 h2)) ((hg8.block gm (by have := hst.1; have := HK6.out.1; omega) (fun e => by injection e with e; omega)).trans hst.2.2.1) ((hst.2.2.2 HB6.out HI3.out.gm.1).grown hg8 (hst.2.2.2 HB6.out HI3.out.gm.1).size (fun k hk => by injection hk with hk; have := HI3.out.below.size; omega)))
            clear hWs hst hm0 hm1 hmf0 hmf1 hgml hgl hRs ev' hgv' hcells' hg8 hs4 hs5 hgvl
            go_wp2
            go_roundg (gk - 1)
            case measure => have h1 := HI_.out; have h2 := HC5.out; omega
            case rel =>
              have h1 := HI_.out
              have h2 := HC5.out
              have h3 := HL.out
              exact ⟨i + 1, g, D, _, A0', c0'', A1', c1'', _, _, rfl, by rw [wr_in (i + 1) (by omega)], ⟨by omega⟩, HI9⟩
          case true =>
            obtain ⟨bs, hbs⟩ : ∃ bs, bs = List.replicate 512 b2 := ⟨_, rfl⟩
            have hbl : bs.length = 512 := by rw [hbs]; exact List.length_replicate
            have hby : By bs := by rw [hbs]; exact By.rep HOP.out.2.2 512
            obtain ⟨bs2, hbs2⟩ : ∃ bs2, bs2 = bs.drop 1 := ⟨_, rfl⟩
            have hbl2 : bs2.length = 511 := by rw [hbs2]; rw [List.length_drop, hbl]
            have hby2 : By bs2 := by rw [hbs2]; exact hby.drop 1
            have HBS := Aside0.mk (And.intro hbs (And.intro hbl (And.intro hbs2 (And.intro hbl2 hby2))))
            clear hbs hbl hby hbs2 hbl2 hby2
            go_upto_region 32 with (first
              | (go_at_call 22; (with_reducible refine (page512 b2 bs HBS.out.1 _).mono ?_); rintro en w4 ⟨A4, c4, rfl, ho, hb⟩; obtain ⟨gv, cv, ev, hgv, hgl, cellsv, hcells⟩ := Kd.R_form ho (by rw [HBS.out.2.1]; omega); have ev2 : A4 = some ⟨gv, 0, none⟩ := (by injection ev); subst ev2; have HV := Aside0.mk (And.intro hgv (And.intro hcells (R_Cn ho))); have hc4 : 512 ≤ c4 := (by have := (Kd.R_reads' ho).2.1; omega); have hcut := (fun W => cut_one W gv c4 hc4); have HRb := Aside0.mk (Kd.R_mono (ok' := fun k => w3.heap.size ≤ k) (Kd.R_bound ho) (fun _ hk => hk.2.1)); have HI4 := Aside0.mk (HI3.out.on hb); have HX4 := Aside0.mk (blk_below HX3.out hb); have HB4 := Aside0.mk hb; have HC4 := Aside0.mk hc4; clear ho hb ev hgv hgl hcells hc4 hx0 hx1 hx2 hx3; have hx0 := (blk_cell HX4.out 0).trans rfl; have hx1 := (blk_cell HX4.out 1).trans rfl; have hx2 := (blk_cell HX4.out 2).trans rfl; have hx3 := (blk_cell HX4.out 3).trans rfl)
              | (go_at_call 21; (with_reducible refine (write_all HI4.out.dk p1 (some ⟨gv, 1, none⟩) 511 (c4 - 1) bs2 HOP.out.1 HOP.out.2.1 HBS.out.2.2.2.1 (by rw [HBS.out.2.2.1]; exact cut_oneC HV.out.2.2 HBS.out.2.1 HC4.out)).mono ?_); rintro en w5 ⟨rfl, hd, hk, hb⟩; have HD5 := Aside0.mk hd; have HK5 := Aside0.mk hk; have hdk := HI4.out.disk hk hb; have HM5 := Aside0.mk hdk; have hX5 := blk_kept HX4.out hk (fun hD => by have := HXD.out _ hD; omega); have HX5 := Aside0.mk hX5; have HR5 := Aside0.mk (Kd.R_kept HRb.out hk (fun k hk1 hD => by have := (HI3.out.apart _ hD).2.1; omega)); have hcv5 := Kd.C_string (P := Try.prog) (c := (c4 - 1)) Try.underlying26 Try.underlying5 Try.underlying9 (by rw [HBS.out.2.2.1]; exact cut_oneC (R_Cn HR5.out) HBS.out.2.1 HC4.out : Kd.C (Kd.int .u8) w5 (some ⟨gv, 1, none⟩) 511 bs2); clear hd hk hb hX5 hdk hx0 hx1 hx2 hx3; have hx0 := (blk_cell HX5.out 0).trans rfl; have hx1 := (blk_cell HX5.out 1).trans rfl; have hm0 := (blk_cell HM5.out.1 0).trans rfl; have hm1 := (blk_cell HM5.out.1 1).trans rfl)
              | (go_at_call 29; (with_reducible refine (rowlockref06_Disk_Write.calls E (.slice A0 n c0') (pgs d n) E (.slice A1 n c1') t p1 (strOfNums bs2) (wrG d t p1 bs2).2.2 (pgs (wrG d t p1 bs2).1 n) (wrG d t p1 bs2).2.1 w w5 HM5.out.2.2.2 HM5.out.2.1 HM5.out.2.2.1 (by have := refwrite_all d t p1 bs2 HOP.out.1 HOP.out.2.1 HI3.out.dk.ln.1 HI3.out.dk.ln.2.2; rw [HI3.out.len] at this; exact this)).mono ?_); rintro en w6 ⟨v1_, v2_, rfl, ho0, ho1, hb, hk⟩; obtain ⟨A0', c0'', e0⟩ := Kd.R_slice ho0; rw [pgs_len] at e0; subst e0; obtain ⟨A1', c1'', e1⟩ := Kd.R_slice ho1; rw [wrG_len, HI3.out.len] at e1; subst e1; have hbox : w6.heap[gm]? = some (.cells #[.slice A0 n c0', .slice A1 n c1'] 49 (0, 0)) := blk_kept HM5.out.1 hk (fun hE => HI3.out.gm.2.2 (hE.elim id id)); have HBX6 := Aside0.mk hbox; have HP6 := Aside0.mk ho0; have HT6 := Aside0.mk ho1; have HK6 := Aside0.mk hk; have HB6 := Aside0.mk hb; clear ho0 ho1 hb hk hx0 hx1 hm0 hm1; have hm0 := (blk_cell hbox 0).trans rfl; have hm1 := (blk_cell hbox 1).trans rfl; have hmf0 := blk_frozen hbox 0; have hmf1 := blk_frozen hbox 1; have hgml := blk_lt hbox; clear hbox))
            have hst := stored (w := w) (B := w.heap.size) (u0 := .slice A0' n c0'') (u1 := .slice A1' n c1'') HBX6.out
            generalize hWs : ((w6.setCell ⟨gm, 0, none⟩ (.slice A0' n c0'')).setCell ⟨gm, 1, none⟩ (.slice A1' n c1'')).alloc (.cells #[.slice A0' n c0'', .slice A1' n c1''] 49) = Ws at hst ⊢
            have hgl := blk_lt HI3.out.box
            have hRs := Kd.R_step (w1 := Ws) (Kd.R_kept HR5.out HK6.out (fun k hk1 hE => by have := HI3.out.new k (hE.elim id id); omega)) (fun k hk1 hlt => hst.2.1 k hlt (by omega))
            obtain ⟨gv', cv', ev', hgv', _, cells', hcells'⟩ := Kd.R_form hRs (by rw [HBS.out.2.1]; omega)
            have ev2 : gv = gv' := by injection ev' with ev'; injection ev' with ev'; injection ev'
            subst ev2
            obtain ⟨w8, hcl, hg8⟩ := clear_cut (n := 511) (o := 1) (c := (c4 - 1)) (xs := bs2) hcells' (by rw [HBS.out.2.2.1]; exact cut_oneC (R_Cn hRs) HBS.out.2.1 HC4.out) 0
            have hs4 := HB4.out.size
            have hs5 := HK5.out.1
            have hgvl : gv < w4.heap.size := blk_lt HV.out.2.1
            have HI9 := Aside0.mk (HI3.out.both (W2 := w5) (W4 := w8) ((Kept.of_below HB4.out D).then_ HK5.out (fun k h => .inl h)) HD5.out (by rw [wrG_len]; exact HI3.out.len) (wrG_by _ _ HI3.out.by_ HBS.out.2.2.2.2) HK6.out HP6.out HT6.out (Nat.le_trans hst.1 hg8.size) (fun k h1 h2 h3 => (hg8.block k (Nat.lt_of_lt_of_le h1 hst.1) (fun e => by injection e with e; rcases h3 with h3 | h3 <;> omega)).trans (hst.2.1 k h1 h2)) ((hg8.block gm (by have := hst.1; have := HK6.out.1; omega) (fun e => by injection e with e; omega)).trans hst.2.2.1) ((hst.2.2.2 HB6.out HI3.out.gm.1).grown hg8 (hst.2.2.2 HB6.out HI3.out.gm.1).size (fun k hk => by injection hk with hk; have := HI3.out.below.size; omega)))
            clear hWs hst hm0 hm1 hmf0 hmf1 hgml hgl hRs ev' hgv' hcells' hg8 hs4 hs5 hgvl
            go_wp2
            go_roundg (gk - 1)
            case measure => have h1 := HI_.out; have h2 := HC5.out; omega
            case rel =>
              have h1 := HI_.out
              have h2 := HC5.out
              have h3 := HL.out
              exact ⟨i + 1, g, D, _, A0', c0'', A1', c1'', _, _, rfl, by rw [wr_in (i + 1) (by omega)], ⟨by omega⟩, HI9⟩
        · have kb1 : (k0 == 1) = false := beq_eq_false_iff_ne.mpr k1e
          clear k1e
          by_cases k2e : k0 = 2
          · have kb2 : (k0 == 2) = true := beq_iff_eq.mpr k2e
            clear k2e
            go_upto_region 39 with (first
              | (go_at_call 30; (with_reducible refine (take_any HI3.out.dk).mono ?_); rintro en w4 ⟨rfl, hd, hk, hb⟩; have HD4 := Aside0.mk hd; have HK4 := Aside0.mk hk; have hdk := HI3.out.disk hk hb; have HM4 := Aside0.mk hdk; clear hd hk hb hdk hm0 hm1 hx0 hx1 hx2 hx3; have hm0 := (blk_cell HM4.out.1 0).trans rfl; have hm1 := (blk_cell HM4.out.1 1).trans rfl)
              | (go_at_call 31; (with_reducible refine (rowlockref06_Disk_Take.calls (t.length + 1) E (.slice A0 n c0') (pgs d n) E (.slice A1 n c1') t (tkF t).1 (tkF t).2.1 (pgs d n) (tkF t).2.2 w w4 HM4.out.2.2.2 HM4.out.2.1 HM4.out.2.2.1 (reftake_any _ _ HI3.out.dk.ln.2.2)).mono ?_); rintro en w5 ⟨v2_, v3_, rfl, ho0, ho1, hb, hk⟩; obtain ⟨A0', c0'', e0⟩ := Kd.R_slice ho0; rw [pgs_len] at e0; subst e0; obtain ⟨A1', c1'', e1⟩ := Kd.R_slice ho1; rw [tkF_len, HI3.out.len] at e1; subst e1; have hbox : w5.heap[gm]? = some (.cells #[.slice A0 n c0', .slice A1 n c1'] 49 (0, 0)) := blk_kept HM4.out.1 hk (fun hE => HI3.out.gm.2.2 (hE.elim id id)); have HBX5 := Aside0.mk hbox; have HP5 := Aside0.mk ho0; have HT5 := Aside0.mk ho1; have HK5 := Aside0.mk hk; have HB5 := Aside0.mk hb; clear ho0 ho1 hb hk hm0 hm1; have hm0 := (blk_cell hbox 0).trans rfl; have hm1 := (blk_cell hbox 1).trans rfl; have hmf0 := blk_frozen hbox 0; have hmf1 := blk_frozen hbox 1; have hgml := blk_lt hbox; clear hbox))
            have hst := stored (w := w) (B := w.heap.size) (u0 := .slice A0' n c0'') (u1 := .slice A1' n c1'') HBX5.out
            generalize hWs : ((w5.setCell ⟨gm, 0, none⟩ (.slice A0' n c0'')).setCell ⟨gm, 1, none⟩ (.slice A1' n c1'')).alloc (.cells #[.slice A0' n c0'', .slice A1' n c1''] 49) = Ws at hst ⊢
            have HI9 := Aside0.mk (HI3.out.both (W4 := Ws) HK4.out HD4.out (by rw [tkF_len]; exact HI3.out.len) HI3.out.by_ HK5.out HP5.out HT5.out hst.1 (fun k h1 h2 _ => hst.2.1 k h1 h2) hst.2.2.1 (hst.2.2.2 HB5.out HI3.out.gm.1))
            clear hWs hst hm0 hm1 hmf0 hmf1 hgml
            go_wp2
            go_roundg (gk - 1)
            case measure => have h1 := HI_.out; have h2 := HC5.out; omega
            case rel =>
              have h1 := HI_.out
              have h2 := HC5.out
              have h3 := HL.out
              exact ⟨i + 1, g, D, _, A0', c0'', A1', c1'', d, _, rfl, by rw [wr_in (i + 1) (by omega)], ⟨by omega⟩, HI9⟩
          · have kb2 : (k0 == 2) = false := beq_eq_false_iff_ne.mpr k2e
            clear k2e
            obtain ⟨bs, hbs⟩ : ∃ bs, bs = List.replicate 512 (1 : Int) := ⟨_, rfl⟩
            have hbl : bs.length = 512 := by rw [hbs]; exact List.length_replicate
            have HBS := Aside0.mk (And.intro hbs hbl)
            clear hbs hbl
            go_wp2_with (first
              | (go_at_call 32; (with_reducible refine (copy_ok HI3.out.dk).mono ?_); rintro en w4 ⟨g', rfl, hd, hb⟩; have HD4 := Aside0.mk hd; have HB4 := Aside0.mk hb; clear hd hb hm0 hm1 hx0 hx1 hx2 hx3)
              | (go_at_call 22; (with_reducible refine (page512 1 bs HBS.out.1 _).mono ?_); rintro en w5 ⟨A5, c5', rfl, ho, hb⟩; have HO5 := Aside0.mk (R_Cn ho); have HB5 := Aside0.mk hb; clear ho hb)
              | (go_at_call 21; (with_reducible refine (write_all ((HI3.out.dk.below HB4.out).below HB5.out) 0 A5 512 c5' bs (by omega) (by omega) HBS.out.2 HO5.out).mono ?_); rintro en w6 ⟨rfl, hd, hk, hb⟩; have HD6 := Aside0.mk hd; have HK6 := Aside0.mk hk; have HB6 := Aside0.mk (hb w.heap.size (fun k hD => (HI3.out.apart k hD).1)); clear hd hk hb)
              | (go_at_call 30; (with_reducible refine (take_any HD6.out).mono ?_); rintro en w7 ⟨rfl, hd, hk, hb⟩; have HK7 := Aside0.mk hk; have HB7 := Aside0.mk (hb w.heap.size (fun k hD => (HI3.out.apart k hD).1)); clear hd hk hb))
            go_roundg (gk - 1)
            case measure => have h1 := HI_.out; have h2 := HC5.out; omega
            case rel =>
              have h1 := HI_.out
              have h2 := HC5.out
              have h3 := HL.out
              have hs5 := HB5.out.size
              have hs6 := HK6.out.1
              have hs7 := HK7.out.1
              have hI := HI3.out.copy (W2 := w7) HD4.out HB4.out (fun k hk hD => ((HK7.out.2 k (by omega) hD).trans (HK6.out.2 k (by omega) hD)).trans (HB5.out.block k hk)) (by omega) (((below_then (below_then HI3.out.below HI3.out.below.size HB4.out) (below_then HI3.out.below HI3.out.below.size HB4.out).size HB5.out).trans HB6.out).trans HB7.out)
              exact ⟨i + 1, g', _, E, A0, c0', A1, c1', d, t, rfl, by rw [wr_in (i + 1) (by omega)], ⟨by omega⟩, ⟨hI⟩⟩
    · have c5b : decide (i < (l.length : Int)) = false := decide_eq_false c5
      clear c5
      have hlen := HI.out.len
      go_wp2_with (first
        | (go_at_call 15; (with_reducible refine (fixed_ok _).mono ?_); rintro en w3 ⟨rfl, hb⟩; have HI3 := Aside0.mk (HI.out.on hb); clear hb; have hm0 := (blk_cell HI3.out.box 0).trans rfl; have hm1 := (blk_cell HI3.out.box 1).trans rfl)
        | (go_at_call 26; (have hx := same_ok HI3.out.dk HI3.out.by_ A0 c0' A1 c1' (by rw [HI3.out.len]; exact (Kd.R_reads' HI3.out.pages).2.2) (by rw [HI3.out.len, pgs_len]; exact (by have h3 := (Kd.R_reads' HI3.out.pages).2.1; exact h3)) (Kd.R_reads' HI3.out.taken).2.2 (by rw [HI3.out.len]; exact (by have h3 := (Kd.R_reads' HI3.out.taken).2.1; exact h3))); rw [HI3.out.len] at hx; (with_reducible refine hx.mono ?_); clear hx; rintro en w4 ⟨rfl, hb⟩; have HB4 := Aside0.mk (below_then HI3.out.below HI3.out.below.size hb); clear hb))
      go_ret
      exact ⟨rfl, HB4.out⟩
theorem DiskPlays_ok (pages : Int) (A : Option Addr) (c : Nat) (l : List S40) (w : World) (hC : Kd.C k40 w A l.length l) (hw : ∀ x ∈ l, Opw x) : Calls Try.prog 6 #[.int .i64 pages, .slice A l.length c] w fun e w' => e = .returned (.bool true) ∧ Below w.heap.size w w' := by
  by_cases h : (20 < pages ∧ pages ≤ 4096) ∨ 100 < l.length
  · exact DiskPlays_big pages A l.length c w h
  · by_cases h2 : 1 ≤ pages ∧ pages ≤ 4096
    · obtain ⟨m, rfl⟩ := Int.eq_ofNat_of_zero_le (show 0 ≤ pages by omega)
      exact DiskPlays_walk m A c l w hC (by omega) (by omega) hw
    · exact DiskPlays_bad pages A l.length c w h2 (by omega)
end Go.Proofs.Ytolgcohmmghehaa.Dsk
