/- Law 09, HeapBack, walked: the law. Conditions: the records are bytes, a machine holds them. -/
import Derived.Test.YtpfegfkniilobaaHpVm
namespace Go.Proofs.Ytpfegfkniilobaa.Hp
open Go.RowKit Go.Proofs.YtpfegfkniilobaaW.PrintWords Go.Proofs.YtpfegfkniilobaaW.PrintLast Go.Proofs.YtpfegfkniilobaaW.PrintMore Go.Proofs.Ytpfegfkniilobaa.Byt Go.Proofs.Ytpfegfkniilobaa.Dsk Go.Proofs.Ytpfegfkniilobaa.XHeap
open Go.Proofs.Ytpfegfkniilobaa.PureSl (room Ok txt)
set_option linter.unusedVariables false
set_option linter.unusedSimpArgs false
set_option maxRecDepth 100000
set_option maxHeartbeats 16000000 in
theorem back_main (a2 : Int) (A0 A1 : Option Addr) (c0 c1 : Nat) (l other : List (List Int)) (w : World) (h0 : RecOk w A0 c0 l) (h1 : RecOk w A1 c1 other) (ha2 : 0 ≤ a2 ∧ a2 < 256) (hs1 : ∀ w', Kd.C (Kd.slice 5 (Kd.int .u8)) w' A0 l.length l → Calls Try.prog 10 #[.slice A0 l.length c0] w' fun e w2 => e = .returned (.bool true) ∧ Below w'.heap.size w' w2) (hs2 : ∀ w', Kd.C (Kd.slice 5 (Kd.int .u8)) w' A1 other.length other → Calls Try.prog 10 #[.slice A1 other.length c1] w' fun e w2 => e = .returned (.bool true) ∧ Below w'.heap.size w' w2) (hl1 : l.length ≤ 9000) (hl2 : other.length ≤ 9000) :
    Calls Try.prog 5 #[.slice A0 l.length c0, .slice A1 other.length c1, .int .u8 a2] w fun e w' => e = .returned (.bool true) ∧ Below w.heap.size w w' := by
  obtain ⟨d0, hd0⟩ : ∃ d0, d0 = List.replicate (60 * 512) (0 : Int) := ⟨_, rfl⟩
  obtain ⟨t0, ht0⟩ : ∃ t0, t0 = ld d0 := ⟨_, rfl⟩
  have hy0 : By d0 := by rw [hd0]; exact zeros_by _
  have hl0 : t0.length = 60 := by rw [ht0, hd0]; exact ld_len 60 (by decide)
  have hz0 : t0[0]? = some true := by rw [ht0, hd0, ld_zeros]; rfl
  have hdl : d0.length = 512 * 60 := by rw [hd0, List.length_replicate]
  obtain ⟨E1, S1, O1, hR1⟩ : ∃ E1 S1 O1, fillF d0 t0 other = (E1, S1, O1) := ⟨_, _, _, rfl⟩
  have hf1 := fillF_ok other ⟨by rw [hdl, hl0], by omega, by omega, hy0⟩ h1.2.2
  have hz1 := fillF_t (d := d0) (l := other) hz0
  rw [hR1] at hf1 hz1
  dsimp only at hf1 hz1
  obtain ⟨E, S, O, hR⟩ : ∃ E S O, fillF S1.d S1.t l = (E, S, O) := ⟨_, _, _, rfl⟩
  obtain ⟨F1, hF1⟩ : ∃ F1, F1 = if E1 = 0 then S1.first else 0 := ⟨_, rfl⟩
  obtain ⟨P1, hP1⟩ : ∃ P1, P1 = if E1 = 0 then O1 else [] := ⟨_, rfl⟩
  obtain ⟨F, hF⟩ : ∃ F, F = if E = 0 then S.first else 0 := ⟨_, rfl⟩
  obtain ⟨P, hP⟩ : ∃ P, P = if E = 0 then O else [] := ⟨_, rfl⟩
  have wa : wrap64 a2 = a2 ∧ wrap64 (1 + a2) = 1 + a2 := ⟨wr_in _ (by omega), wr_in _ (by omega)⟩
  have HWA := Aside0.mk wa
  have HA2 := Aside0.mk ha2
  have HC := Aside0.mk (And.intro h0.1 h1.1)
  have HR0 := Aside0.mk (And.intro h0 (And.intro h1 (And.intro hl1 hl2)))
  have HBY := Aside0.mk (And.intro h0.2.2 h1.2.2)
  have HS1 := Aside0.mk hs1
  have HS2 := Aside0.mk hs2
  have H0 := Aside0.mk (And.intro hd0 (And.intro ht0 (And.intro hy0 hl0)))
  have HF1 := Aside0.mk (And.intro hR1 (And.intro hF1 (And.intro hP1 (And.intro hf1 hz1))))
  have HF2 := Aside0.mk (And.intro hR (And.intro hF hP))
  clear h0 h1 ha2 hs1 hs2 hl1 hl2 hd0 ht0 hy0 hl0 hz0 hdl hR1 hf1 hz1 hR hF1 hP1 hF hP wa
  go_enter Try.func5, Try.ntmps5
  go_upto_region 3 with (first
    | (go_at_call 10; (with_reducible refine (HS1.out _ HC.out.1).mono ?_); rintro en w1 ⟨rfl, hb_⟩; have HB1 := Aside0.mk hb_; clear hb_)
    | (go_at_call 10; (with_reducible refine (HS2.out _ (Kd.C_below HC.out.2 HB1.out)).mono ?_); rintro en w2 ⟨rfl, hb_⟩; have HB2 := Aside0.mk (below_then HB1.out HB1.out.size hb_); clear hb_))
  go_upto_region 6 with (first
    | (go_at_call 12; (with_reducible refine (new_ok _ 60 (by decide)).mono ?_); rintro en w3 ⟨gd, rfl, hd_, hb_⟩; rw [show (60 : Int).toNat = 60 from rfl, ← H0.out.1, ← H0.out.2.1] at hd_; (obtain ⟨D, hDD⟩ : ∃ D : Nat → Prop, D = fun k => w2.heap.size ≤ k ∧ k < w3.heap.size := ⟨_, rfl⟩); have HD3 := Aside0.mk (show Dk w3 D gd d0 t0 by rw [hDD]; exact hd_.bound); have HB3 := Aside0.mk (below_then HB2.out HB2.out.size hb_); have HDN := Aside0.mk (show ∀ k, D k → w.heap.size ≤ k ∧ k < w3.heap.size from fun k hk => by rw [hDD] at hk; exact ⟨Nat.le_trans HB2.out.size hk.1, hk.2⟩); clear hd_ hb_ hDD)
    | (go_at_call 14; (with_reducible refine (fill_let (D := D) (okr := fun k => k < w.heap.size) (fun k hk => (HDN.out k hk).2) HD3.out H0.out.2.2.1 A1 c1 other (Kd.F_below (Kd.C_F (Kd.heap_slice 5 (Kd.heap_int _)) HC.out.2) HB3.out) (fun k hk => ⟨fun hd => by have := (HDN.out k hd).1; omega, Nat.lt_of_lt_of_le hk HB3.out.size⟩) (by have := HR0.out.2.2.2; omega) HBY.out.2 HF1.out.1 HF1.out.2.1 HF1.out.2.2.1).mono ?_); rintro en w4 ⟨v4, rfl, hd_, hk_, ho_⟩; have HD4 := Aside0.mk hd_; have HB4 := Aside0.mk (HB3.out.trans (hk_.to_below w.heap.size (fun k hk => (HDN.out k hk).1) HB3.out.size)); have HZ4 := Aside0.mk hk_.size; clear hd_ hk_ ho_)
    | (go_at_call 14; (with_reducible refine (fill_let (D := D) (okr := fun k => k < w.heap.size) (fun k hk => Nat.lt_of_lt_of_le (HDN.out k hk).2 HZ4.out) HD4.out HF1.out.2.2.2.1.2 A0 c0 l (Kd.F_below (Kd.C_F (Kd.heap_slice 5 (Kd.heap_int _)) HC.out.1) HB4.out) (fun k hk => ⟨fun hd => by have := (HDN.out k hd).1; omega, Nat.lt_of_lt_of_le hk HB4.out.size⟩) (by have := HR0.out.2.2.1; omega) HBY.out.1 HF2.out.1 HF2.out.2.1 HF2.out.2.2).mono ?_); rintro en w5 ⟨v5, rfl, hd_, hk_, ho_⟩; have HD5 := Aside0.mk hd_; have HB5 := Aside0.mk (HB4.out.trans (hk_.to_below w.heap.size (fun k hk => (HDN.out k hk).1) HB4.out.size)); have HZ5 := Aside0.mk (Nat.le_trans HZ4.out hk_.size); have HO5 := Aside0.mk ho_; clear hd_ hk_ ho_))
  by_cases hE : E = 0
  · subst hE
    obtain ⟨k, o, hw, hof, hol, hfi, hpg, hat, htl, hsy⟩ := back (d := S1.d) (t := S1.t) (l := l) (S := S) (O := O) ⟨HD4.out.2.1, HD4.out.2.2.1, HD4.out.2.2.2.1, HF1.out.2.2.2.1.2⟩ HF1.out.2.2.2.2 HBY.out.1 (by have := HR0.out.2.2.1; omega) HF2.out.1
    obtain rfl : F = S.first := HF2.out.2.1.trans (if_pos rfl)
    obtain rfl : P = O := HF2.out.2.2.trans (if_pos rfl)
    have hoL : o.length = l.length := by rw [← hol, List.length_map]
    have hOL : P.length = l.length := by rw [← hof, List.length_map, hoL]
    obtain ⟨kp, hkp⟩ := hpg
    have hpk : heap_Pages.f kp (szs l) = some (k : Int) := hkp kp (Nat.le_refl _)
    have htl2 : S.t.length = 60 := by rw [htl, HF1.out.2.2.2.1.1]; exact H0.out.2.2.2
    obtain ⟨AO, cO, fO⟩ := Kd.R_slice HO5.out
    rw [hOL] at fO
    subst fO
    obtain ⟨B, hB⟩ : ∃ B, B = w5.heap.size := ⟨_, rfl⟩
    have HAB5 := Aside0.mk (show Ab w w5 B (.slice AO l.length cO) P from ⟨Kd.R_lower (Kd.R_mono (Kd.R_bound HO5.out) (fun k hk => by have := hk.2.2.1; show k < B; omega)) HB4.out.size, HB5.out, ⟨by rw [hB]; exact HB5.out.size, Nat.le_of_eq hB⟩⟩)
    have HDB := Aside0.mk (show Dk w5 (fun k => k < B) gd S.d S.t from HD5.out.mono (fun k hk => by have h1 := (HDN.out k hk).2; have h2 := HZ5.out; show k < B; omega))
    have HBK := Aside0.mk (And.intro hw (And.intro hof (And.intro hol (And.intro hfi (And.intro hpk (And.intro hat (And.intro htl2 hsy)))))))
    have HLN := Aside0.mk (And.intro hoL (And.intro hOL HR0.out.2.2.1))
    have wi1 := HWA.out.1
    have wi2 := HWA.out.2
    have wi3 : IntKind.i64.wrap a2 = a2 := (w64_eq _).trans wi1
    have hnp : ∀ (W : World) (a : Addr), (binOp .eql 56 (.pointer (some a)) (.pointer none)).run Try.prog W = .ok (.bool false) W := fun W a => by go_simp
    clear hw hof hol hfi hkp hpk hat htl htl2 hsy hoL hOL hB HB1 HB2 HB3 HB4 HB5 HD3 HD4 HD5 HO5 HZ4 HZ5
    go_upto_region 12 with (first
      | (go_at_call 20; (with_reducible refine (Pool.new_ok' w5 gd (1 + a2) (by have := HA2.out; omega) (fun q => pg S.d q.toNat)).mono ?_); rintro en w6 ⟨g5, gm, rfl, hpl, hb_⟩; have HX6 := Aside0.mk (show Px w6 (fun k => w5.heap.size ≤ k ∧ k < w6.heap.size) g5 gd S.d S.t 0 from ⟨1 + a2, [], 0, 0, by have := HA2.out; omega, by have := HA2.out; omega, hpl.bound.pw, (by simp), by decide⟩); have HAB6 := Aside0.mk (HAB5.out.below hb_); have HD6 := Aside0.mk (HDB.out.below hb_); clear hpl hb_)
      | (go_at_call 21; (with_reducible refine (scan_ok2 (D := fun k => k < B) (kk := (k : Int)) (its := o) HX6.out HD6.out (fun k hk => ⟨fun h => by have h1 : k < B := h; have h2 := HAB5.out.big.2; have h3 := hk.1; omega, hk.2⟩) (fun k hk => by have h1 : k < B := hk; have h2 := HAB6.out.big.2; omega) HBK.out.2.2.2.2.2.2.2 HBK.out.2.2.2.1 HBK.out.1 (by have := HBK.out.2.2.2.2.2.2.1; omega) (if_pos rfl).symm (if_pos rfl).symm).mono ?_); rintro en w7 ⟨okP, okI, vI, K7, rfl, hsc, hkb⟩; (obtain ⟨AI, cI, fI⟩ := Kd.R_slice hsc.row); rw [HLN.out.1] at fI; subst fI; have HAB7 := Aside0.mk (HAB6.out.kept hsc.kp (fun k hk => Nat.le_of_not_lt hk)); have HS7 := Aside0.mk hsc; have HKB := Aside0.mk hkb; clear hsc hkb))
    clear wi1 wi2 wi3 hnp HX6 HAB5 HAB6 HD6 HDB
    go_wp2
    go_loopg [17, 73] l.length (fun kq v17 v73 w' => ∃ (i : Int) (Av : Option Addr) (nv cv : Nat), v17 = .slice Av nv cv ∧ v73 = .int .i64 i ∧ Aside0 (0 ≤ i ∧ (kq : Int) + i = (l.length : Int)) ∧ Aside0 (Kd.R (Kd.int .i64) 3 w' w7.heap.size (fun _ => True) (.slice Av nv cv) (szs (l.take i.toNat)) ∧ Below w7.heap.size w7 w'))
    case atStart => exact ⟨0, none, 0, 0, rfl, rfl, ⟨by omega⟩, ⟨Kd.R_nil _ _ _ _ _, Below.refl _ _⟩⟩
    case round =>
      obtain ⟨i, Av, nv, cv, rfl, rfl, HI, HR⟩ := hrel
      by_cases ci : i < (l.length : Int)
      · have cib : decide (i < (l.length : Int)) = true := decide_eq_true ci
        have p9 : (0 ≤ i) = True := eq_true HI.out.1
        have q9 : (i < (l.length : Int)) = True := eq_true ci
        have w1_ : wrap64 (i + 1) = i + 1 := wr_in _ (by have := HI.out; have := HLN.out; omega)
        obtain ⟨ad, Ar, cr, ea, hx0, hlr, hCr⟩ := Slb.at_L (Kd.C_below HC.out.1 (HAB7.out.below HR.out.2).hb) i HI.out.1 ci
        subst ea
        have hzt := szs_take l i HI.out.1 ci
        generalize Slb.rd_L l i = r at hx0 hzt
        have hsl : (szs (l.take i.toNat)).length ≤ 9000 := by rw [szs, List.length_map, List.length_take]; have := HLN.out; omega
        have HSL := Aside0.mk (And.intro hsl hzt)
        have HCI := Aside0.mk ci
        clear ci hlr hCr hsl hzt
        go_wp2_with ((with_reducible refine gate_builtin (b := .append) (xs := #[.tmp 77, .tmp 80]) rfl ?_); at_builtin; refine Kd.R_append (Kd.int .i64) (w0 := w7) w7.heap.size rfl (.tmp 77) (.tmp 80) 74 3 (.int .i64 0) 8 rfl Try.underlying74 inf3 rfl (by decide) (by omega) (.slice Av nv cv) (szs (l.take i.toNat)) (r.length : Int) [.int .i64 (r.length : Int)] (fun _ => True) (fun _ => False) rfl (by first | (go_simp; done) | (go_simp; rfl)) ?aP (fun _ hk => hk.elim) (fun _ _ => trivial) HR.out.1 HR.out.2 HR.out.2.size (by have := HSL.out.1; omega) ?_; (case aP => exact rfl); intro v1 w1 ho hb hg hat; (obtain ⟨A2, c2, e2⟩ := Kd.R_slice ho); generalize List.length _ = n2 at e2; subst e2; have HR2 := Aside0.mk (And.intro ho hb); clear ho hb hg hat)
        go_roundg (gk - 1)
        case measure => have h1 := HI.out; have h2 := HCI.out; omega
        case rel =>
          have h1 := HI.out
          have h2 := HCI.out
          exact ⟨i + 1, A2, n2, c2, rfl, by first | rfl | rw [w1_], ⟨by omega⟩, ⟨by rw [HSL.out.2]; exact HR2.out⟩⟩
      · have cib : decide (i < (l.length : Int)) = false := decide_eq_false ci
        have hall : l.take i.toNat = l := List.take_of_length_le (by omega)
        rw [hall] at HR
        obtain rfl : nv = (szs l).length := (Kd.R_reads' HR.out.1).1
        have hn1 : ((l.length : Int) != (l.length : Int)) = false := by simp
        have hn2 : ((k : Int) != (k : Int)) = false := by simp
        clear ci hall
        obtain ⟨gko, rfl⟩ : ∃ x, x = gk := ⟨_, rfl⟩
        go_wp2_with (go_at_call 25; (with_reducible refine (heap_Pages.calls kp Av cv (szs l) (k : Int) wr (Kd.R_reads' HR.out.1).2.2 (Kd.R_reads' HR.out.1).2.1 HBK.out.2.2.2.2.1).mono ?_); rintro en w8 ⟨rfl, hb_⟩; have hb2 := below_then HR.out.2 HR.out.2.size hb_.below; have HAB8 := Aside0.mk (HAB7.out.below hb2); have HS8 := Aside0.mk (HS7.out.below hb2); clear hb_ hb2)
        clear hn1 hn2
        have nq := nq50
        go_loopg [107] l.length (fun kq v107 w' => ∃ (j : Int) (okP : Nat → Prop), v107 = .int .i64 j ∧ Aside0 (0 ≤ j ∧ (kq : Int) + j = (l.length : Int)) ∧ Aside0 (Sc w6 w' okP (fun k => k < B) okI g5 gd (K7 + j.toNat) S.d S.t (.slice AI l.length cI) o) ∧ Aside0 (Ab w w' B (.slice AO l.length cO) P))
        case atStart => exact ⟨0, okP, rfl, ⟨by omega⟩, HS8, HAB8⟩
        case round =>
          clear HS8 HAB8 HS7 HAB7
          obtain ⟨j, okQ, rfl, HJ, HSJ, HAJ⟩ := hrel
          by_cases cj : j < (l.length : Int)
          · have cjb : decide (j < (l.length : Int)) = true := decide_eq_true cj
            have p9 : (0 ≤ j) = True := eq_true HJ.out.1
            have q9 : (j < (l.length : Int)) = True := eq_true cj
            have wj : wrap64 (j + 1) = j + 1 := wr_in _ (by have := HJ.out; have := HLN.out; omega)
            have hjn : j.toNat < o.length := by have := HLN.out; have := HJ.out; omega
            obtain ⟨ad1, A1x, c1x, ea1, hc1, hc2, hc3, hRx⟩ := at66R HSJ.out.row j HJ.out.1 cj
            subst ea1
            have hx1 : rd_T50 P j = (rd66 o j).f0 := by
              have h := HBK.out.2.1
              rw [← h]
              simp [rd_T50, rd66, hjn]
            have hx2 : Slb.rd_L l j = (rd66 o j).f1 := by
              have h := HBK.out.2.2.1
              rw [← h]
              simp [Slb.rd_L, rd66, hjn]
            have hx3 : At S.d S.t (rd66 o j) := HBK.out.2.2.2.2.2.1 _ (by simp [rd66, hjn])
            generalize rd66 o j = x at hc1 hc2 hc3 hRx hx1 hx2 hx3
            obtain ⟨nx, rs, hp0, hcl, hs0, hs1, hs2, hs3⟩ := hx3
            obtain ⟨BX66, hBX⟩ : ∃ BX66 : Obj, BX66 = .cells #[.int .u32 x.f0.f0, .int .u16 x.f0.f1, .slice A1x x.f1.length c1x] 66 := ⟨_, rfl⟩
            have HXN := Aside0.mk (And.intro hx1 hx2)
            have HBB := Aside0.mk (blk_new wr (.cells #[.int .u32 x.f0.f0, .int .u16 x.f0.f1, .slice A1x x.f1.length c1x] 66))
            have HSK := Aside0.mk (HSJ.out.below (below_alloc (Below.refl _ _) (.cells #[.int .u32 x.f0.f0, .int .u16 x.f0.f1, .slice A1x x.f1.length c1x] 66)))
            have HAK := Aside0.mk (HAJ.out.below (below_alloc (Below.refl _ _) (.cells #[.int .u32 x.f0.f0, .int .u16 x.f0.f1, .slice A1x x.f1.length c1x] 66)))
            have HRX := Aside0.mk (Kd.R_alloc hRx (.cells #[.int .u32 x.f0.f0, .int .u16 x.f0.f1, .slice A1x x.f1.length c1x] 66))
            obtain ⟨ad2, ea2, hc4, hc5⟩ := at_T50 (n := l.length) (by have h := Kd.R_reads' HAK.out.row; rw [← h.1] at h; exact h.2.2) j HJ.out.1 cj
            subst ea2
            rw [hx1] at hc4 hc5
            have HFT := Aside0.mk (fetch_at HBK.out.2.2.2.2.2.2.2 hcl hp0 (by have := HBK.out.2.2.2.2.2.2.1; omega) ⟨hs0, hs1, hs2⟩ HSK.out.px HSK.out.dk (by have h1 := HKB.out; have h2 := HBK.out.2.2.2.2.2.2.1; have h3 := HLN.out; have h4 := HJ.out; omega))
            rw [hs3] at HFT
            have HCJ := Aside0.mk cj
            clear cj hjn hx1 hx2 hcl hp0 hs0 hs1 hs2 hs3 hRx hBX
            go_upto_region 24 with (go_at_call 23; (with_reducible refine HFT.out.mono ?_); rintro en w9 ⟨v9, rfl, ho, hk, hp⟩; (obtain ⟨A9, c9, e9⟩ := Kd.R_slice ho); subst e9; have HS9 := Aside0.mk (HSK.out.fetch hp hk (fun k hk2 => by have h1 : k < B := hk2; have h2 := HAK.out.big.2; omega)); have HA9 := Aside0.mk (HAK.out.kept hk (fun k hk2 => Nat.le_of_not_lt (HSK.out.apP k hk2).2.1)); have HB9 := Aside0.mk (blk_kept HBB.out hk.kept (fun hs => by have h1 := (HSJ.out.apP _ hs).2.2; omega)); have HR9 := Aside0.mk (Kd.R_kept HRX.out hk.kept (fun k hi hs => (HSK.out.apP k hs).1 hi)); have HO9 := Aside0.mk ho; clear ho hk hp hc1 hc2 hc3 hc4 hc5)
            have hb0 := (blk_cell HB9.out 0).trans rfl
            have hb1 := (blk_cell HB9.out 1).trans rfl
            have hb2 := (blk_cell HB9.out 2).trans rfl
            obtain ⟨ad3, ea3, hc4, hc5⟩ := at_T50 (n := l.length) (by have h := Kd.R_reads' HA9.out.row; rw [← h.1] at h; exact h.2.2) j HJ.out.1 HCJ.out
            obtain rfl : ad2 = ad3 := by injection ea3
            rw [HXN.out.1] at hc4 hc5
            obtain ⟨adl, Al, cl, eal, hcl0, hcl1, hCl⟩ := Slb.at_L (Kd.C_below HC.out.1 HA9.out.hb) j HJ.out.1 HCJ.out
            subst eal
            rw [HXN.out.2] at hcl0 hCl
            have hcv1 := fun m => Kd.C_string (P := Try.prog) (c := c9) Try.underlying52 Try.underlying5 Try.underlying9 (Kd.C_below (Kd.R_reads' HO9.out).2.2 (pw_below_drewN (Below.refl _ _) m))
            have hcv2 := fun m => Kd.C_string (P := Try.prog) (c := cl) Try.underlying52 Try.underlying5 Try.underlying9 (Kd.C_below hCl (pw_below_drewN (Below.refl _ _) m))
            have hcv3 := fun m => Kd.C_string (P := Try.prog) (c := c1x) Try.underlying52 Try.underlying5 Try.underlying9 (Kd.C_below (Kd.R_reads' HR9.out).2.2 (pw_below_drewN (Below.refl _ _) m))
            have hnn : (strOfNums x.f1 != strOfNums x.f1) = false := ba_ne _
            clear hcl1 hCl ea3
            go_quiet (fail)
            go_wp2
            go_roundg (gk - 1)
            case measure => have h1 := HJ.out; have h2 := HCJ.out; omega
            case rel =>
              have h1 := HJ.out
              have h2 := HCJ.out
              exact ⟨j + 1, _, by first | rfl | rw [wj], ⟨by omega⟩, ⟨by have h3 := HS9.out.below (pw_below_drewN (Below.refl _ _) nq); rwa [show K7 + j.toNat + 1 = K7 + (j + 1).toNat by omega] at h3⟩, ⟨HA9.out.below (pw_below_drewN (Below.refl _ _) nq)⟩⟩
          · have cjb : decide (j < (l.length : Int)) = false := decide_eq_false cj
            clear cj
            go_wp2_with (go_at_call 11; (with_reducible refine (fixed_ok _).mono ?_); rintro en w10 ⟨rfl, hb_⟩; have HA10 := Aside0.mk (HAJ.out.below hb_); clear hb_)
            go_ret
            exact ⟨rfl, HA10.out.hb⟩
  · have c1 : (E != 0) = true := bne_iff_ne.mpr hE
    clear hE
    go_wp2_with (go_at_call 11; (with_reducible refine (fixed_ok _).mono ?_); rintro en w9 ⟨rfl, hb_⟩; have HB9 := Aside0.mk (below_then HB5.out HB5.out.size hb_); clear hb_)
    go_ret
    exact ⟨rfl, HB9.out⟩
/-- HeapBack answers 'true'. -/
theorem HeapBack_ok (a2 : Int) (A0 A1 : Option Addr) (c0 c1 : Nat) (l other : List (List Int)) (w : World) (h0 : RecOk w A0 c0 l) (h1 : RecOk w A1 c1 other) (z0 : l.length ≤ 140737488351232) (z1 : other.length ≤ 140737488351232) (ha2 : 0 ≤ a2 ∧ a2 < 256) :
    Calls Try.prog 5 #[.slice A0 l.length c0, .slice A1 other.length c1, .int .u8 a2] w fun e w' => e = .returned (.bool true) ∧ Below w.heap.size w w' := by
  obtain ⟨b1, k1, s1⟩ := small_ok w A0 c0 l h0.1 h0.2.1 z0
  obtain ⟨b2, k2, s2⟩ := small_ok w A1 c1 other h1.1 h1.2.1 z1
  cases b1
  · exact back_big1 a2 A0 A1 c0 c1 l other w h0 s1
  · cases b2
    · exact back_big2 a2 A0 A1 c0 c1 l other w h0 h1 s1 s2
    · exact back_main a2 A0 A1 c0 c1 l other w h0 h1 ha2 s1 s2 (k1 rfl) (k2 rfl)
end Go.Proofs.Ytpfegfkniilobaa.Hp
