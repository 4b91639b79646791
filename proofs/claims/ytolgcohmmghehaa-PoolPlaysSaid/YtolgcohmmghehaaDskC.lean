/- The disk as a block in memory: Load, New and Copy of a disk; the chapter's example. Conditions: the image's bytes are known. -/
import Derived.Test.YtolgcohmmghehaaDskB
import Derived.Deep.OwnRows
import Derived.Deep.CutRange
import Derived.Deep.RegionWith
namespace Go.Proofs.Ytolgcohmmghehaa.Dsk
open Go.RowKit Go.Proofs.YtolgcohmmghehaaW.PrintWords Go.Proofs.YtolgcohmmghehaaW.PrintLast Go.Proofs.YtolgcohmmghehaaW.PrintMore
set_option linter.unusedVariables false
set_option linter.unusedSimpArgs false
set_option maxRecDepth 100000
theorem Dk.bound {w : World} {ok : Nat → Prop} {g : Nat} {d : List Int} {t : List Bool} (h : Dk w ok g d t) : Dk w (fun k => ok k ∧ k < w.heap.size) g d t := by
  obtain ⟨h1, h2, h3, h4, v1, v2, hb, hd, ht⟩ := h
  exact ⟨⟨h1, blk_lt hb⟩, h2, h3, h4, v1, v2, hb, Kd.R_mono (Kd.R_bound hd) (fun _ hk => ⟨hk.1, hk.2.2.1⟩), Kd.R_mono (Kd.R_bound ht) (fun _ hk => ⟨hk.1, hk.2.2.1⟩)⟩
/-- Is a page taken, as an image says? -/
def lt (xs : List Int) (i : Nat) : Bool := decide (i = 0) || rd xs (i * 512) != 0
def ld (xs : List Int) : List Bool := (List.range (xs.length / 512)).map (lt xs)
theorem load_bad (w : World) (A : Option Addr) (n c : Nat) (hn : (n : Int) ≤ 9223372036854775807) (hbad : ¬ (1 ≤ n / 512 ∧ n / 512 ≤ 4096 ∧ n % 512 = 0)) : Calls Try.prog 24 #[.slice A n c] w fun e w' => e = .returned (.tuple #[.pointer none, .int .i64 1]) ∧ w' = w := by
  have w1 : wrap64 ((n : Int) / 512) = (n : Int) / 512 := wr_in _ (by omega)
  by_cases h1 : (n : Int) / 512 < 1
  · have c1 : decide ((n : Int) / 512 < 1) = true := decide_eq_true h1
    clear hbad h1 hn
    go_enter Try.func24, Try.ntmps24
    go_wp2
    go_ret2
    exact ⟨rfl, rfl⟩
  have c1 : decide ((n : Int) / 512 < 1) = false := decide_eq_false h1
  by_cases h2 : 4096 < (n : Int) / 512
  · have c2 : decide (4096 < (n : Int) / 512) = true := decide_eq_true h2
    clear hbad h1 h2 hn
    go_enter Try.func24, Try.ntmps24
    go_wp2
    go_ret2
    exact ⟨rfl, rfl⟩
  have c2 : decide (4096 < (n : Int) / 512) = false := decide_eq_false h2
  have c3 : ((n : Int) % 512 != 0) = true := bne_iff_ne.mpr (by omega)
  clear hbad h1 h2 hn
  go_enter Try.func24, Try.ntmps24
  go_wp2
  go_ret2
  exact ⟨rfl, rfl⟩
theorem Dk.setT {w : World} {ok : Nat → Prop} {g gt ct : Nat} {d : List Int} {t : List Bool} {v1 : Value} (h : Dk w ok g d t) (hb : w.heap[g]? = some (.cells #[v1, .slice (some ⟨gt, 0, none⟩) t.length ct] 110 (0, 0))) (i : Int) (b : Bool) : Dk (w.setCell ⟨gt, i.toNat, none⟩ (.bool b)) ok g d (t.set i.toNat b) := by
  obtain ⟨h1, h2, h3, h4, v1', v2', hb', hd, ht⟩ := h
  rw [hb] at hb'
  injection hb' with hb'
  injection hb' with hb'
  injection hb' with hb'
  injection hb' with e1 e2
  injection e2 with e2
  subst e1
  subst e2
  obtain ⟨g', cap', e', _, _, cells, hbt⟩ := Kd.R_form ht h3
  injection e' with e'
  injection e' with e'
  injection e' with e'
  subst e'
  have hne : g ≠ gt := blk_ne hb hbt (by decide)
  exact ⟨h1, by rw [List.length_set]; exact h2, by rw [List.length_set]; exact h3, by rw [List.length_set]; exact h4, _, _, blk_far hb hne _, Kd.R_set hd hbt (by decide) _ _, (Kd.R_put ht i b).1⟩
theorem set_to {ts : List Bool} {xs : List Int} {i : Int} {n : Nat} {b : Bool} (hl : ts.length = n) (h : ∀ j : Nat, (j : Int) < i → ts[j]? = some (lt xs j)) (h0 : 0 ≤ i) (hi : i < n) (hb : lt xs i.toNat = b) : (ts.set i.toNat b).length = n ∧ ∀ j : Nat, (j : Int) < i + 1 → (ts.set i.toNat b)[j]? = some (lt xs j) := by
  refine ⟨by rw [List.length_set]; exact hl, fun j hj => ?_⟩
  rw [List.getElem?_set]
  by_cases e : i.toNat = j
  · subst e
    rw [if_pos rfl, if_pos (by omega), hb]
  · rw [if_neg e]
    exact h j (by omega)
theorem lt_pos {xs : List Int} {i : Int} (h0 : 0 ≤ i) (hne : ¬ i = 0) : lt xs i.toNat = (rdOf 0 xs (i * 512) != 0) := by
  rw [lt, decide_eq_false (by omega), show ((i.toNat : Nat) : Int) = i by omega]
  rfl
theorem ld_of {ts : List Bool} {xs : List Int} {n : Nat} (hn : n = xs.length / 512) (hl : ts.length = n) (h : ∀ j : Nat, (j : Int) < n → ts[j]? = some (lt xs j)) : ts = ld xs := by
  refine List.ext_getElem? fun j => ?_
  rw [ld, ← hn]
  by_cases hj : j < n
  · rw [h j (by omega)]
    simp [hj]
  · rw [List.getElem?_eq_none (by omega), List.getElem?_eq_none (by simp; omega)]
theorem made_R (w : World) (n base : Nat) (hb : base ≤ w.heap.size) (hn : n ≤ 4096) : Kd.R Kd.bool 4 (w.alloc (.cells (madeCells #[.bool false] n) 4)) base (fun _ => True) (.slice (some ⟨w.heap.size, 0, none⟩) n n) (List.replicate n false) := by
  have ho := World.ownsRow_lit (base := base) (e := 4) (size := 1) w (madeCells #[.bool false] n) n hb (by unfold maxLen; omega) (by rw [size_madeCells, Nat.mul_one])
  rw [toList_madeCells_one] at ho
  have he : (List.replicate n (Value.bool false)) = encs Value.bool (List.replicate n false) := by simp [encs]
  rw [he] at ho
  refine Kd.R_of_own (h1 := fun _ => rfl) ?_ (fun _ _ => trivial)
  rw [List.length_replicate]
  exact ho
theorem mk_dk {w W : World} {g : Nat} {xs : List Int} {ts : List Bool} {v vt : Value} (hg : W.heap.size = g) (hl : xs.length = 512 * ts.length) (h1 : 0 < ts.length) (h2 : ts.length ≤ 4096) (hB : Below w.heap.size w W) (hd : Kd.R (Kd.int .u8) 5 W w.heap.size (fun _ => True) v xs) (ht : Kd.R Kd.bool 4 W w.heap.size (fun _ => True) vt ts) : Dk (W.alloc (.cells #[v, vt] 110)) (fun k => w.heap.size ≤ k) g xs ts ∧ Below w.heap.size w (W.alloc (.cells #[v, vt] 110)) := by
  subst hg
  refine ⟨⟨hB.size, hl, h1, h2, v, vt, blk_new W _, ?_, ?_⟩, below_alloc hB _⟩
  · exact Kd.R_lower (Kd.R_mono (Kd.R_bound (Kd.R_alloc hd _)) (fun _ hk => hk.2.1)) (Nat.zero_le _)
  · exact Kd.R_lower (Kd.R_mono (Kd.R_bound (Kd.R_alloc ht _)) (fun _ hk => hk.2.1)) (Nat.zero_le _)
theorem load_ok (w : World) (A : Option Addr) (c : Nat) (xs : List Int) (hC : Kd.C (Kd.int .u8) w A xs.length xs) (hok : 1 ≤ xs.length / 512 ∧ xs.length / 512 ≤ 4096 ∧ xs.length % 512 = 0) : Calls Try.prog 24 #[.slice A xs.length c] w fun e w' => ∃ g, e = .returned (.tuple #[.pointer (some ⟨g, 0, none⟩), .int .i64 0]) ∧ Dk w' (fun k => w.heap.size ≤ k) g xs (ld xs) ∧ Below w.heap.size w w' := by
  obtain ⟨n, hn⟩ : ∃ n, n = xs.length / 512 := ⟨_, rfl⟩
  rw [← hn] at hok
  have hl : xs.length = n * 512 := by omega
  have w1 : wrap64 ((xs.length : Int) / 512) = (n : Int) := by
    rw [wr_in _ (by omega)]
    omega
  have w2 : (xs.length : Int) % 512 = 0 := by omega
  have c1 : decide ((n : Int) < 1) = false := decide_eq_false (by omega)
  have c2 : decide (4096 < (n : Int)) = false := decide_eq_false (by omega)
  have HC := Aside0.mk hC
  have HN := Aside0.mk (And.intro hn (And.intro hok hl))
  clear hok hC hn hl
  go_enter Try.func24, Try.ntmps24
  go_wp2
  have hmk := run_make_row' (P := Try.prog) 47 4 (.bool false) 1 Try.underlying47 info4 rfl .i64 .i64 n (by have := HN.out; omega) (by have := HN.out; omega)
  simp only [w1, w2]
  go_cut [5] from 22 to 27 (fun s5 wc => ∃ g, s5 = .pointer (some ⟨g, 0, none⟩) ∧ Aside0 (Dk wc (fun k => w.heap.size ≤ k) g xs (List.replicate n false) ∧ Below w.heap.size w wc))
  case first =>
    go_region_with (first | (go_at_call 64; go_loud (with_reducible refine (clone_ok A c xs _ (Kd.C_below HC.out (by repeat (first | exact Below.refl _ _ | apply below_alloc | apply pw_below_drewN | apply below_drew1))) (by have := HN.out; omega)).mono ?_; rintro en w1 ⟨v, rfl, ho, hbl⟩; obtain ⟨A1, c1, e1⟩ := Kd.R_slice ho; subst e1; have HO := Aside0.mk ho; have HBL := Aside0.mk hbl; clear ho hbl)))
    · go_wp2
      go_meet
      refine ⟨_, rfl, ⟨mk_dk (W := w1.alloc _) (xs := xs) (ts := List.replicate n false) (by simp) (by rw [List.length_replicate]; have := HN.out; omega) (by rw [List.length_replicate]; have := HN.out; omega) (by rw [List.length_replicate]; have := HN.out; omega) ?_ ?_ ?_⟩⟩
      · exact below_alloc (below_then (below_drew1 (Below.refl w.heap.size w)) (Nat.le_refl _) HBL.out) _
      · exact Kd.R_alloc HO.out _
      · exact made_R w1 n _ HBL.out.size (by have := HN.out; omega)
    · go_wp2
      go_meet
      refine ⟨_, rfl, ⟨mk_dk (ts := List.replicate n false) rfl (by rw [List.length_replicate]; have := HN.out; omega) (by rw [List.length_replicate]; have := HN.out; omega) (by rw [List.length_replicate]; have := HN.out; omega) ?_ ?_ ?_⟩⟩
      · exact below_then (below_drew1 (below_alloc (Below.refl _ _) _)) (by simp) HBL.out
      · exact Kd.R_lower HO.out (by simp)
      · exact Kd.R_below (Kd.R_drew (made_R w n _ (Nat.le_refl _) (by have := HN.out; omega))) HBL.out
  case rest =>
    obtain ⟨g, rfl, HD⟩ := hcut
    clear hmk
    have hgb := HD.out.1.form
    obtain ⟨gd, cd, gt, ct, hb, hcd, hct, _⟩ := hgb
    have hc0 := (blk_cell hb 0).trans rfl
    have hc1 := (blk_cell hb 1).trans rfl
    have hf0 := blk_frozen hb 0
    have hf1 := blk_frozen hb 1
    rw [List.length_replicate] at hc1
    have HBk := Aside0.mk hb
    clear hb hcd hct
    go_wp2
    go_loopg [33] n (fun kq v33 w' => ∃ (i : Int) (ts : List Bool), v33 = .int .i64 i ∧ Aside0 (0 ≤ i ∧ (kq : Int) + i = n) ∧ Aside0 (ts.length = n ∧ ∀ j : Nat, (j : Int) < i → ts[j]? = some (lt xs j)) ∧ Aside0 (Dk w' (fun k => w.heap.size ≤ k) g xs ts ∧ Below w.heap.size w w'))
    case atStart => exact ⟨0, _, rfl, ⟨by omega⟩, ⟨by simp, fun j hj => by omega⟩, HD⟩
    case round =>
      clear HD HBk hc0 hc1 hf0 hf1
      obtain ⟨i, ts, rfl, HI, HT, HD⟩ := hrel
      obtain ⟨gd, cd, gt, ct, hb, hcd, hct, hd, ht, hkd, hkt⟩ := HD.out.1.form
      have hc0 := (blk_cell hb 0).trans rfl
      have hc1 := (blk_cell hb 1).trans rfl
      have hf0 := blk_frozen hb 0
      have hf1 := blk_frozen hb 1
      have HBk := Aside0.mk hb
      have HCD := Aside0.mk (And.intro hcd (And.intro hct (And.intro hkd hkt)))
      have HRd := Aside0.mk hd
      have HRt := Aside0.mk ht
      clear hb hcd hct hd ht hkd hkt
      by_cases c5 : i < (n : Int)
      · have c5b : decide (i < (n : Int)) = true := decide_eq_true c5
        have p9 : (0 ≤ i) = True := eq_true HI.out.1
        have q9 : (i < (ts.length : Int)) = True := eq_true (by have := HT.out.1; omega)
        have w5 : wrap64 (i * 512) = i * 512 := wr_in _ (by have := HI.out; have := HN.out; omega)
        have p8 : (0 ≤ i * 512) = True := eq_true (by have := HI.out.1; omega)
        have q8 : (i * 512 < (xs.length : Int)) = True := eq_true (by have := HN.out.2.2; omega)
        obtain ⟨ht1, ht2⟩ := Kd.R_cell false HRt.out i HI.out.1 (by have := HT.out.1; omega)
        obtain ⟨hd1, hd2⟩ := Kd.R_cell 0 HRd.out (i * 512) (by have := HI.out.1; omega) (by have := HN.out.2.2; omega)
        have e1 : Addr.add ⟨gt, 0, none⟩ i.toNat = ⟨gt, i.toNat, none⟩ := add0 _ _
        have e2 : Addr.add ⟨gd, 0, none⟩ (i * 512).toNat = ⟨gd, (i * 512).toNat, none⟩ := add0 _ _
        by_cases c6 : i = 0
        · have c6b : (i == 0) = true := beq_iff_eq.mpr c6
          have HC5 := Aside0.mk c5
          have HC6 := Aside0.mk c6
          clear c5 c6
          go_wp2
          go_region
          go_wp2
          go_roundg (gk - 1)
          case measure => have h1 := HI.out; have h2 := HC5.out; omega
          case rel =>
            have h1 := HI.out
            have h2 := HC5.out
            have h3 := HN.out
            have hs := set_to (b := true) HT.out.1 HT.out.2 h1.1 h2 (by simp [lt, HC6.out])
            refine ⟨i + 1, ts.set i.toNat true, by rw [wr_in (i + 1) (by omega)], ⟨by omega⟩, ⟨hs⟩, ⟨?_, ?_⟩⟩
            · exact ((HD.out.1.setT HBk.out i true)).step (fun _ _ _ => rfl)
            · exact (HD.out.2.setCell (p := ⟨gt, i.toNat, none⟩) HCD.out.2.2.2 (.bool true)).trans ⟨rfl, rfl, rfl, Nat.le_refl _, fun _ _ => rfl⟩
        · have c6b : (i == 0) = false := beq_eq_false_iff_ne.mpr c6
          have HC5 := Aside0.mk c5
          have HC6 := Aside0.mk c6
          clear c5 c6
          go_wp2
          go_region
          go_wp2
          go_roundg (gk - 1)
          case measure => have h1 := HI.out; have h2 := HC5.out; omega
          case rel =>
            have h1 := HI.out
            have h2 := HC5.out
            have h3 := HN.out
            have hs := set_to (b := (rdOf 0 xs (i * 512) != 0)) HT.out.1 HT.out.2 h1.1 h2 (lt_pos h1.1 HC6.out)
            refine ⟨i + 1, ts.set i.toNat (rdOf 0 xs (i * 512) != 0), by rw [wr_in (i + 1) (by omega)], ⟨by omega⟩, ⟨hs⟩, ⟨?_, ?_⟩⟩
            · exact ((HD.out.1.setT HBk.out i (rdOf 0 xs (i * 512) != 0))).step (fun _ _ _ => rfl)
            · exact (HD.out.2.setCell (p := ⟨gt, i.toNat, none⟩) HCD.out.2.2.2 (.bool (rdOf 0 xs (i * 512) != 0))).trans ⟨rfl, rfl, rfl, Nat.le_refl _, fun _ _ => rfl⟩
      · have c5b : decide (i < (n : Int)) = false := decide_eq_false c5
        have hi : i = n := by have := HI.out; omega
        have ht := ld_of HN.out.1 HT.out.1 (by rw [← hi]; exact HT.out.2)
        subst ht
        clear c5 hi
        go_wp2
        go_ret2
        exact ⟨g, rfl, HD.out.1, HD.out.2⟩
theorem zeros_div (p : Nat) (h1 : 1 ≤ p) (h2 : p ≤ 4096) : 1 ≤ (List.replicate (p * 512) (0 : Int)).length / 512 ∧ (List.replicate (p * 512) (0 : Int)).length / 512 ≤ 4096 ∧ (List.replicate (p * 512) (0 : Int)).length % 512 = 0 := by
  rw [List.length_replicate]
  omega
theorem new_bad (w : World) (p : Int) (hp : ¬ (1 ≤ p ∧ p ≤ 4096)) : Calls Try.prog 20 #[.int .i64 p] w fun e w' => e = .returned (.tuple #[.pointer none, .int .i64 1]) ∧ w' = w := by
  by_cases h1 : p < 1
  · have c1 : decide (p < 1) = true := decide_eq_true h1
    clear hp h1
    go_enter Try.func20, Try.ntmps20
    go_wp2
    go_ret2
    exact ⟨rfl, rfl⟩
  · have c1 : decide (p < 1) = false := decide_eq_false h1
    have c2 : decide (4096 < p) = true := decide_eq_true (by omega)
    clear hp h1
    go_enter Try.func20, Try.ntmps20
    go_wp2
    go_ret2
    exact ⟨rfl, rfl⟩
/-- A new disk's pages: so many, all free but the first. -/
theorem new_ok (w : World) (p : Int) (hp : 1 ≤ p ∧ p ≤ 4096) : Calls Try.prog 20 #[.int .i64 p] w fun e w' => ∃ g, e = .returned (.tuple #[.pointer (some ⟨g, 0, none⟩), .int .i64 0]) ∧ Dk w' (fun k => w.heap.size ≤ k) g (List.replicate (p.toNat * 512) 0) (ld (List.replicate (p.toNat * 512) 0)) ∧ Below w.heap.size w w' := by
  have c1 : decide (p < 1) = false := decide_eq_false (by omega)
  have c2 : decide (4096 < p) = false := decide_eq_false (by omega)
  have w1 := Aside0.mk (wr_in (p * 512) (by omega))
  have HP := Aside0.mk hp
  clear hp
  go_enter Try.func20, Try.ntmps20
  go_wp2_with (first | ((with_reducible refine gate_dst (N := 12) rfl ?_); refine Kd.R_make (Kd.int .u8) _ 5 rfl (N := 12) rfl 26 _ _ rfl (wrap64 (p * 512)) rfl rfl Try.underlying26 (.int .u8 0) 1 info5 rfl (by decide) (by omega) 0 (ok := fun _ => True) (okp := fun _ => True) rfl (fun _ hk => hk) trivial (by rw [w1.out]; have := HP.out; omega) (by rw [w1.out]; have := HP.out; omega) (Below.refl _ _) (Nat.le_refl _) ?_; intro v w2 ho2 hb2 hg2 hnew2; obtain ⟨A2, c2', e2⟩ := Kd.R_slice ho2; subst e2; have HO2 := Aside0.mk ho2; have HL2 := Aside0.mk hb2; clear ho2 hb2 hg2 hnew2) | (go_at_call 24; (have hx := load_ok _ A2 c2' (List.replicate (wrap64 (p * 512)).toNat 0) (Kd.R_reads' HO2.out).2.2 (by have := zeros_div p.toNat (by have := HP.out; omega) (by have := HP.out; omega); have e : (wrap64 (p * 512)).toNat = p.toNat * 512 := (by rw [w1.out]; have := HP.out; omega); rw [e]; exact this)); rw [List.length_replicate] at hx; (with_reducible refine hx.mono ?_); clear hx; rintro en w3 ⟨g, rfl, hd3, hb3⟩; have HD3 := Aside0.mk hd3; have HB3 := Aside0.mk hb3; clear hd3 hb3))
  go_ret2
  have e : (wrap64 (p * 512)).toNat = p.toNat * 512 := by rw [w1.out]; have := HP.out; omega
  have hd := HD3.out
  rw [e] at hd
  exact ⟨g, rfl, hd.mono (fun k hk => Nat.le_trans HL2.out.size hk), below_then HL2.out HL2.out.size HB3.out⟩
theorem ld_zeros (p : Nat) : ld (List.replicate (p * 512) 0) = (List.range p).map (fun i => decide (i = 0)) := by
  rw [ld, List.length_replicate, Nat.mul_div_cancel _ (by omega)]
  refine List.map_congr_left fun i hi => ?_
  have hi := List.mem_range.1 hi
  have hr : rd (List.replicate (p * 512) 0) ((i : Int) * 512) = 0 := by
    rw [rd, List.getD_eq_getElem?_getD, List.getElem?_replicate]
    split <;> rfl
  rw [lt, hr]
  simp
/-- The chapter's example. -/
theorem fixed_ok (w : World) : Calls Try.prog 15 #[] w fun e w' => e = .returned (.bool true) ∧ Below w.heap.size w w' := by
  have hz : ld (List.replicate ((3 : Int).toNat * 512) 0) = [true, false, false] := by rw [ld_zeros]; rfl
  go_enter Try.func15, Try.ntmps15
  go_wp2_with (first | (go_at_call 20; (with_reducible refine (new_ok _ 3 (by decide)).mono ?_); rintro en w1 ⟨g, rfl, hd1, hb1⟩; rw [hz] at hd1; have HD1 := Aside0.mk hd1; have HB1 := Aside0.mk hb1; clear hd1 hb1) | (go_at_call 30; (with_reducible refine (take_some HD1.out (by decide)).mono ?_); rintro en w2 ⟨rfl, hd2, hk2, hb2⟩; have HB2 := Aside0.mk (HB1.out.trans (hb2 w.heap.size (fun _ hk => hk))); have HD2 := Aside0.mk hd2; clear hd2 hk2 hb2 HD1 HB1) | (go_at_call 30; (with_reducible refine (take_some HD2.out (by decide)).mono ?_); rintro en w3 ⟨rfl, hd3, hk3, hb3⟩; have HB3 := Aside0.mk (HB2.out.trans (hb3 w.heap.size (fun _ hk => hk))); have HD3 := Aside0.mk hd3; clear hd3 hk3 hb3 HD2 HB2) | (go_at_call 30; (with_reducible refine (take_full HD3.out (by decide)).mono ?_); rintro en w4 ⟨rfl, rfl⟩; clear HD3))
  go_ret
  exact ⟨rfl, HB3.out⟩
theorem clone4_ok (w : World) (g : Nat) (c : Nat) (t : List Bool) (hC : Kd.C Kd.bool w (some ⟨g, 0, none⟩) t.length t) (hb : t.length ≤ 4096) :
    Calls Try.prog 68 #[.slice (some ⟨g, 0, none⟩) t.length c] w fun e w' => ∃ v : Value, e = .returned v ∧ Kd.R Kd.bool 4 w' w.heap.size (fun _ => True) v t ∧ Below w.heap.size w w' := by
  obtain ⟨i0, hi0, hz, hs, hby⟩ := info_parts info4
  have hc : ∀ j u, (encs Value.bool t)[j]? = some u → w.cell? ⟨g, 0 + j, none⟩ = some u := by
    intro j u hu
    have hj : j < t.length := by
      rcases Nat.lt_or_ge j t.length with h | h
      · exact h
      · rw [List.getElem?_eq_none (by rw [encs_length]; exact h)] at hu
        cases hu
    rw [encs_get (d := false) _ j hj] at hu
    obtain ⟨ad, he, hx⟩ := Kd.at_bool hC (j : Int) (by omega) (by omega)
    injection he with he
    subst he
    rw [add0] at hx
    rw [Nat.zero_add]
    exact hx.trans hu
  refine (Try.slices_Clone_f68 i0 (.bool false) 1 1 hi0 hz hs hby rfl (by omega) (fun w => by simp [Go.sizeOf, typeInfo, hi0, hs]) g 0 t.length c (encs Value.bool t) w (by rw [encs_length, Nat.mul_one]) (by unfold maxLen; omega) (by omega) hc (by intro v hv; simp only [encs, List.mem_map] at hv; obtain ⟨q, _, rfl⟩ := hv; rfl)).mono ?_
  rintro e w' ⟨v, rfl, ho, _, hB⟩
  exact ⟨v, rfl, Kd.R_of_own (h1 := fun _ => rfl) ho (fun _ _ => trivial), hB⟩
end Go.Proofs.Ytolgcohmmghehaa.Dsk
