/- The law's 'same' over a page: the page has just these records. Conditions: stated in same_ok. -/
import Derived.Test.YtolgcohmmghehaaSlotsE
import Derived.Test.YtolgcohmmghehaaClr
import Derived.Test.YtolgcohmmghehaaXSlotsPlaysx5
import Derived.BigQuiet
import Derived.Deep.QuietTactic
namespace Go.Proofs.Ytolgcohmmghehaa.Slb
open Go.RowKit Go.Proofs.YtolgcohmmghehaaW.PrintWords Go.Proofs.YtolgcohmmghehaaW.PrintLast Go.Proofs.YtolgcohmmghehaaW.PrintMore Go.Proofs.Ytolgcohmmghehaa.Byt Go.Proofs.Ytolgcohmmghehaa.Dsk Go.Proofs.Ytolgcohmmghehaa.XSlotsPlays
set_option linter.unusedVariables false
set_option linter.unusedSimpArgs false
set_option maxRecDepth 100000
theorem clr (W : World) {base : Nat} {ok : Nat → Prop} {A : Option Addr} {n c : Nat} {xs : List Int} (h : Kd.R (Kd.int .u8) 5 W base ok (.slice A n c) xs) : ∃ w1, (Builtin.clear_ #[26] 0 #[.slice A n c]).run Try.prog W = .ok (.tuple #[]) w1 ∧ W.grownBy w1 (Value.slice A n c).ownBlock :=
  Clr.clear_own Try.underlying26 (fun w => by obtain ⟨i0, hi0, hz, _⟩ := info_parts Dsk.info5; simp [zeroValue, typeInfo, hi0, hz]) h 0
theorem Since.far {W W' W2 : World} {base g : Nat} {f : Nat → Nat} {i : Nat} {row : Option Nat} (h : Since W W' base g f i) (hg : W'.grownBy W2 row) (hb : ∀ b, row = some b → W.heap.size ≤ b) : Since W W2 base g f i :=
  ⟨Nat.le_trans h.1 hg.size, fun k hk hn => (hg.block k (Nat.lt_of_lt_of_le hk h.1) (fun e => by have := hb k e.symm; omega)).trans (h.2 k hk hn)⟩
theorem Since.mine {W W' W2 : World} {base g : Nat} {f : Nat → Nat} {i : Nat} {row : Option Nat} (h : Since W W' base g f i) (hg : W'.grownBy W2 row) (hb : ∀ b, row = some b → b ≠ g ∧ f b = i ∧ base ≤ b) : Since W W2 base g f (i + 1) :=
  ⟨Nat.le_trans h.1 hg.size, fun k hk hn => (hg.block k (Nat.lt_of_lt_of_le hk h.1) (fun e => by
    have h3 := hb k e.symm
    exact hn ⟨h3.1, by omega, h3.2.2⟩)).trans (h.2 k hk (fun h2 => hn ⟨h2.1, by omega, h2.2.2⟩))⟩
theorem Since.drewN {W W' : World} {base g : Nat} {f : Nat → Nat} {i : Nat} (h : Since W W' base g f i) (m : Nat) : Since W (W'.drewN m) base g f i := h.below (pw_below_drewN (Below.refl _ _) m)
set_option maxHeartbeats 8000000 in
theorem same_ok (k : Nat) (A0 : Option Addr) (c0 : Nat) (l0 : List Int) (a1 : Int) (A1 : Option Addr) (c1 : Nat) (l1 : List ByteArray) (w : World) (hr0 : Kd.C (Kd.int .u8) w A0 l0.length l0) (hc0 : l0.length ≤ c0) (hr1 : Kd.C Kd.string w A1 l1.length l1) (hc1 : l1.length ≤ c1)
    (recs : List (List Int)) (hall : slots_All.f k l0 = some (recs, 0)) (hl : recs.length = l1.length) (hn : recs.length ≤ 1000) (hm : ∀ i : Nat, i < recs.length → rdOf ByteArray.empty l1 i = strOfNums (rd_L recs i))
    (hget : ∀ i : Nat, i < recs.length → slots_Get.f k l0 i = some (rd_L recs i, 0)) (hlow : slots_Get.f k l0 (-1) = some ([], 9)) (hhigh : slots_Get.f k l0 recs.length = some ([], 9)) :
    Calls Try.prog 55 #[.slice A0 l0.length c0, .agg #[.int .u32 a1, .slice A1 l1.length c1]] w fun e w' => e = .returned (.bool true) ∧ Below w.heap.size w w' := by
  obtain ⟨n, hn0⟩ : ∃ n, n = recs.length := ⟨_, rfl⟩
  have HC := Aside0.mk (And.intro hr0 (And.intro hc0 (And.intro hr1 hc1)))
  have HF := Aside0.mk (And.intro hall (And.intro hget (And.intro hlow hhigh)))
  have HL := Aside0.mk (And.intro hn0 (And.intro (show l1.length = n by omega) (show n ≤ 1000 by omega)))
  have HM := Aside0.mk hm
  have hl1 : l1.length = n := by omega
  clear hr0 hc0 hr1 hc1 hall hget hlow hhigh hl hn hm
  rw [← hn0] at HF HM
  rw [hl1] at HC ⊢
  clear hl1 hn0
  go_enter Try.func55, Try.ntmps55
  go_upto_region 4 with (go_at_call 59; (with_reducible refine (slots_All.calls k A0 c0 l0 recs 0 _ (Kd.C_alloc HC.out.1 _) HC.out.2.1 HF.out.1).mono ?_); rintro en w2 ⟨v, rfl, ho, hb⟩; obtain ⟨A5, c5, e5⟩ := Kd.R_slice (Kd.S_R ho); rw [← HL.out.1] at e5; subst e5; have HO2 := Aside0.mk ho; have HX2 := Aside0.mk (blk_below (blk_new w _) hb); have HB2 := Aside0.mk (below_then (below_alloc (Below.refl w.heap.size w) _) (by simp) hb); have HZ2 := Aside0.mk hb.size; clear ho hb; have hx1 := (blk_cell HX2.out 1).trans rfl)
  obtain ⟨base, hbase⟩ : ∃ base, base = w.heap.size + 1 := ⟨_, rfl⟩
  have hS : ∃ (f : Nat → Nat) (g : Nat), 0 < n → (A5 = some ⟨g, 0, none⟩ ∧ base ≤ g ∧ g < w2.heap.size ∧ ∀ i : Nat, i < n → ∃ A c, El w2 base g f recs i A c) := by
    by_cases hp : 0 < n
    · obtain ⟨f, g, cap, hv, h1, h2, h3⟩ := S_el HO2.out (by rw [← HL.out.1]; exact hp)
      refine ⟨f, g, fun _ => ⟨by injection hv, by rw [hbase]; simpa using h1, h2, fun i hi => ?_⟩⟩
      obtain ⟨A, c, hE⟩ := h3 i (by rw [← HL.out.1]; exact hi)
      refine ⟨A, c, ?_⟩
      rw [hbase]
      simpa using hE
    · exact ⟨fun _ => 0, 0, fun h => absurd h hp⟩
  obtain ⟨f, g, hS⟩ := hS
  have HS := Aside0.mk hS
  have HBS := Aside0.mk hbase
  clear hS hbase
  go_wp2
  go_loopg [36] n (fun kq v36 w' => ∃ i : Nat, v36 = .int .i64 (i : Int) ∧ Aside0 (kq + i = n) ∧ Aside0 (Since w2 w' base g f i) ∧ Aside0 (Below w.heap.size w w'))
  case atStart => exact ⟨0, rfl, ⟨by omega⟩, ⟨Nat.le_refl _, fun _ _ _ => rfl⟩, HB2⟩
  case round =>
    obtain ⟨i, rfl, HI, HSi, HB⟩ := hrel
    have hx1' : wr.heap[w.heap.size]? = some (.cells #[.int .u32 a1, .slice A1 n c1] 89 (0, 0)) := (HSi.out.2 w.heap.size (blk_lt HX2.out) (fun h => by have := HBS.out; omega)).trans HX2.out
    have HXr := Aside0.mk hx1'
    clear hx1' hx1
    by_cases c5 : i < n
    · have q9 : (i < n) = True := eq_true c5
      have q8 : ((i : Int) < (n : Int)) = True := eq_true (by omega)
      have c5b : decide ((i : Int) < (n : Int)) = true := decide_eq_true (by omega)
      have c5c : decide (i < n) = true := decide_eq_true c5
      obtain ⟨hA5, hg1, hg2, hEl⟩ := HS.out (by omega)
      subst hA5
      obtain ⟨A, c, hE⟩ := hEl i c5
      have hon := hE.on HSi.out (Nat.le_refl _) hg2
      have hx0 := hon.1
      have e1 : Addr.add ⟨g, 0, none⟩ i = ⟨g, i, none⟩ := add0 _ _
      obtain ⟨ad, e2, hs0⟩ := Kd.at_string HC.out.2.2.1 (i : Int) (by omega) (by omega)
      rw [HM.out i c5, Int.toNat_natCast] at hs0
      obtain ⟨rc, hrc⟩ : ∃ rc, rc = rd_L recs i := ⟨_, rfl⟩
      rw [← hrc] at hs0 hx0
      subst e2
      have HE := Aside0.mk (And.intro hE (And.intro hg1 (And.intro hg2 hrc)))
      have HS0 := Aside0.mk hs0
      have HC5 := Aside0.mk c5
      clear hE hon hEl hg1 hg2 hrc hs0 c5
      go_wp2_with (go_at_call 58; (with_reducible refine (slots_Get.calls k A0 c0 l0 (i : Int) rc 0 _ (Kd.C_below HC.out.1 HB.out) HC.out.2.1 (by rw [HE.out.2.2.2]; exact HF.out.2.1 i HC5.out)).mono ?_); rintro en w4 ⟨v, rfl, ho, hb⟩; obtain ⟨A9, c9, e9⟩ := Kd.R_slice ho; subst e9; have HO4 := Aside0.mk ho; have HB4 := Aside0.mk (below_then HB.out HB.out.size hb); have HS4 := Aside0.mk (HSi.out.below hb); have HZ4 := Aside0.mk (And.intro HSi.out.1 hb.size); have hcv9 := (fun m => own_string (P := Try.prog) Try.underlying26 Try.underlying5 Try.underlying9 (Kd.own_of_R (Kd.R_drewN ho m))); have hon4 := HE.out.1.on HS4.out (Nat.le_refl _) HE.out.2.2.1; rw [← HE.out.2.2.2] at hon4; have hcvr := (fun m => own_string (P := Try.prog) Try.underlying26 Try.underlying5 Try.underlying9 (Kd.own_of_R (Kd.R_drewN hon4.2 m))); have hs4 := (HB4.out.cell (World.block_lt_of_cell? w _ HS0.out)).trans HS0.out; have HX4 := Aside0.mk (blk_below HXr.out hb); clear ho hb hon4 hx0; have hx1 := (blk_cell HX4.out 1).trans rfl)
      obtain ⟨fw1, hfw1⟩ := Classical.axiomOfChoice (fun m : Nat => clr (w4.drewN m) (Kd.R_drewN HO4.out m))
      have hS5 : ∀ m, Since w2 (fw1 m) base g f i := fun m => (HS4.out.drewN m).far (hfw1 m).2 (fun b hb => Nat.le_trans HZ4.out.1 (Kd.R_base HO4.out b hb))
      have honr : ∀ m, Kd.R (Kd.int .u8) 5 (fw1 m) base (fun k => (k ≠ g ∧ f k = i) ∧ base ≤ k ∧ k < w2.heap.size) (.slice A rc.length c) rc := fun m => by
        have h3 := (HE.out.1.on (hS5 m) (Nat.le_refl _) HE.out.2.2.1).2
        rw [← HE.out.2.2.2] at h3
        exact h3
      obtain ⟨fw2, hfw2⟩ := Classical.axiomOfChoice (fun m : Nat => clr (fw1 m) (honr m))
      have HS6 := Aside0.mk (fun m => (hS5 m).mine (hfw2 m).2 (fun b hb => by have h3 := (honr m).1 b hb; exact ⟨h3.1.1, h3.1.2, h3.2.1⟩))
      have HB6 := Aside0.mk (fun m => (((pw_below_drewN HB4.out m).grown (hfw1 m).2 (pw_below_drewN HB4.out m).size (fun b hb => Nat.le_trans HB.out.size (Kd.R_base HO4.out b hb))).grown (hfw2 m).2 ((pw_below_drewN HB4.out m).grown (hfw1 m).2 (pw_below_drewN HB4.out m).size (fun b hb => Nat.le_trans HB.out.size (Kd.R_base HO4.out b hb))).size (fun b hb => by have h3 := (honr m).1 b hb; have := HBS.out; omega)))
      have hcl1 := fun m => (hfw1 m).1
      have hcl2 := fun m => (hfw2 m).1
      clear hfw1 hfw2 hS5 honr
      go_quiet (fail)
      go_wp2
      go_roundg (gk - 1)
      case measure => have h1 := HI.out; have h2 := HC5.out; omega
      case rel =>
        have h1 := HI.out
        have h2 := HC5.out
        have h3 := HL.out.2.2
        exact ⟨i + 1, by rw [wr_in ((i : Int) + 1) (by omega)]; rfl, ⟨by omega⟩, ⟨HS6.out _⟩, ⟨HB6.out _⟩⟩
    · have q9 : (i < n) = False := eq_false c5
      have c5b : decide ((i : Int) < (n : Int)) = false := decide_eq_false (by omega)
      have c5c : decide (i < n) = false := decide_eq_false c5
      clear c5
      have hx1 := (blk_cell HXr.out 1).trans rfl
      go_upto_region 16 with (go_at_call 59; (with_reducible refine (slots_All.calls k A0 c0 l0 recs 0 _ (Kd.C_below HC.out.1 HB.out) HC.out.2.1 HF.out.1).mono ?_); rintro en w5 ⟨v, rfl, ho, hb⟩; obtain ⟨A6, c6, e6⟩ := Kd.R_slice (Kd.S_R ho); rw [← HL.out.1] at e6; subst e6; have HO5 := Aside0.mk (Kd.R_reads' (Kd.S_R ho)).2.2; have HX5 := Aside0.mk (blk_below HXr.out hb); have HB5 := Aside0.mk (below_then HB.out HB.out.size hb); clear ho hb hx1; have hx1 := (blk_cell HX5.out 1).trans rfl)
      go_wp2
      go_loopg [89] n (fun kq v89 w' => ∃ i : Nat, v89 = .int .i64 (i : Int) ∧ Aside0 (kq + i = n) ∧ Aside0 (Below w5.heap.size w5 w'))
      case atStart => exact ⟨0, rfl, ⟨by omega⟩, ⟨Below.refl _ _⟩⟩
      case round =>
        obtain ⟨i2, rfl, HI2, HBx⟩ := hrel
        clear hx1
        have HXx := Aside0.mk (blk_below HX5.out HBx.out)
        have hx1 := (blk_cell HXx.out 1).trans rfl
        by_cases c6b : i2 < n
        · have q9 : (i2 < n) = True := eq_true c6b
          have q8 : ((i2 : Int) < (n : Int)) = True := eq_true (by omega)
          have c5b : decide ((i2 : Int) < (n : Int)) = true := decide_eq_true (by omega)
          have c5c : decide (i2 < n) = true := decide_eq_true c6b
          obtain ⟨ad, A', c', e2, hx0, _, hCr⟩ := at_L HO5.out (i2 : Int) (by omega) (by rw [← HL.out.1]; omega)
          obtain ⟨ad1, e3, hs0⟩ := Kd.at_string HC.out.2.2.1 (i2 : Int) (by omega) (by omega)
          rw [HM.out i2 c6b, Int.toNat_natCast] at hs0
          rw [Int.toNat_natCast] at hx0
          have hre : rd_L recs (i2 : Int) = rd_L recs (i2 : Nat) := rfl
          generalize rd_L recs (i2 : Int) = rc at hx0 hCr hs0
          subst e2
          subst e3
          replace hx0 := (HBx.out.cell (World.block_lt_of_cell? w5 _ hx0)).trans hx0
          have hs1 := ((below_then HB5.out HB5.out.size HBx.out).cell (World.block_lt_of_cell? w _ hs0)).trans hs0
          have hcv := fun m => Kd.C_string (P := Try.prog) (c := c') Try.underlying26 Try.underlying5 Try.underlying9 (Kd.C_drewN (Kd.C_below hCr HBx.out) m)
          have HC6 := Aside0.mk c6b
          clear c6b hs0 hCr hre
          go_upto_region 19 with fail
          go_quiet (fail)
          go_wp2
          go_roundg (gk - 1)
          case measure => have h1 := HI2.out; have h2 := HC6.out; omega
          case rel =>
            have h1 := HI2.out
            have h2 := HC6.out
            have h3 := HL.out.2.2
            exact ⟨i2 + 1, by rw [wr_in ((i2 : Int) + 1) (by omega)]; rfl, ⟨by omega⟩, ⟨pw_below_drewN HBx.out _⟩⟩
        · have q9 : (i2 < n) = False := eq_false c6b
          have c5b : decide ((i2 : Int) < (n : Int)) = false := decide_eq_false (by omega)
          have c5c : decide (i2 < n) = false := decide_eq_false c6b
          have HB6 := Aside0.mk (below_then HB5.out HB5.out.size HBx.out)
          clear c6b hx1
          go_wp2_with (first
            | (go_at_call 58; (with_reducible refine (slots_Get.calls k A0 c0 l0 (-1) [] 9 _ (Kd.C_below HC.out.1 HB6.out) HC.out.2.1 HF.out.2.2.1).mono ?_); rintro en w7 ⟨v7, rfl, _, hb⟩; have HB7 := Aside0.mk (below_then HB6.out HB6.out.size hb); clear hb)
            | (go_at_call 58; (with_reducible refine (slots_Get.calls k A0 c0 l0 (n : Int) [] 9 _ (Kd.C_below HC.out.1 HB7.out) HC.out.2.1 HF.out.2.2.2).mono ?_); rintro en w8 ⟨v8, rfl, _, hb⟩; have HB8 := Aside0.mk (below_then HB7.out HB7.out.size hb); clear hb))
          go_ret
          exact ⟨rfl, HB8.out⟩
end Go.Proofs.Ytolgcohmmghehaa.Slb
