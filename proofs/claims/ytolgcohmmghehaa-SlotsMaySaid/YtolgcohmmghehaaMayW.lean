/- The law SlotsMay walked. Conditions: stated in SlotsMay_walk. -/
import Derived.Test.YtolgcohmmghehaaPureMayB
import Derived.Test.YtolgcohmmghehaaWZeros
import Derived.Test.YtolgcohmmghehaaXSlotsPlaysx6
import Derived.Deep.RegionWith
import Derived.Deep.CutRange
import Derived.Deep.DeepCutAuto
import Derived.Deep.OwnRows
import Derived.BigRegion
namespace Go.Proofs.Ytolgcohmmghehaa.MayW
open Go.RowKit Go.Proofs.YtolgcohmmghehaaW.PrintWords Go.Proofs.YtolgcohmmghehaaW.PrintLast Go.Proofs.YtolgcohmmghehaaW.PrintMore Go.Proofs.Ytolgcohmmghehaa.Byt Go.Proofs.Ytolgcohmmghehaa.Slb Go.Proofs.Ytolgcohmmghehaa.XSlotsPlays Go.Proofs.Ytolgcohmmghehaa.PureS
set_option linter.unusedVariables false
set_option linter.unusedSimpArgs false
set_option maxRecDepth 100000
theorem fixed_ok (w : World) : Calls Try.prog 47 #[] w fun e w' => e = .returned (.bool true) ∧ Below w.heap.size w w' := rowlocklaw08_fixed.calls 200 true w (fixed_f 0)
theorem add_ok (A0 : Option Addr) (c0 : Nat) (l0 : List Int) (A1 : Option Addr) (c1 : Nat) (l1 : List Int) (r1 : List Int) (r2 r3 : Int) (w : World) (hr0 : Kd.C (Kd.int .u8) w A0 l0.length l0) (hc0 : l0.length ≤ c0) (hr1 : Kd.C (Kd.int .u8) w A1 l1.length l1) (hc1 : l1.length ≤ c1) (k : Nat) (h : slots_Add.f k l0 l1 = some (r1, r2, r3)) :
    Calls Try.prog 49 #[.slice A0 l0.length c0, .slice A1 l1.length c1] w fun e w' => ∃ v0_ : Value, e = .returned (.tuple #[v0_, .int .i64 r2, .int .i64 r3]) ∧ Kd.R (Kd.int .u8) 5 w' w.heap.size (fun _ => True) v0_ r1 ∧ Below w.heap.size w w' := by
  refine (slots_Add.calls k A0 c0 l0 (fun k => k < w.heap.size) A1 c1 l1 r1 r2 r3 w hr0 hc0 (Kd.V_mk hc1 (Kd.C_F (Kd.heap_int .u8) hr1)) h).mono ?_
  rintro e w' ⟨v, rfl, ho, hb⟩
  exact ⟨v, rfl, Kd.R_mono ho (fun _ _ => trivial), hb⟩
theorem SlotsMay_big (A0 : Option Addr) (n0 c0 : Nat) (A1 : Option Addr) (n1 c1 : Nat) (A2 : Option Addr) (n2 c2 : Nat) (ct sz : Int) (w : World) (h : 60 < n0 ∨ 20 < n1 ∨ n1 ≠ n2) : Calls Try.prog 14 #[.slice A0 n0 c0, .slice A1 n1 c1, .slice A2 n2 c2, .int .u16 ct, .int .i64 sz] w fun e w' => e = .returned (.bool true) ∧ Below w.heap.size w w' := by
  by_cases h1 : 60 < n0
  · have c1 : decide (60 < (n0 : Int)) = true := decide_eq_true (by omega)
    have c1b : decide (60 < n0) = true := decide_eq_true h1
    clear h h1
    go_enter Try.func14, Try.ntmps14
    go_wp2_with (go_at_call 47; (with_reducible refine (fixed_ok _).mono ?_); rintro en w1 ⟨rfl, hb⟩; have HB := Aside0.mk hb; clear hb)
    go_ret
    exact ⟨rfl, HB.out⟩
  have c1 : decide (60 < (n0 : Int)) = false := decide_eq_false (by omega)
  have c1b : decide (60 < n0) = false := decide_eq_false h1
  by_cases h2 : 20 < n1
  · have c2 : decide (20 < (n1 : Int)) = true := decide_eq_true (by omega)
    have c2b : decide (20 < n1) = true := decide_eq_true h2
    clear h h1 h2
    go_enter Try.func14, Try.ntmps14
    go_wp2_with (go_at_call 47; (with_reducible refine (fixed_ok _).mono ?_); rintro en w1 ⟨rfl, hb⟩; have HB := Aside0.mk hb; clear hb)
    go_ret
    exact ⟨rfl, HB.out⟩
  have c2 : decide (20 < (n1 : Int)) = false := decide_eq_false (by omega)
  have c2b : decide (20 < n1) = false := decide_eq_false h2
  have c3 : ((n1 : Int) != (n2 : Int)) = true := bne_iff_ne.mpr (by omega)
  have c3b : (n1 != n2) = true := bne_iff_ne.mpr (by omega)
  clear h h1 h2
  go_enter Try.func14, Try.ntmps14
  go_wp2_with (go_at_call 47; (with_reducible refine (fixed_ok _).mono ?_); rintro en w1 ⟨rfl, hb⟩; have HB := Aside0.mk hb; clear hb)
  go_ret
  exact ⟨rfl, HB.out⟩
theorem add_any {rs : List (List Int)} (h : Ok 7 rs) (r : List Int) (hy : By r) : ∃ r1 r2 r3, slots_Add.f 400 (pg 7 rs) r = some (r1, r2, r3) ∧ ((r3 = 0 ∧ ∃ rs', Ok 7 rs' ∧ r1 = pg 7 rs') ∨ r3 ≠ 0) := by
  by_cases h0 : r = []
  · rw [h0]
    exact ⟨_, _, _, h.add_empty 200, Or.inr (by decide)⟩
  have hp : 0 < r.length := List.length_pos_iff.2 h0
  by_cases h1 : room rs < r.length
  · exact ⟨_, _, _, h.add_full 200 r hp h1, Or.inr (by decide)⟩
  · exact ⟨_, _, _, h.add 200 r hp hy (by omega), Or.inl ⟨rfl, _, h.more r hp hy (by omega), rfl⟩⟩
theorem cutM (A : Option Addr) (c : Nat) (xs : List Int) (hl : xs.length = 600) (hc : 600 ≤ c) (m : Nat) (hm : m ≤ 600) : ∀ W : World, (Instr.slice 26 (.slice A 600 c) none (some (.int .i64 (m : Int))) none).run Try.prog W = .ok (.slice A m c) W := by
  obtain ⟨i0, hi0, _, hsz, _⟩ := info_parts info5
  obtain ⟨h, _⟩ := print_take_of (P := Try.prog) (Value.int .u8) 0 26 5 .i64 Try.underlying26 hi0 hsz A c xs (m : Int) (by omega) (by omega) (by omega)
  rw [hl, Int.toNat_natCast, List.length_take, hl, Nat.min_eq_left hm] at h
  exact h
theorem cutC (W : World) (A : Option Addr) (xs : List Int) (hl : xs.length = 600) (h : Kd.C (Kd.int .u8) W A 600 xs) (m : Nat) (hm : m ≤ 600) : Kd.C (Kd.int .u8) W A m (xs.take m) := by
  have := Kd.C_take (m := m) (hl ▸ h : Kd.C (Kd.int .u8) W A xs.length xs) (by omega)
  rwa [List.length_take, hl, Nat.min_eq_left hm] at this
theorem add_one (A0 : Option Addr) (c0 : Nat) (l0 : List Int) (A1 : Option Addr) (c1 : Nat) (r1 : List Int) (r2 r3 : Int) (w : World) (hr0 : Kd.C (Kd.int .u8) w A0 l0.length l0) (hc0 : l0.length ≤ c0) (hr1 : Kd.C (Kd.int .u8) w A1 ([1] : List Int).length [1]) (hc1 : ([1] : List Int).length ≤ c1) (k : Nat) (h : slots_Add.f k l0 [1] = some (r1, r2, r3)) :
    Calls Try.prog 49 #[.slice A0 l0.length c0, .slice A1 1 c1] w fun e w' => ∃ v0_ : Value, e = .returned (.tuple #[v0_, .int .i64 r2, .int .i64 r3]) ∧ Kd.R (Kd.int .u8) 5 w' w.heap.size (fun _ => True) v0_ r1 ∧ Below w.heap.size w w' := add_ok A0 c0 l0 A1 c1 [1] r1 r2 r3 w hr0 hc0 hr1 hc1 k h
theorem factsN {zs : List Int} {x : Int} {y : List (List Int)} (h : slots_read.f 4000 zs = some (x, y, false)) : slots_May.f 4000 zs = some false ∧ slots_Add.f 4000 zs [1] = some ([], 0, 2) ∧ slots_Get.f 4000 zs 0 = some ([], 2) ∧ slots_All.f 4000 zs = some ([], 2) ∧ slots_Link.f 4000 zs 1 = some ([], 2) ∧ slots_Count.f 4000 zs = some 0 ∧ slots_Room.f 4000 zs = some 0 := by
  refine ⟨?_, ?_, ?_, ?_, ?_, ?_, ?_⟩
  · rw [slots_May.f, h]
    rfl
  · rw [slots_Add.f, h]
    rfl
  · rw [slots_Get.f, h]
    rfl
  · rw [slots_All.f, h]
    rfl
  · rw [slots_Link.f, h]
    rfl
  · rw [slots_Count.f, h]
    rfl
  · rw [slots_Room.f, h]
    rfl
theorem facts {zs : List Int} {nx : Int} {rs : List (List Int)} (h : Ok nx rs) (e : zs = pg nx rs) : rowlockref08_Read.f 4000 (strOfNums zs) = some (nx, txt rs, true) ∧ slots_May.f 4000 zs = some true ∧ slots_Count.f 4000 zs = some (rs.length : Int) ∧ slots_Room.f 4000 zs = some (room rs : Int) ∧ rowlockref08_Page_Room.f 4000 nx (txt rs) = some (room rs : Int) ∧ rowlocklaw08_same.f 4000 zs nx (txt rs) = some true := by
  have hc := h.count
  subst e
  refine ⟨h.ref_read 2000, ?_, h.count_ 3800, h.room_ 3800, ref_room nx rs 4000 h.sz (by omega), same_f h 3800⟩
  rw [slots_May.f, show (4000 : Nat) = 3800 + 200 from rfl, h.read' 3800]
  rfl
theorem xor_byte (a b : Int) : 0 ≤ Go.bits .xor .u8 a b ∧ Go.bits .xor .u8 a b ≤ 255 := by
  obtain ⟨v, hv⟩ : ∃ v : Int, Go.bits .xor .u8 a b = v % 256 := ⟨_, rfl⟩
  rw [hv]
  omega
theorem by_set {l : List Int} (h : By l) (m : Nat) {u : Int} (hu : 0 ≤ u ∧ u ≤ 255) : By (l.set m u) := fun x hx => by
  rcases List.mem_or_eq_of_mem_set hx with hx | rfl
  · exact h x hx
  · exact hu
set_option maxHeartbeats 8000000 in
theorem SlotsMay_walk (A0 : Option Addr) (c0 : Nat) (l : List (List Int)) (A1 : Option Addr) (c1 : Nat) (ats : List Int) (A2 : Option Addr) (c2 : Nat) (bys : List Int) (n : Nat) (ct sz : Int) (w : World)
    (hC0 : Kd.C (Kd.slice 5 (Kd.int .u8)) w A0 l.length l) (hl : l.length ≤ 60) (hy0 : ∀ r ∈ l, By r) (hC1 : Kd.C (Kd.int .u16) w A1 n ats) (hC2 : Kd.C (Kd.int .u8) w A2 n bys) (hn : n ≤ 20) (hn1 : ats.length = n) (hn2 : bys.length = n) (hy1 : ∀ x ∈ ats, 0 ≤ x ∧ x < 65536) (hy2 : By bys) (hct : 0 ≤ ct ∧ ct < 65536) :
    Calls Try.prog 14 #[.slice A0 l.length c0, .slice A1 n c1, .slice A2 n c2, .int .u16 ct, .int .i64 sz] w fun e w' => e = .returned (.bool true) ∧ Below w.heap.size w w' := by
  have k1 : decide (60 < (l.length : Int)) = false := decide_eq_false (by omega)
  have k1b : decide (60 < l.length) = false := decide_eq_false (by omega)
  have k2 : decide (20 < (n : Int)) = false := decide_eq_false (by omega)
  have k2b : decide (20 < n) = false := decide_eq_false (by omega)
  have k3 : ((n : Int) != (n : Int)) = false := bne_self_eq_false' _
  have HC0 := Aside0.mk (And.intro hC0 (And.intro hl hy0))
  have HC1 := Aside0.mk (And.intro hC1 (And.intro hn1 hy1))
  have HC2 := Aside0.mk (And.intro hC2 (And.intro hn2 hy2))
  have HN := Aside0.mk (And.intro hn hct)
  clear hC0 hl hy0 hC1 hC2 hn hn1 hn2 hy1 hy2 hct
  go_enter Try.func14, Try.ntmps14
  go_wp2_with (go_at_call 48; (with_reducible refine (slots_New.calls 7 (pg 7 []) _ (new_f 7 (by omega))).mono ?_); rintro en w1 ⟨v, rfl, ho, hb⟩; have HO := Aside0.mk ho; have HB := Aside0.mk hb; clear ho hb)
  go_loopg [11, 49] l.length (fun kq v11 v49 w' => ∃ (i : Int) (rs : List (List Int)), v49 = .int .i64 i ∧ Aside0 (0 ≤ i ∧ (kq : Int) + i = l.length) ∧ Aside0 (Ok 7 rs) ∧ Aside0 (Kd.R (Kd.int .u8) 5 w' w.heap.size (fun _ => True) v11 (pg 7 rs)) ∧ Aside0 (Below w.heap.size w w'))
  case atStart => exact ⟨0, [], rfl, ⟨by omega⟩, ⟨ok_nil 7 (by omega)⟩, HO, HB⟩
  case round =>
    clear HO HB
    obtain ⟨i, rs, rfl, HI, HK, HO, HB⟩ := hrel
    obtain ⟨A, c, e⟩ := Kd.R_slice HO.out
    rw [HK.out.len] at e
    subst e
    by_cases c5 : i < (l.length : Int)
    · have c5b : decide (i < (l.length : Int)) = true := decide_eq_true c5
      obtain ⟨ad, A', c', e1, hx0, hrc, hCr⟩ := at_L HC0.out.1 i HI.out.1 c5
      subst e1
      replace hx0 := (HB.out.cell (World.block_lt_of_cell? w _ hx0)).trans hx0
      have hCr' := Kd.C_below hCr HB.out
      have hry : By (rd_L l i) := HC0.out.2.2 _ (by
        have hi : i.toNat < l.length := by have := HI.out.1; omega
        rw [rd_L, List.getD_eq_getElem?_getD, List.getElem?_eq_getElem hi]
        exact List.getElem_mem hi)
      obtain ⟨r, hr⟩ : ∃ r, r = rd_L l i := ⟨_, rfl⟩
      rw [← hr] at hx0 hrc hCr' hry
      have HR := Aside0.mk (And.intro hCr' (And.intro hrc hry))
      have p9 : (0 ≤ i) = True := eq_true HI.out.1
      have q9 : (i < (l.length : Int)) = True := eq_true c5
      have HC5 := Aside0.mk c5
      clear c5 hCr hCr' hrc hry hr
      by_cases c6 : 600 < r.length
      · have c6b : decide (600 < (r.length : Int)) = true := decide_eq_true (by omega)
        have c6c : decide (600 < r.length) = true := decide_eq_true c6
        clear c6
        go_wp2_with (go_at_call 47; (with_reducible refine (fixed_ok _).mono ?_); rintro en w2 ⟨rfl, hb⟩; have HB2 := Aside0.mk (below_then HB.out HB.out.size hb); clear hb)
        go_ret
        exact ⟨rfl, HB2.out⟩
      have c6b : decide (600 < (r.length : Int)) = false := decide_eq_false (by omega)
      have c6c : decide (600 < r.length) = false := decide_eq_false c6
      obtain ⟨r1, r2, r3, hadd, hcase⟩ := add_any HK.out r HR.out.2.2
      have HA := Aside0.mk hadd
      clear c6 hadd
      have hlen := HK.out.len
      rcases hcase with ⟨rfl, rs', hok, rfl⟩ | h3
      · have HK' := Aside0.mk hok
        have HLn := Aside0.mk hlen
        clear hok hlen
        go_wp2_with (go_at_call 49; (have hx := add_ok A c (pg 7 rs) A' c' r (pg 7 rs') r2 0 _ (Kd.R_reads' (HLn.out ▸ HO.out)).2.2 (Kd.R_reads' (HLn.out ▸ HO.out)).2.1 HR.out.1 HR.out.2.1 400 HA.out); rw [HLn.out] at hx; (with_reducible refine hx.mono ?_); clear hx; rintro en w2 ⟨v, rfl, ho, hb⟩; have HO2 := Aside0.mk (Kd.R_lower ho HB.out.size); have HB2 := Aside0.mk (below_then HB.out HB.out.size hb); clear ho hb)
        go_roundg (gk - 1)
        case measure => have h1 := HI.out; have h2 := HC5.out; omega
        case rel =>
          have h1 := HI.out
          have h2 := HC5.out
          have h3 := HC0.out.2.1
          exact ⟨i + 1, rs', by rw [w64_in (i + 1) (by omega)], ⟨by omega⟩, HK', HO2, HB2⟩
      · have c7 : (r3 == 0) = false := beq_eq_false_iff_ne.mpr h3
        have HLn := Aside0.mk hlen
        clear h3 hlen
        go_wp2_with (go_at_call 49; (have hx := add_ok A c (pg 7 rs) A' c' r r1 r2 r3 _ (Kd.R_reads' (HLn.out ▸ HO.out)).2.2 (Kd.R_reads' (HLn.out ▸ HO.out)).2.1 HR.out.1 HR.out.2.1 400 HA.out); rw [HLn.out] at hx; (with_reducible refine hx.mono ?_); clear hx; rintro en w2 ⟨v, rfl, ho, hb⟩; have HO2 := Aside0.mk (Kd.R_below HO.out hb); have HB2 := Aside0.mk (below_then HB.out HB.out.size hb); clear ho hb)
        go_roundg (gk - 1)
        case measure => have h1 := HI.out; have h2 := HC5.out; omega
        case rel =>
          have h1 := HI.out
          have h2 := HC5.out
          have h3 := HC0.out.2.1
          exact ⟨i + 1, rs, by rw [w64_in (i + 1) (by omega)], ⟨by omega⟩, HK, HO2, HB2⟩
    · have c5b : decide (i < (l.length : Int)) = false := decide_eq_false c5
      clear c5 HI
      obtain ⟨xs, hxs⟩ : ∃ xs, xs = pg 7 rs := ⟨_, rfl⟩
      have HX := Aside0.mk (show By xs ∧ xs.length = 512 by rw [hxs]; exact ⟨pg_by 7 rs HK.out.by_, HK.out.len⟩)
      rw [← hxs] at HO
      clear hxs HK
      have k4 : (((512 : Nat) : Int) != 512) = false := by decide
      go_wp2_with (first
        | ((with_reducible refine gate_dst (N := 71) rfl ?_); refine Kd.R_lit (Kd.int .u8) _ 5 ?hg (N := 71) ?hd (xs := ([] : List Int)) (inner := []) (ok := fun _ => True) (okp := fun _ => True) ?hr ?hp (fun _ hk => hk) trivial (Below.refl _ _) (Nat.le_refl _) (by simp) ?_; (case hd => rfl); (case hg => rfl); (case hr => first | (go_simp; done) | (go_simp; rfl)); (case hp => exact Reps.none _ _); intro v5 w5 ho hb hg_ hnew_; have HO5 := Aside0.mk (Kd.R_lower ho HB.out.size); have HS5 := Aside0.mk (Kd.C_below (Kd.R_reads' (HX.out.2 ▸ HO.out)).2.2 hb); have HB5 := Aside0.mk (below_then HB.out HB.out.size hb); clear ho hb hg_ hnew_ HO HB)
        | ((with_reducible refine gate_builtin (b := .append) (xs := #[.tmp 71, .tmp 72]) rfl ?_); at_builtin; refine Kd.R_append_rows (Kd.int .u8) (w0 := w) w.heap.size rfl (.tmp 71) (.tmp 72) 26 5 (.int .u8 0) 1 rfl Try.underlying26 info5 rfl (by decide) (by omega) v5 [] xs A 512 c (fun _ => True) (fun _ => False) rfl rfl ?aO ?aR (fun _ _ h => h) (fun _ h => h.elim) ?aF ?aB ?aS ?aL ?_; (case aO => exact HO5.out); (case aR => exact HX.out.2 ▸ HS5.out); (case aF => exact fun _ _ => trivial); (case aB => exact HB5.out); (case aS => exact HB5.out.size); (case aL => have := HX.out.2; rw [List.length_nil]; omega); intro v9 w9 ho hb hg_ hat; rw [List.nil_append] at ho; obtain ⟨g, cap, e9, hg1, hg2, _⟩ := Kd.R_form ho (by rw [HX.out.2]; decide); rw [HX.out.2] at e9; subst e9; have HO9 := Aside0.mk ho; have HB9 := Aside0.mk hb; have HG := Aside0.mk hg1; clear ho hb hg_ hat hg1 hg2 HO5 HB5 HS5))
      clear k4
      go_loopg [76] n (fun kq v76 w' => ∃ (i : Int) (ys : List Int), v76 = .int .i64 i ∧ Aside0 (0 ≤ i ∧ (kq : Int) + i = n) ∧ Aside0 (By ys ∧ ys.length = 512) ∧ Aside0 (Kd.R (Kd.int .u8) 5 w' w.heap.size (fun _ => True) (.slice (some ⟨g, 0, none⟩) 512 cap) ys) ∧ Aside0 (Below w.heap.size w w'))
      case atStart => exact ⟨0, xs, rfl, ⟨by omega⟩, HX, HO9, HB9⟩
      case round =>
        clear HO9 HB9 HX
        obtain ⟨i, ys, rfl, HI, HY, HO, HB⟩ := hrel
        by_cases c5 : i < (n : Int)
        · have c5b : decide (i < (n : Int)) = true := decide_eq_true c5
          obtain ⟨ad1, e1, hx1⟩ := Kd.at_int HC1.out.1 i HI.out.1 c5
          obtain ⟨ad2, e2, hx2⟩ := Kd.at_int HC2.out.1 i HI.out.1 c5
          subst e1
          subst e2
          replace hx1 := (HB.out.cell (World.block_lt_of_cell? w _ hx1)).trans hx1
          replace hx2 := (HB.out.cell (World.block_lt_of_cell? w _ hx2)).trans hx2
          have hxb : 0 ≤ rd ats i ∧ rd ats i < 65536 := HC1.out.2.2 _ (by
            have hi : i.toNat < ats.length := by have := HI.out.1; have := HC1.out.2.1; omega
            rw [rd, List.getD_eq_getElem?_getD, List.getElem?_eq_getElem hi]
            exact List.getElem_mem hi)
          obtain ⟨x, hx⟩ : ∃ x, x = rd ats i := ⟨_, rfl⟩
          obtain ⟨y, hy⟩ : ∃ y, y = rd bys i := ⟨_, rfl⟩
          rw [← hx] at hx1 hxb
          rw [← hy] at hx2
          obtain ⟨m, hm, hm2⟩ : ∃ m : Nat, Int.tmod x 512 = (m : Int) ∧ m < 512 := ⟨(x % 512).toNat, by rw [Int.tmod_eq_emod_of_nonneg hxb.1]; omega, by omega⟩
          have wx : wrap64 x = x := w64_in x (by omega)
          have hz := (Kd.R_cell (0 : Int) (HY.out.2 ▸ HO.out) (m : Int) (by omega) (by have := HY.out.2; omega))
          rw [Int.toNat_natCast] at hz
          obtain ⟨hz1, hz2⟩ := hz
          obtain ⟨z, hzz⟩ : ∃ z, z = rdOf (0 : Int) ys (m : Int) := ⟨_, rfl⟩
          rw [← hzz] at hz1
          have ea : Addr.add ⟨g, 0, none⟩ m = ⟨g, m, none⟩ := Dsk.add0 _ _
          have p9 : (0 ≤ i) = True := eq_true HI.out.1
          have q9 : (i < (n : Int)) = True := eq_true c5
          have p8 : (0 ≤ (m : Int)) = True := eq_true (by omega)
          have q8 : ((m : Int) < 512) = True := eq_true (by omega)
          have q8b : (m < 512) = True := eq_true hm2
          have HC5 := Aside0.mk c5
          have HM := Aside0.mk hm2
          clear c5 hx hy hxb hzz hm2
          go_upto_region 19 with fail
          go_region
          go_wp2
          go_roundg (gk - 1)
          case measure => have h1 := HI.out; have h2 := HC5.out; omega
          case rel =>
            have h1 := HI.out
            have h2 := HC5.out
            have h3 := HN.out.1
            exact ⟨i + 1, ys.set m (Go.bits .xor .u8 z y), by rw [w64_in (i + 1) (by omega)], ⟨by omega⟩, ⟨by_set HY.out.1 m (xor_byte z y), by rw [List.length_set]; exact HY.out.2⟩, ⟨Kd.R_drew (HY.out.2 ▸ (Kd.R_put (HY.out.2 ▸ HO.out) (m : Int) (Go.bits .xor .u8 z y)).1)⟩, ⟨below_drew1 (below_set HB.out HG.out)⟩⟩
        · have c5b : decide (i < (n : Int)) = false := decide_eq_false c5
          clear c5 HI
          go_upto_if 96 with fail
          go_cut [11] (fun s11 wc => ∃ zs : List Int, s11 = .slice (some ⟨g, 0, none⟩) 512 cap ∧ Aside0 (By zs ∧ zs.length = 512) ∧ Aside0 (Kd.R (Kd.int .u8) 5 wc w.heap.size (fun _ => True) (.slice (some ⟨g, 0, none⟩) 512 cap) zs) ∧ Aside0 (Below w.heap.size w wc))
          case first =>
            by_cases c6 : Int.tmod ct 3 = 0
            · have c6b : (Int.tmod ct 3 == 0) = true := beq_iff_eq.mpr c6
              have hz := (Kd.R_cell (0 : Int) (HY.out.2 ▸ HO.out) (3 : Int) (by omega) (by have := HY.out.2; omega))
              obtain ⟨hz1, hz2⟩ := hz
              obtain ⟨z, hzz⟩ : ∃ z, z = rdOf (0 : Int) ys (3 : Int) := ⟨_, rfl⟩
              rw [← hzz] at hz1
              rw [show (3 : Int).toNat = 3 from rfl] at hz1 hz2
              have ea : Addr.add ⟨g, 0, none⟩ 3 = ⟨g, 3, none⟩ := Dsk.add0 _ _
              clear c6 hzz
              go_wp2
              go_meet
              refine ⟨ys.set 3 _, rfl, ⟨by_set HY.out.1 3 (xor_byte z _), by rw [List.length_set]; exact HY.out.2⟩, ⟨(HY.out.2 ▸ (Kd.R_put (HY.out.2 ▸ HO.out) (3 : Int) _).1)⟩, ⟨below_set HB.out HG.out⟩⟩
            · have c6b : (Int.tmod ct 3 == 0) = false := beq_eq_false_iff_ne.mpr c6
              clear c6
              go_wp2
              go_meet
              exact ⟨ys, rfl, HY, HO, HB⟩
          case rest =>
            clear HO HB HY
            obtain ⟨zs, rfl, HY, HO, HB⟩ := hcut
            go_step
            go_step
            go_cut [11] (fun s11 wc => ∃ (A : Option Addr) (c : Nat) (zs : List Int), s11 = .slice A zs.length c ∧ Aside0 (zs.length ≤ c) ∧ Aside0 (Kd.C (Kd.int .u8) wc A zs.length zs) ∧ Aside0 (By zs) ∧ Aside0 (Below w.heap.size w wc))
            case first =>
              have hcap : 512 ≤ cap := by
                have h := (Kd.R_reads' HO.out).2.1
                exact h
              have hCz : Kd.C (Kd.int .u8) wc (some ⟨g, 0, none⟩) zs.length zs := (Kd.R_reads' HO.out).2.2
              have HK := Aside0.mk (And.intro hcap hCz)
              clear hcap hCz
              by_cases s1 : 0 ≤ sz
              · have s1b : decide (0 ≤ sz) = true := decide_eq_true s1
                by_cases s2 : sz < 600
                · have s2b : decide (sz < 600) = true := decide_eq_true s2
                  obtain ⟨m, rfl⟩ := Int.eq_ofNat_of_zero_le s1
                  have HM := Aside0.mk (show m ≤ 600 by omega)
                  clear s1 s2
                  go_wp2_with ((with_reducible refine gate_builtin (b := .append) (xs := #[.tmp 111, (.const (.int .i64 88))]) rfl ?_); at_builtin; refine Kd.R_append_zeros (Kd.int .u8) (w0 := w) w.heap.size rfl (.tmp 111) (.const (.int .i64 88)) 26 3 5 (.int .u8 0) 1 rfl Try.underlying26 Try.underlying3 info5 rfl (by decide) (by omega) (.slice (some ⟨g, 0, none⟩) 512 cap) zs 0 (88 : Int) (fun _ => True) rfl rfl rfl ?aF ?aO (by omega) ?aB ?aS ?aL ?_; (case aO => exact HO.out); (case aF => exact fun _ _ => trivial); (case aB => exact HB.out); (case aS => exact HB.out.size); (case aL => have := HY.out.2; omega); intro v8 w8 ho hb hg_ hat; have HB8 := Aside0.mk hb; obtain ⟨A8, c8, e8⟩ := Kd.R_slice ho; have hM8 := Kd.R_reads' (e8 ▸ ho); have hl8 : (zs ++ List.replicate (Int.toNat 88) 0).length = 600 := (by rw [List.length_append, HY.out.2]; rfl); rw [hl8] at e8 hM8; subst e8; have hcut8 := cutM A8 c8 (zs ++ List.replicate (Int.toNat 88) 0) hl8 hM8.2.1 m HM.out; have HC8 := Aside0.mk (cutC w8 A8 (zs ++ List.replicate (Int.toNat 88) 0) hl8 hM8.2.2 m HM.out); have HL8 := Aside0.mk hM8.2.1; clear ho hb hg_ hat hM8 hl8)
                  go_meet
                  have hl9 : ((zs ++ List.replicate (Int.toNat 88) 0).take m).length = m := by rw [List.length_take, List.length_append, HY.out.2]; have := HM.out; simp; omega
                  exact ⟨A8, c8, (zs ++ List.replicate (Int.toNat 88) 0).take m, by rw [hl9], ⟨by rw [hl9]; exact Nat.le_trans HM.out HL8.out⟩, ⟨by rw [hl9]; exact HC8.out⟩, ⟨(HY.out.1.append (By.zeros _)).take m⟩, HB8⟩
                · have s2b : decide (sz < 600) = false := decide_eq_false s2
                  clear s1 s2
                  go_wp2
                  go_meet
                  exact ⟨some ⟨g, 0, none⟩, cap, zs, by rw [HY.out.2], ⟨by rw [HY.out.2]; exact HK.out.1⟩, ⟨HK.out.2⟩, ⟨HY.out.1⟩, HB⟩
              · have s1b : decide (0 ≤ sz) = false := decide_eq_false s1
                clear s1
                go_wp2
                go_meet
                exact ⟨some ⟨g, 0, none⟩, cap, zs, by rw [HY.out.2], ⟨by rw [HY.out.2]; exact HK.out.1⟩, ⟨HK.out.2⟩, ⟨HY.out.1⟩, HB⟩
            case rest =>
              clear HB HO HY
              obtain ⟨A, c, zs, rfl, HLc, HC, HZ, HB⟩ := hcut
              have hcv := Kd.C_string (P := Try.prog) (c := c) Try.underlying26 Try.underlying5 Try.underlying9 HC.out
              rcases both zs HZ.out with ⟨nx, rs, hok, e⟩ | ⟨hp, hr⟩
              · have HF := Aside0.mk (facts hok e)
                clear hok e
                go_upto_region 26 with (go_at_call 56; (with_reducible refine (rowlockref08_Read.calls 4000 (strOfNums zs) nx (txt rs) true _ HF.out.1).mono ?_); rintro en w3 ⟨v1, rfl, ho, hb⟩; obtain ⟨A9, c9, e9⟩ := Kd.R_slice ho; subst e9; have HT := Aside0.mk (Kd.R_reads' ho).2.2; have HL9 := Aside0.mk (Kd.R_reads' ho).2.1; have n0_ := Aside0.mk (Kd.C_below HC.out hb); have n1_ := Aside0.mk (below_then HB.out HB.out.size hb); clear HC HB ho hb; have HC := n0_; have HB := n1_; clear n0_ n1_)
                have HX := Aside0.mk (blk_new w3 (.cells #[.int .u32 nx, .slice A9 (txt rs).length c9] 89))
                have n0_ := Aside0.mk (Kd.C_alloc HC.out (.cells #[.int .u32 nx, .slice A9 (txt rs).length c9] 89))
                have n1_ := Aside0.mk (Kd.C_alloc HT.out (.cells #[.int .u32 nx, .slice A9 (txt rs).length c9] 89))
                have n2_ := Aside0.mk (below_alloc HB.out (.cells #[.int .u32 nx, .slice A9 (txt rs).length c9] 89))
                clear HC HT HB
                have HC := n0_
                have HT := n1_
                have HB := n2_
                clear n0_ n1_ n2_ hcv
                generalize hw4 : w3.alloc (.cells #[.int .u32 nx, .slice A9 (txt rs).length c9] 89) = w4 at HX HC HT HB ⊢
                generalize hgx : w3.heap.size = gx at HX ⊢
                clear hw4 hgx
                have htl : (txt rs).length = rs.length := txt_len rs
                have htl2 : ((rs.length : Int) == ((txt rs).length : Int)) = true := by rw [htl]; exact beq_self_eq_true _
                have htl3 : ((room rs : Int) == (room rs : Int)) = true := beq_self_eq_true _
                clear htl
                go_wp2_with (go_at_call 57; (with_reducible refine (slots_May.calls 4000 A c zs true _ (by repeat (first | exact HC.out | (with_reducible refine Kd.C_alloc ?_ _) | (with_reducible refine Kd.C_drewN ?_ _) | (with_reducible refine Kd.C_drew ?_))) HLc.out HF.out.2.1).mono ?_); rintro en wn ⟨rfl, hb⟩; have n0_ := Aside0.mk (Kd.C_below (by repeat (first | exact HC.out | (with_reducible refine Kd.C_alloc ?_ _) | (with_reducible refine Kd.C_drewN ?_ _) | (with_reducible refine Kd.C_drew ?_))) hb); have n1_ := Aside0.mk (below_step (by repeat (first | (with_reducible first | exact HB.out | apply below_alloc | apply pw_below_drewN | apply below_drew1) | exact HB.out)) hb); have n2_ := Aside0.mk (Kd.C_below (by repeat (first | exact HT.out | (with_reducible refine Kd.C_alloc ?_ _) | (with_reducible refine Kd.C_drewN ?_ _) | (with_reducible refine Kd.C_drew ?_))) hb); have n3_ := Aside0.mk (blk_below (by (with_reducible repeat (first | refine blk_drewN ?_ _ | refine blk_drew ?_ | refine blk_alloc ?_ _)); exact HX.out) hb); clear HC HB HT HX hb; have HC := n0_; have HB := n1_; clear n0_ n1_; have HT := n2_; clear n2_; have HX := n3_; clear n3_; have hy0 := (blk_cell HX.out 0).trans rfl; have hy1 := (blk_cell HX.out 1).trans rfl)
                go_region_with (first
                  | (go_at_call 47; (with_reducible refine (fixed_ok _).mono ?_); rintro en wn ⟨rfl, hb⟩; have n0_ := Aside0.mk (Kd.C_below (by repeat (first | exact HC.out | (with_reducible refine Kd.C_alloc ?_ _) | (with_reducible refine Kd.C_drewN ?_ _) | (with_reducible refine Kd.C_drew ?_))) hb); have n1_ := Aside0.mk (below_step (by repeat (first | (with_reducible first | exact HB.out | apply below_alloc | apply pw_below_drewN | apply below_drew1) | exact HB.out)) hb); have n2_ := Aside0.mk (Kd.C_below (by repeat (first | exact HT.out | (with_reducible refine Kd.C_alloc ?_ _) | (with_reducible refine Kd.C_drewN ?_ _) | (with_reducible refine Kd.C_drew ?_))) hb); have n3_ := Aside0.mk (blk_below (by (with_reducible repeat (first | refine blk_drewN ?_ _ | refine blk_drew ?_ | refine blk_alloc ?_ _)); exact HX.out) hb); clear HC HB HT HX hb; have HC := n0_; have HB := n1_; clear n0_ n1_; have HT := n2_; clear n2_; have HX := n3_; clear n3_; have hy0 := (blk_cell HX.out 0).trans rfl; have hy1 := (blk_cell HX.out 1).trans rfl)
                  | (go_at_call 52; (with_reducible refine (slots_Count.calls 4000 A c zs (rs.length : Int) _ (by repeat (first | exact HC.out | (with_reducible refine Kd.C_alloc ?_ _) | (with_reducible refine Kd.C_drewN ?_ _) | (with_reducible refine Kd.C_drew ?_))) HLc.out HF.out.2.2.1).mono ?_); rintro en wn ⟨rfl, hb⟩; have n0_ := Aside0.mk (Kd.C_below (by repeat (first | exact HC.out | (with_reducible refine Kd.C_alloc ?_ _) | (with_reducible refine Kd.C_drewN ?_ _) | (with_reducible refine Kd.C_drew ?_))) hb); have n1_ := Aside0.mk (below_step (by repeat (first | (with_reducible first | exact HB.out | apply below_alloc | apply pw_below_drewN | apply below_drew1) | exact HB.out)) hb); have n2_ := Aside0.mk (Kd.C_below (by repeat (first | exact HT.out | (with_reducible refine Kd.C_alloc ?_ _) | (with_reducible refine Kd.C_drewN ?_ _) | (with_reducible refine Kd.C_drew ?_))) hb); have n3_ := Aside0.mk (blk_below (by (with_reducible repeat (first | refine blk_drewN ?_ _ | refine blk_drew ?_ | refine blk_alloc ?_ _)); exact HX.out) hb); clear HC HB HT HX hb; have HC := n0_; have HB := n1_; clear n0_ n1_; have HT := n2_; clear n2_; have HX := n3_; clear n3_; have hy0 := (blk_cell HX.out 0).trans rfl; have hy1 := (blk_cell HX.out 1).trans rfl)
                  | (go_at_call 53; (with_reducible refine (slots_Room.calls 4000 A c zs (room rs : Int) _ (by repeat (first | exact HC.out | (with_reducible refine Kd.C_alloc ?_ _) | (with_reducible refine Kd.C_drewN ?_ _) | (with_reducible refine Kd.C_drew ?_))) HLc.out HF.out.2.2.2.1).mono ?_); rintro en wn ⟨rfl, hb⟩; have n0_ := Aside0.mk (Kd.C_below (by repeat (first | exact HC.out | (with_reducible refine Kd.C_alloc ?_ _) | (with_reducible refine Kd.C_drewN ?_ _) | (with_reducible refine Kd.C_drew ?_))) hb); have n1_ := Aside0.mk (below_step (by repeat (first | (with_reducible first | exact HB.out | apply below_alloc | apply pw_below_drewN | apply below_drew1) | exact HB.out)) hb); have n2_ := Aside0.mk (Kd.C_below (by repeat (first | exact HT.out | (with_reducible refine Kd.C_alloc ?_ _) | (with_reducible refine Kd.C_drewN ?_ _) | (with_reducible refine Kd.C_drew ?_))) hb); have n3_ := Aside0.mk (blk_below (by (with_reducible repeat (first | refine blk_drewN ?_ _ | refine blk_drew ?_ | refine blk_alloc ?_ _)); exact HX.out) hb); clear HC HB HT HX hb; have HC := n0_; have HB := n1_; clear n0_ n1_; have HT := n2_; clear n2_; have HX := n3_; clear n3_; have hy0 := (blk_cell HX.out 0).trans rfl; have hy1 := (blk_cell HX.out 1).trans rfl)
                  | (go_at_call 50; (with_reducible refine (rowlockref08_Page_Room.calls 4000 nx A9 c9 (txt rs) (room rs : Int) _ (by repeat (first | exact HT.out | (with_reducible refine Kd.C_alloc ?_ _) | (with_reducible refine Kd.C_drewN ?_ _) | (with_reducible refine Kd.C_drew ?_))) HL9.out HF.out.2.2.2.2.1).mono ?_); rintro en wn ⟨rfl, hb⟩; have n0_ := Aside0.mk (Kd.C_below (by repeat (first | exact HC.out | (with_reducible refine Kd.C_alloc ?_ _) | (with_reducible refine Kd.C_drewN ?_ _) | (with_reducible refine Kd.C_drew ?_))) hb); have n1_ := Aside0.mk (below_step (by repeat (first | (with_reducible first | exact HB.out | apply below_alloc | apply pw_below_drewN | apply below_drew1) | exact HB.out)) hb); have n2_ := Aside0.mk (Kd.C_below (by repeat (first | exact HT.out | (with_reducible refine Kd.C_alloc ?_ _) | (with_reducible refine Kd.C_drewN ?_ _) | (with_reducible refine Kd.C_drew ?_))) hb); have n3_ := Aside0.mk (blk_below (by (with_reducible repeat (first | refine blk_drewN ?_ _ | refine blk_drew ?_ | refine blk_alloc ?_ _)); exact HX.out) hb); clear HC HB HT HX hb; have HC := n0_; have HB := n1_; clear n0_ n1_; have HT := n2_; clear n2_; have HX := n3_; clear n3_; have hy0 := (blk_cell HX.out 0).trans rfl; have hy1 := (blk_cell HX.out 1).trans rfl)
                  | (go_at_call 55; (with_reducible refine (rowlocklaw08_same.calls 4000 A c zs nx A9 c9 (txt rs) true _ (by repeat (first | exact HC.out | (with_reducible refine Kd.C_alloc ?_ _) | (with_reducible refine Kd.C_drewN ?_ _) | (with_reducible refine Kd.C_drew ?_))) HLc.out (by repeat (first | exact HT.out | (with_reducible refine Kd.C_alloc ?_ _) | (with_reducible refine Kd.C_drewN ?_ _) | (with_reducible refine Kd.C_drew ?_))) HL9.out HF.out.2.2.2.2.2).mono ?_); rintro en wn ⟨rfl, hb⟩; have n0_ := Aside0.mk (Kd.C_below (by repeat (first | exact HC.out | (with_reducible refine Kd.C_alloc ?_ _) | (with_reducible refine Kd.C_drewN ?_ _) | (with_reducible refine Kd.C_drew ?_))) hb); have n1_ := Aside0.mk (below_step (by repeat (first | (with_reducible first | exact HB.out | apply below_alloc | apply pw_below_drewN | apply below_drew1) | exact HB.out)) hb); have n2_ := Aside0.mk (Kd.C_below (by repeat (first | exact HT.out | (with_reducible refine Kd.C_alloc ?_ _) | (with_reducible refine Kd.C_drewN ?_ _) | (with_reducible refine Kd.C_drew ?_))) hb); have n3_ := Aside0.mk (blk_below (by (with_reducible repeat (first | refine blk_drewN ?_ _ | refine blk_drew ?_ | refine blk_alloc ?_ _)); exact HX.out) hb); clear HC HB HT HX hb; have HC := n0_; have HB := n1_; clear n0_ n1_; have HT := n2_; clear n2_; have HX := n3_; clear n3_; have hy0 := (blk_cell HX.out 0).trans rfl; have hy1 := (blk_cell HX.out 1).trans rfl))
                all_goals
                  go_wp2
                  go_ret
                  exact ⟨rfl, (by repeat (first | (with_reducible first | exact HB.out | apply below_alloc | apply pw_below_drewN | apply below_drew1) | exact HB.out))⟩
              · obtain ⟨x1, y1, hp⟩ := hp 3000
                obtain ⟨x2, y2, hr⟩ := hr 2000
                have HF := Aside0.mk (factsN hp)
                have HR := Aside0.mk hr
                clear hp hr
                go_upto_region 26 with (go_at_call 56; (with_reducible refine (rowlockref08_Read.calls 4000 (strOfNums zs) x2 y2 false _ HR.out).mono ?_); rintro en w3 ⟨v1, rfl, ho, hb⟩; obtain ⟨A9, c9, e9⟩ := Kd.R_slice ho; subst e9; have n0_ := Aside0.mk (Kd.C_below HC.out hb); have n1_ := Aside0.mk (below_then HB.out HB.out.size hb); clear HC HB ho hb; have HC := n0_; have HB := n1_; clear n0_ n1_)
                have n0_ := Aside0.mk (Kd.C_alloc HC.out (.cells #[.int .u32 x2, .slice A9 y2.length c9] 89))
                have n2_ := Aside0.mk (below_alloc HB.out (.cells #[.int .u32 x2, .slice A9 y2.length c9] 89))
                clear HC HB
                have HC := n0_
                have HB := n2_
                clear n0_ n2_ hcv
                generalize hw4 : w3.alloc (.cells #[.int .u32 x2, .slice A9 y2.length c9] 89) = w4 at HC HB ⊢
                clear hw4
                go_wp2_with (first
                  | (go_at_call 57; (with_reducible refine (slots_May.calls 4000 A c zs false _ (by repeat (first | exact HC.out | (with_reducible refine Kd.C_alloc ?_ _) | (with_reducible refine Kd.C_drewN ?_ _) | (with_reducible refine Kd.C_drew ?_))) HLc.out HF.out.1).mono ?_); rintro en wn ⟨rfl, hb⟩; have n0_ := Aside0.mk (Kd.C_below (by repeat (first | exact HC.out | (with_reducible refine Kd.C_alloc ?_ _) | (with_reducible refine Kd.C_drewN ?_ _) | (with_reducible refine Kd.C_drew ?_))) hb); have n1_ := Aside0.mk (below_step (by repeat (first | (with_reducible first | exact HB.out | apply below_alloc | apply pw_below_drewN | apply below_drew1) | exact HB.out)) hb); clear HC HB hb; have HC := n0_; have HB := n1_; clear n0_ n1_)
                  | ((with_reducible refine gate_dst (N := 149) rfl ?_); refine Kd.R_lit (Kd.int .u8) _ 5 ?hg (N := 149) ?hd (xs := ([1] : List Int)) (inner := [.int .u8 1]) (ok := fun _ => True) (okp := fun _ => True) ?hr ?hp (fun _ hk => hk) trivial (Below.refl _ _) (Nat.le_refl _) (by simp) ?_; (case hd => rfl); (case hg => rfl); (case hr => first | (go_simp; done) | (go_simp; rfl)); (case hp => exact (Reps.one (show Kd.M (Kd.int .u8) _ _ _ 1 [.int .u8 1] from rfl) (Reps.none _ _))); intro v5 w5 ho hb hg_ hnew_; obtain ⟨A5, c5, e5⟩ := Kd.R_slice ho; have hR5 := Kd.R_reads' (e5 ▸ ho); rw [show ([1] : List Int).length = 1 from rfl] at e5; subst e5; have HL1 := Aside0.mk hR5.2.1; have HT := Aside0.mk hR5.2.2; have n0_ := Aside0.mk (Kd.C_below (by repeat (first | exact HC.out | (with_reducible refine Kd.C_alloc ?_ _) | (with_reducible refine Kd.C_drewN ?_ _) | (with_reducible refine Kd.C_drew ?_))) hb); have n1_ := Aside0.mk (below_step (by repeat (first | (with_reducible first | exact HB.out | apply below_alloc | apply pw_below_drewN | apply below_drew1) | exact HB.out)) hb); clear HC HB ho hb hg_ hnew_ hR5; have HC := n0_; have HB := n1_; clear n0_ n1_)
                  | (go_at_call 49; (with_reducible refine (add_one A c zs A5 c5 [] 0 2 _ (by repeat (first | exact HC.out | (with_reducible refine Kd.C_alloc ?_ _) | (with_reducible refine Kd.C_drewN ?_ _) | (with_reducible refine Kd.C_drew ?_))) HLc.out (by repeat (first | exact HT.out | (with_reducible refine Kd.C_alloc ?_ _) | (with_reducible refine Kd.C_drewN ?_ _) | (with_reducible refine Kd.C_drew ?_))) HL1.out 4000 HF.out.2.1).mono ?_); rintro en wn ⟨v6, rfl, _, hb⟩; have n0_ := Aside0.mk (Kd.C_below (by repeat (first | exact HC.out | (with_reducible refine Kd.C_alloc ?_ _) | (with_reducible refine Kd.C_drewN ?_ _) | (with_reducible refine Kd.C_drew ?_))) hb); have n1_ := Aside0.mk (below_step (by repeat (first | (with_reducible first | exact HB.out | apply below_alloc | apply pw_below_drewN | apply below_drew1) | exact HB.out)) hb); clear HC HB hb; have HC := n0_; have HB := n1_; clear n0_ n1_)
                  | (go_at_call 58; (with_reducible refine (slots_Get.calls 4000 A c zs 0 [] 2 _ (by repeat (first | exact HC.out | (with_reducible refine Kd.C_alloc ?_ _) | (with_reducible refine Kd.C_drewN ?_ _) | (with_reducible refine Kd.C_drew ?_))) HLc.out HF.out.2.2.1).mono ?_); rintro en wn ⟨v7, rfl, _, hb⟩; have n0_ := Aside0.mk (Kd.C_below (by repeat (first | exact HC.out | (with_reducible refine Kd.C_alloc ?_ _) | (with_reducible refine Kd.C_drewN ?_ _) | (with_reducible refine Kd.C_drew ?_))) hb); have n1_ := Aside0.mk (below_step (by repeat (first | (with_reducible first | exact HB.out | apply below_alloc | apply pw_below_drewN | apply below_drew1) | exact HB.out)) hb); clear HC HB hb; have HC := n0_; have HB := n1_; clear n0_ n1_)
                  | (go_at_call 59; (with_reducible refine (slots_All.calls 4000 A c zs [] 2 _ (by repeat (first | exact HC.out | (with_reducible refine Kd.C_alloc ?_ _) | (with_reducible refine Kd.C_drewN ?_ _) | (with_reducible refine Kd.C_drew ?_))) HLc.out HF.out.2.2.2.1).mono ?_); rintro en wn ⟨v8, rfl, _, hb⟩; have n0_ := Aside0.mk (Kd.C_below (by repeat (first | exact HC.out | (with_reducible refine Kd.C_alloc ?_ _) | (with_reducible refine Kd.C_drewN ?_ _) | (with_reducible refine Kd.C_drew ?_))) hb); have n1_ := Aside0.mk (below_step (by repeat (first | (with_reducible first | exact HB.out | apply below_alloc | apply pw_below_drewN | apply below_drew1) | exact HB.out)) hb); clear HC HB hb; have HC := n0_; have HB := n1_; clear n0_ n1_)
                  | (go_at_call 54; (with_reducible refine (slots_Link.calls 4000 A c zs 1 [] 2 _ (by repeat (first | exact HC.out | (with_reducible refine Kd.C_alloc ?_ _) | (with_reducible refine Kd.C_drewN ?_ _) | (with_reducible refine Kd.C_drew ?_))) HLc.out HF.out.2.2.2.2.1).mono ?_); rintro en wn ⟨v9, rfl, _, hb⟩; have n0_ := Aside0.mk (Kd.C_below (by repeat (first | exact HC.out | (with_reducible refine Kd.C_alloc ?_ _) | (with_reducible refine Kd.C_drewN ?_ _) | (with_reducible refine Kd.C_drew ?_))) hb); have n1_ := Aside0.mk (below_step (by repeat (first | (with_reducible first | exact HB.out | apply below_alloc | apply pw_below_drewN | apply below_drew1) | exact HB.out)) hb); clear HC HB hb; have HC := n0_; have HB := n1_; clear n0_ n1_)
                  | (go_at_call 47; (with_reducible refine (fixed_ok _).mono ?_); rintro en wn ⟨rfl, hb⟩; have n0_ := Aside0.mk (Kd.C_below (by repeat (first | exact HC.out | (with_reducible refine Kd.C_alloc ?_ _) | (with_reducible refine Kd.C_drewN ?_ _) | (with_reducible refine Kd.C_drew ?_))) hb); have n1_ := Aside0.mk (below_step (by repeat (first | (with_reducible first | exact HB.out | apply below_alloc | apply pw_below_drewN | apply below_drew1) | exact HB.out)) hb); clear HC HB hb; have HC := n0_; have HB := n1_; clear n0_ n1_)
                  | (go_at_call 52; (with_reducible refine (slots_Count.calls 4000 A c zs 0 _ (by repeat (first | exact HC.out | (with_reducible refine Kd.C_alloc ?_ _) | (with_reducible refine Kd.C_drewN ?_ _) | (with_reducible refine Kd.C_drew ?_))) HLc.out HF.out.2.2.2.2.2.1).mono ?_); rintro en wn ⟨rfl, hb⟩; have n0_ := Aside0.mk (Kd.C_below (by repeat (first | exact HC.out | (with_reducible refine Kd.C_alloc ?_ _) | (with_reducible refine Kd.C_drewN ?_ _) | (with_reducible refine Kd.C_drew ?_))) hb); have n1_ := Aside0.mk (below_step (by repeat (first | (with_reducible first | exact HB.out | apply below_alloc | apply pw_below_drewN | apply below_drew1) | exact HB.out)) hb); clear HC HB hb; have HC := n0_; have HB := n1_; clear n0_ n1_)
                  | (go_at_call 53; (with_reducible refine (slots_Room.calls 4000 A c zs 0 _ (by repeat (first | exact HC.out | (with_reducible refine Kd.C_alloc ?_ _) | (with_reducible refine Kd.C_drewN ?_ _) | (with_reducible refine Kd.C_drew ?_))) HLc.out HF.out.2.2.2.2.2.2).mono ?_); rintro en wn ⟨rfl, hb⟩; have n0_ := Aside0.mk (Kd.C_below (by repeat (first | exact HC.out | (with_reducible refine Kd.C_alloc ?_ _) | (with_reducible refine Kd.C_drewN ?_ _) | (with_reducible refine Kd.C_drew ?_))) hb); have n1_ := Aside0.mk (below_step (by repeat (first | (with_reducible first | exact HB.out | apply below_alloc | apply pw_below_drewN | apply below_drew1) | exact HB.out)) hb); clear HC HB hb; have HC := n0_; have HB := n1_; clear n0_ n1_))
                go_ret
                exact ⟨rfl, (by repeat (first | (with_reducible first | exact HB.out | apply below_alloc | apply pw_below_drewN | apply below_drew1) | exact HB.out))⟩
theorem by_wf {l : List Int} (h : ∀ x ∈ l, (Lit.int .u8 x).wf = true) : By l := fun x hx => by
  have := h x hx
  simp [Lit.wf, IntKind.min, IntKind.max, IntKind.signed, IntKind.bits] at this
  omega
theorem SlotsMay_ok (A0 : Option Addr) (c0 : Nat) (l : List (List Int)) (A1 : Option Addr) (c1 : Nat) (ats : List Int) (A2 : Option Addr) (c2 : Nat) (bys : List Int) (ct sz : Int) (w : World)
    (hC0 : Kd.C (Kd.slice 5 (Kd.int .u8)) w A0 l.length l) (hC1 : Kd.C (Kd.int .u16) w A1 ats.length ats) (hC2 : Kd.C (Kd.int .u8) w A2 bys.length bys) (h0 : ∀ r ∈ l, r.length ≤ maxLen ∧ ∀ x ∈ r, (Lit.int .u8 x).wf = true) (h1 : ∀ x ∈ ats, (Lit.int .u16 x).wf = true) (h2 : ∀ x ∈ bys, (Lit.int .u8 x).wf = true) (h3 : (Lit.int .u16 ct).wf = true) :
    Calls Try.prog 14 #[.slice A0 l.length c0, .slice A1 ats.length c1, .slice A2 bys.length c2, .int .u16 ct, .int .i64 sz] w fun e w' => e = .returned (.bool true) ∧ Below w.heap.size w w' := by
  by_cases h : 60 < l.length ∨ 20 < ats.length ∨ ats.length ≠ bys.length
  · exact SlotsMay_big A0 l.length c0 A1 ats.length c1 A2 bys.length c2 ct sz w h
  · simp [Lit.wf, IntKind.min, IntKind.max, IntKind.signed, IntKind.bits] at h3
    have he : bys.length = ats.length := by omega
    rw [he] at hC2 ⊢
    exact SlotsMay_walk A0 c0 l A1 c1 ats A2 c2 bys ats.length ct sz w hC0 (by omega) (fun r hr => by_wf (h0 r hr).2) hC1 hC2 (by omega) rfl he (fun x hx => by
      have := h1 x hx
      simp [Lit.wf, IntKind.min, IntKind.max, IntKind.signed, IntKind.bits] at this
      omega) (by_wf h2) (by omega)
end Go.Proofs.Ytolgcohmmghehaa.MayW
