/- Law 09, HeapRaw, walked: the law. Conditions: bytes and numbers of their kinds. -/
import Derived.Test.YtpfegfkniilobaaHpZ
import Derived.Deep.QuietTactic
import Derived.BigQuiet
namespace Go.Proofs.Ytpfegfkniilobaa.Hp
open Go.RowKit Go.Proofs.YtpfegfkniilobaaW.PrintWords Go.Proofs.YtpfegfkniilobaaW.PrintLast Go.Proofs.YtpfegfkniilobaaW.PrintMore Go.Proofs.Ytpfegfkniilobaa.Byt Go.Proofs.Ytpfegfkniilobaa.Dsk Go.Proofs.Ytpfegfkniilobaa.XHeap
open Go.Proofs.Ytpfegfkniilobaa.PureSl (room Ok txt)
set_option linter.unusedVariables false
set_option linter.unusedSimpArgs false
set_option maxRecDepth 100000
theorem ba_eq (a : ByteArray) : (a == a) = true := by
  show a.beq a = true
  cases a
  simp [ByteArray.beq]
theorem ba_ne (a : ByteArray) : (a != a) = false := by rw [bne, ba_eq]; rfl
theorem way_len {d : List Int} {t : List Bool} {m : Nat} {p : Int} {n : Nat} {its : List S66} {k e : Int} {o : List S66} (h : Way d t m p n its k e o) : o.length ≤ its.length + 200 * m := by
  induction h with
  | over p n its => omega
  | err h he => omega
  | last h =>
    cases h with
    | good nx rs hin h hb => have := h.count; rw [List.length_append, items_len]; omega
  | more h hn hw ih =>
    cases h with
    | good nx rs hin h hb => have := h.count; rw [List.length_append, items_len] at ih; omega
theorem raw_fixed (A0 A1 : Option Addr) (c0 c1 m0 m1 : Nat) (p ap asl : Int) (w : World) (h : 5120 < m0 ∨ m0 < 512 ∨ 10 < m1) :
    Calls Try.prog 4 #[.slice A0 m0 c0, .slice A1 m1 c1, .int .u32 p, .agg #[.int .u32 ap, .int .u16 asl]] w fun e w' => e = .returned (.bool true) ∧ Below w.heap.size w w' := by
  have HB0 := Aside0.mk (below_alloc (Below.refl w.heap.size w) (BX ap asl))
  by_cases g1 : 5120 < m0
  · have b1 : decide (5120 < (m0 : Int)) = true := decide_eq_true (by omega)
    have b1' : decide (5120 < m0) = true := decide_eq_true g1
    clear g1 h
    go_enter Try.func4, Try.ntmps4
    go_wp2_with (first | (go_at_call 11; (with_reducible refine (fixed_ok _).mono ?_); rintro en w9 ⟨rfl, hb_⟩; have HB9 := Aside0.mk (below_then HB0.out HB0.out.size hb_); clear hb_))
    go_ret
    exact ⟨rfl, HB9.out⟩
  · have b1 : decide (5120 < (m0 : Int)) = false := decide_eq_false (by omega)
    have b1' : decide (5120 < m0) = false := decide_eq_false g1
    by_cases g2 : m0 < 512
    · have b2 : decide ((m0 : Int) < 512) = true := decide_eq_true (by omega)
      have b2' : decide (m0 < 512) = true := decide_eq_true g2
      clear g1 g2 h
      go_enter Try.func4, Try.ntmps4
      go_wp2_with (first | (go_at_call 11; (with_reducible refine (fixed_ok _).mono ?_); rintro en w9 ⟨rfl, hb_⟩; have HB9 := Aside0.mk (below_then HB0.out HB0.out.size hb_); clear hb_))
      go_ret
      exact ⟨rfl, HB9.out⟩
    · have b2 : decide ((m0 : Int) < 512) = false := decide_eq_false (by omega)
      have b2' : decide (m0 < 512) = false := decide_eq_false g2
      have b3 : decide (10 < (m1 : Int)) = true := decide_eq_true (by omega)
      have b3' : decide (10 < m1) = true := decide_eq_true (by omega)
      clear g1 g2 h
      go_enter Try.func4, Try.ntmps4
      go_wp2_with (first | (go_at_call 11; (with_reducible refine (fixed_ok _).mono ?_); rintro en w9 ⟨rfl, hb_⟩; have HB9 := Aside0.mk (below_then HB0.out HB0.out.size hb_); clear hb_))
      go_ret
      exact ⟨rfl, HB9.out⟩
set_option maxHeartbeats 16000000 in
theorem raw_main (A0 A1 : Option Addr) (c0 c1 : Nat) (img lks : List Int) (p ap asl : Int) (w : World) (hC0 : Kd.C (Kd.int .u8) w A0 img.length img) (hc0 : img.length ≤ c0) (hC1 : Kd.C (Kd.int .u32) w A1 lks.length lks) (hc1 : lks.length ≤ c1) (hy : By img) (hlk : ∀ x ∈ lks, 0 ≤ x ∧ x < 4294967296) (hp : 0 ≤ p ∧ p < 4294967296) (ha : 0 ≤ ap ∧ ap < 4294967296) (hs : 0 ≤ asl ∧ asl < 65536) (q1 : ¬ 5120 < img.length) (q2 : ¬ img.length < 512) (q3 : ¬ 10 < lks.length) :
    Calls Try.prog 4 #[.slice A0 img.length c0, .slice A1 lks.length c1, .int .u32 p, .agg #[.int .u32 ap, .int .u16 asl]] w fun e w' => e = .returned (.bool true) ∧ Below w.heap.size w w' := by
  obtain ⟨n, hn⟩ : ∃ n, n = img.length / 512 := ⟨_, rfl⟩
  obtain ⟨N, hN⟩ : ∃ N, N = n * 512 := ⟨_, rfl⟩
  obtain ⟨xs, hxs⟩ : ∃ xs, xs = cut img := ⟨_, rfl⟩
  obtain ⟨bs, hbs⟩ : ∃ bs, bs = marks xs lks 0 := ⟨_, rfl⟩
  have hxl : xs.length = N := by rw [hxs, cut_len, ← hn, hN]
  have hxy : By xs := by rw [hxs]; exact cut_by hy
  have hbl : bs.length = N := by rw [hbs, marks_len, hxl]
  have hby : By bs := by rw [hbs]; exact marks_by _ _ _ hxy
  have hn1 : 1 ≤ n ∧ n ≤ 10 := by omega
  have hok : 1 ≤ N / 512 ∧ N / 512 ≤ 4096 ∧ N % 512 = 0 := by omega
  obtain ⟨t, ht⟩ : ∃ t, t = ld bs := ⟨_, rfl⟩
  have htl : t.length = n := by rw [ht, ld, List.length_map, List.length_range, hbl]; omega
  have hld : rowlockref06_Load.f 4100 (strOfNums bs) = some (pgs bs n, t, true) := by
    rw [refload_ok bs hby (by rw [hbl]; exact hok), ht, hbl, show N / 512 = n by omega]
  obtain ⟨k, e, o, hw⟩ := way_any bs t hby t.length p 1 []
  have hsw := scan_way hby (by omega) hw hp.1 hp.2 (by omega) (by simp)
  obtain ⟨O, hO⟩ : ∃ O, O = scanO e o := ⟨_, rfl⟩
  obtain ⟨kk, hkk⟩ : ∃ kk, kk = if e = 0 then k else 0 := ⟨_, rfl⟩
  rw [scanR_eq, ← hO, ← hkk, htl] at hsw
  obtain ⟨ks, hks⟩ := hsw
  have hsc : rowlockref09_Scan.f ks (pgs bs n) t p = some (O.map t68, kk, e) := hks ks (Nat.le_refl _)
  obtain ⟨r1, r2, hf, hry, hfc⟩ := fetch_both hby (by omega : t.length ≤ 4096) ap asl ha hs
  rw [htl] at hf
  obtain ⟨zs, hzs⟩ : ∃ zs, zs = List.replicate 512 (0 : Int) := ⟨_, rfl⟩
  have b1 : decide (5120 < (img.length : Int)) = false := decide_eq_false (by omega)
  have b1' : decide (5120 < img.length) = false := decide_eq_false q1
  have b2 : decide ((img.length : Int) < 512) = false := decide_eq_false (by omega)
  have b2' : decide (img.length < 512) = false := decide_eq_false q2
  have b3 : decide (10 < (lks.length : Int)) = false := decide_eq_false (by omega)
  have b3' : decide (10 < lks.length) = false := decide_eq_false q3
  have hwq : wrap64 ((img.length : Int) / 512) = (n : Int) ∧ wrap64 ((n : Int) * 512) = (N : Int) := ⟨by rw [wr_in _ (by omega)]; omega, by rw [wr_in _ (by omega)]; omega⟩
  have HWQ := Aside0.mk hwq
  clear hwq
  have hcut := fun W => cut_to8 W A0 c0 img.length N img rfl hc0 (by omega)
  have HZ0 := Aside0.mk (below_alloc (Below.refl w.heap.size w) (BX ap asl))
  have HX0 := Aside0.mk (blk_new w (BX ap asl))
  have HCX := Aside0.mk (show Kd.C (Kd.int .u8) w A0 N xs from by
    have h := Kd.C_take (m := N) hC0 (by omega)
    rw [show img.take N = xs by rw [hxs, cut, ← hn, hN], hxl] at h
    exact h)
  have HC1 := Aside0.mk hC1
  have HL := Aside0.mk (And.intro hn1 (And.intro hN (And.intro hxl (And.intro hbl hok))))
  have HY := Aside0.mk (And.intro hxy hby)
  have HLK := Aside0.mk hlk
  have HP := Aside0.mk (And.intro hp (And.intro ha hs))
  have HT := Aside0.mk (And.intro ht htl)
  have HBS := Aside0.mk hbs
  have HLD := Aside0.mk hld
  have HW := Aside0.mk hw
  have HO := Aside0.mk (And.intro hO hkk)
  have HSC := Aside0.mk hsc
  have HF := Aside0.mk (And.intro hf hry)
  have HFC := Aside0.mk hfc
  have HZS := Aside0.mk hzs
  have HN3 := Aside0.mk (show lks.length ≤ 10 by omega)
  clear hn hN hxs hbs hxl hxy hbl hby hn1 hok ht htl hld hw hO hkk hks hsc hf hry hfc hzs hC0 hc0 hC1 hc1 hy hlk hp ha hs q1 q2 q3
  have wq := HWQ.out.1
  have wm := HWQ.out.2
  go_enter Try.func4, Try.ntmps4
  go_wp2_with (first
    | ((with_reducible refine gate_dst (N := 43) rfl ?_); refine Kd.R_lit (Kd.int .u8) (w0 := w) w.heap.size 5 ?hg (N := 43) ?hd (xs := ([] : List Int)) (inner := []) (ok := fun _ => True) (okp := fun _ => True) ?hr ?hp (fun _ hk => hk) trivial HZ0.out HZ0.out.size (by simp) ?_; (case hd => rfl); (case hg => rfl); (case hr => first | (go_simp; done) | (go_simp; rfl)); (case hp => exact Reps.none _ _); intro v43 wy ho hb hg hn; (obtain ⟨A43, c43, e43⟩ := Kd.R_slice ho; subst e43); have HO43 := Aside0.mk ho; have HB43 := Aside0.mk hb; have HX43 := Aside0.mk (blk_grown HX0.out hg (fun e => by cases e)); clear ho hb hg hn)
    | ((with_reducible refine gate_builtin (b := .append) (xs := #[.tmp 43, .tmp 49]) rfl ?_); at_builtin; refine Kd.R_append_row (Value.int .u8) (0 : Int) (w0 := w) w.heap.size rfl (.tmp 43) (.tmp 49) 52 5 (.int .u8 0) 1 rfl Try.underlying52 Dsk.info5 rfl (by decide) _ [] xs A0 N c0 (fun _ => True) rfl rfl (fun _ _ => trivial) HO43.out (Kd.C_below HCX.out HB43.out) HB43.out HB43.out.size (by have := HL.out; simp; omega) ?_; intro v50 wz ho hb hg hat; have HO50 := Aside0.mk ho; have HB50 := Aside0.mk hb; have HX50 := Aside0.mk (blk_grown HX43.out hg (Kd.R_ne HO43.out HX43.out (by decide))); clear ho hb hg hat))
  obtain ⟨gx, hgx⟩ : ∃ gx, gx = w.heap.size := ⟨_, rfl⟩
  obtain ⟨g, cap, e50, _⟩ := Kd.R_form HO50.out (by rw [List.nil_append]; have := HL.out; omega)
  rw [List.nil_append, HL.out.2.2.1] at e50
  subst e50
  have HM0 := Aside0.mk (show Mk w wz gx g cap N ap asl xs from ⟨by have h := HO50.out; rwa [List.nil_append] at h, by rw [hgx]; exact HX50.out, HB50.out⟩)
  rw [← hgx]
  have HGX := Aside0.mk hgx
  clear hcut wq wm HZ0 HX0 HCX HO43 HB43 HX43 HO50 HB50 HX50 hgx
  go_loopg [53] lks.length (fun kq v53 w' => ∃ i : Int, v53 = .int .i64 i ∧ Aside0 (0 ≤ i ∧ (kq : Int) + i = (lks.length : Int)) ∧ Aside0 (Mk w w' gx g cap N ap asl (marks xs (lks.take i.toNat) 0)))
  case atStart => exact ⟨0, rfl, ⟨by omega⟩, HM0⟩
  case round =>
    clear HM0
    obtain ⟨i, rfl, HI, HM⟩ := hrel
    by_cases ci : i < (lks.length : Int)
    · have cib : decide (i < (lks.length : Int)) = true := decide_eq_true ci
      have p9 : (0 ≤ i) = True := eq_true HI.out.1
      have q9 : (i < (lks.length : Int)) = True := eq_true ci
      obtain ⟨ad, ea, hx0⟩ := Kd.at_int (Kd.C_below HC1.out HM.out.hb) i HI.out.1 ci
      subst ea
      obtain ⟨y, hyy⟩ : ∃ y, y = rd lks i := ⟨_, rfl⟩
      rw [← hyy] at hx0
      have HYY := Aside0.mk hyy
      have HCI := Aside0.mk ci
      have w1_ : wrap64 (i + 1) = i + 1 := wr_in _ (by have := HI.out; have := HN3.out; omega)
      clear ci hyy
      obtain ⟨ms, hms⟩ : ∃ ms, ms = marks xs (lks.take i.toNat) 0 := ⟨_, rfl⟩
      rw [← hms] at HM
      have hml : ms.length = N := by rw [hms, marks_len, HL.out.2.2.1]
      have hnx : marks xs (lks.take (i + 1).toNat) 0 = mark ms i.toNat y := by
        have h1 : i.toNat < lks.length := by have := HI.out; have := HCI.out; omega
        have h2 : rd lks i = lks[i.toNat] := by simp [rd, h1]
        rw [show (i + 1).toNat = i.toNat + 1 by have := HI.out; omega, List.take_succ_eq_append_getElem h1, marks_snoc, hms, HYY.out, h2, List.length_take, Nat.zero_add, Nat.min_eq_left (by omega)]
      have hyr : 0 ≤ y ∧ y < 4294967296 := by
        have h1 : i.toNat < lks.length := by have := HI.out; have := HCI.out; omega
        have h2 : rd lks i = lks[i.toNat] := by simp [rd, h1]
        rw [HYY.out, h2]
        exact HLK.out _ (List.getElem_mem h1)
      have HMS := Aside0.mk (And.intro hms (And.intro hml hnx))
      have HYR := Aside0.mk hyr
      clear hms hml hnx hyr
      go_upto_region 7 with fail
      have hw2_ : wrap64 (512 * (i + 1)) = 512 * (i + 1) := wr_in _ (by have := HI.out; have := HN3.out; omega)
      by_cases cA : 512 * (i + 1) ≤ (N : Int)
      · have cAb : decide (512 * (i + 1) ≤ (N : Int)) = true := decide_eq_true cA
        have HCA := Aside0.mk cA
        clear cA
        have htm : y.tmod 4 = y % 4 := Int.tmod_eq_emod_of_nonneg HYR.out.1
        by_cases cB : y % 4 = 3
        · have cBb : (y.tmod 4 != 3) = false := by rw [htm, cB]; rfl
          have HCB := Aside0.mk cB
          clear cB htm
          go_wp2
          go_roundg (gk - 1)
          case measure => have h1 := HI.out; have h2 := HCI.out; omega
          case rel =>
            have h1 := HI.out
            have h2 := HCI.out
            exact ⟨i + 1, by first | rfl | rw [w1_], ⟨by omega⟩, ⟨by rw [HMS.out.2.2, mark, if_neg (fun h => h.2 HCB.out)]; exact HM.out⟩⟩
        · have cBb : (y.tmod 4 != 3) = true := by rw [htm]; exact bne_iff_ne.mpr cB
          have HCB := Aside0.mk cB
          have hw3_ : wrap64 (512 * i) = 512 * i := wr_in _ (by have := HI.out; have := HN3.out; omega)
          have hw4_ : wrap64 (512 * i + 7) = 512 * i + 7 := wr_in _ (by have := HI.out; have := HN3.out; omega)
          have hsl := fun W => cut_off8 W g N cap (512 * i) (by have := HI.out; omega) (by have := HCA.out; omega) (Kd.R_reads' HM.out.row).2.1
          obtain ⟨Z, hZ⟩ : ∃ Z : Obj, Z = .cells (madeCells #[.int .u8 0] 512) 5 := ⟨_, rfl⟩
          have hmk : ∀ W, (Instr.makeSlice 52 (.int .i64 512) (.int .i64 512)).run Try.prog W = .ok (.slice (some ⟨W.heap.size, 0, none⟩) 512 512) (W.alloc Z) := fun W => by
            rw [hZ]
            exact run_make_row' (P := Try.prog) 52 5 (.int .u8 0) 1 Try.underlying52 Dsk.info5 rfl .i64 .i64 512 (by decide) (by decide) W
          have hC8 := (Kd.R_reads' (made8 wr.drew 512 0 (Nat.zero_le _) (by decide))).2.2
          rw [List.length_replicate] at hC8
          obtain ⟨w6, hcp, hR6, hG6⟩ := copy_zeros (W := wr.drew.alloc (.cells (madeCells #[.int .u8 0] 512) 5)) (off := (512 * i).toNat) (dLen := N - (512 * i).toNat) (dCap := cap - (512 * i).toNat) (sCap := 512) (m := 512) (Kd.R_alloc (Kd.R_drew HM.out.row) _) hC8 (by rw [List.length_replicate]) (by decide) (by have := HCA.out; have := HI.out; omega) (by have := HCA.out; have := HI.out; omega) 3
          rw [← HZS.out] at hR6
          rw [← hZ] at hcp
          have HM6 := Aside0.mk (((HM.out.below (below_alloc (below_drew1 (Below.refl wr.heap.size wr)) (.cells (madeCells #[.int .u8 0] 512) 5))).grown hR6 hG6))
          have HCP := Aside0.mk hcp
          have HM7 := Aside0.mk (HM6.out.put (512 * i) 1)
          have HM8 := Aside0.mk (HM7.out.put (512 * i + 7) (y % 256))
          have hk1 := Kd.R_celln 0 HM6.out.row (512 * i) (by have := HI.out; omega) (by have := HCA.out; omega)
          have hk2 := Kd.R_celln 0 HM7.out.row (512 * i + 7) (by have := HI.out; omega) (by have := HCA.out; omega)
          have e1 : Addr.add ⟨g, 0, none⟩ (512 * i).toNat = ⟨g, (512 * i).toNat, none⟩ := add0 _ _
          have e2 : Addr.add ⟨g, 0, none⟩ (512 * i + 7).toNat = ⟨g, (512 * i + 7).toNat, none⟩ := add0 _ _
          have p8 : (0 ≤ 512 * i) = True := eq_true (by have := HI.out; omega)
          have q8 : (512 * i < (N : Int)) = True := eq_true (by have := HCA.out; omega)
          have p7 : (0 ≤ 512 * i + 7) = True := eq_true (by have := HI.out; omega)
          have q7 : (512 * i + 7 < (N : Int)) = True := eq_true (by have := HCA.out; omega)
          have hwi : IntKind.i64.wrap (512 * i) = 512 * i := (w64_eq _).trans hw3_
          have q8b : (512 * i ≤ (N : Int)) = True := eq_true (by have := HCA.out; omega)
          have q8c : (cap = (512 * i).toNat) = False := eq_false (by have := HCA.out; have := HI.out.1; have := (Kd.R_reads' HM.out.row).2.1; omega)
          obtain ⟨hk1, hf1⟩ := hk1
          obtain ⟨hk2, hf2⟩ := hk2
          clear cB htm hcp hR6 hG6 hC8 hZ
          go_wp2
          go_region_law (refine step_copy rfl (.tmp 72) (.tmp 73) 52 rfl (by simp [Act.eval, Act.put]) (by simp [Act.eval, Act.put]) HCP.out ?_)
          all_goals
            go_wp2
            go_roundg (gk - 1)
            case measure => have h1 := HI.out; have h2 := HCI.out; omega
            case rel =>
              have h1 := HI.out
              have h2 := HCI.out
              refine ⟨i + 1, by first | rfl | rw [w1_], ⟨by omega⟩, ⟨?_⟩⟩
              rw [HMS.out.2.2, mark, if_pos ⟨by have := HMS.out.2.1; have := HCA.out; omega, HCB.out⟩, ← HZS.out]
              have h5 := HM8.out
              rw [show (512 * i).toNat = 512 * i.toNat by omega, show (512 * i + 7).toNat = 512 * i.toNat + 7 by omega] at h5
              rw [show (512 * i).toNat = 512 * i.toNat by omega, show (512 * i + 7).toNat = 512 * i.toNat + 7 by omega]
              exact h5
      · have cAb : decide (512 * (i + 1) ≤ (N : Int)) = false := decide_eq_false cA
        have HCA := Aside0.mk cA
        clear cA
        go_wp2
        go_roundg (gk - 1)
        case measure => have h1 := HI.out; have h2 := HCI.out; omega
        case rel =>
          have h1 := HI.out
          have h2 := HCI.out
          exact ⟨i + 1, by first | rfl | rw [w1_], ⟨by omega⟩, ⟨by rw [HMS.out.2.2, mark, if_neg (fun h => by have h3 := HMS.out.2.1; have h4 := HCA.out; have h5 := h.1; rw [h3] at h5; omega)]; exact HM.out⟩⟩
    · have cib : decide (i < (lks.length : Int)) = false := decide_eq_false ci
      rw [List.take_of_length_le (by omega : lks.length ≤ i.toNat), ← HBS.out] at HM
      have hnp : ∀ (W : World) (a : Addr), (binOp .eql 25 (.pointer (some a)) (.pointer none)).run Try.prog W = .ok (.bool false) W := fun W a => by go_simp
      clear ci
      go_upto_region 16 with (first
        | (go_at_call 18; (with_reducible refine (load_n _ (some ⟨g, 0, none⟩) cap N bs HL.out.2.2.2.1 (R_Cn HM.out.row) HL.out.2.2.2.2).mono ?_); rintro en w2 ⟨gd, rfl, hd_, hb_⟩; rw [← HT.out.1] at hd_; have HD2 := Aside0.mk hd_.bound; have HM2 := Aside0.mk (HM.out.below hb_); have hcv := Kd.C_string (P := Try.prog) (c := cap) Try.underlying52 Try.underlying5 Try.underlying9 (R_Cn HM2.out.row); clear hd_ hb_)
        | (go_at_call 19; (with_reducible refine (rowlockref06_Load.calls 4100 (strOfNums bs) (pgs bs n) t true _ HLD.out).mono ?_); rintro en w3 ⟨v0, v1, rfl, hr0, hr1, hb_⟩; (obtain ⟨B0, e0, f0⟩ := Kd.R_slice hr0); (obtain ⟨B1, e1, f1⟩ := Kd.R_slice hr1); subst f0 f1; have HR0 := Aside0.mk hr0; have HR1 := Aside0.mk hr1; have HM3 := Aside0.mk (HM2.out.below hb_); have HD3 := Aside0.mk (HD2.out.below hb_); have HB3 := Aside0.mk hb_.size; clear hr0 hr1 hb_ hcv))
      obtain ⟨B, hB⟩ : ∃ B, B = (w3.alloc (.cells #[.slice B0 (pgs bs n).length e0, .slice B1 t.length e1] 32)).heap.size := ⟨_, rfl⟩
      have hB1 : B = w3.heap.size + 1 := by rw [hB, World.size_alloc]
      have hB2 := HM2.out.hb.size
      have hB3 := HB3.out
      have HAL := Aside0.mk (show Al w (w3.alloc (.cells #[.slice B0 (pgs bs n).length e0, .slice B1 t.length e1] 32)) B gx w3.heap.size ap asl (.slice B0 (pgs bs n).length e0) (.slice B1 t.length e1) (pgs bs n) t from
        ⟨blk_alloc HM3.out.box _, blk_new w3 _, Kd.R_lower (Kd.R_mono (Kd.R_alloc (Kd.R_bound HR0.out) _) (fun k hk => by have := hk.2.2.1; show k < B; omega)) hB2, Kd.R_lower (Kd.R_mono (Kd.R_alloc (Kd.R_bound HR1.out) _) (fun k hk => by have := hk.2.2.1; show k < B; omega)) hB2, ⟨by have := blk_lt HM3.out.box; omega, by omega⟩, below_then HM3.out.hb HM3.out.hb.size (below_alloc (Below.refl _ _) _), ⟨by have := HM3.out.hb.size; omega, Nat.le_of_eq hB⟩⟩)
      have HD4 := Aside0.mk (show Dk (w3.alloc (.cells #[.slice B0 (pgs bs n).length e0, .slice B1 t.length e1] 32)) (fun k => k < B) gd bs t from (HD3.out.alloc _).mono (fun k hk => by have := hk.2; show k < B; omega))
      clear HM HM2 HM3 HR0 HR1 HD2 HD3 HB3 hB hB1 hB2 hB3
      generalize World.alloc w3 _ = w4 at HAL HD4 ⊢
      generalize w3.heap.size = g14 at HAL ⊢
      go_upto_region 19 with (first
        | (go_at_call 20; (with_reducible refine (Pool.new_ok' w4 gd 2 (by decide) (fun q => pg bs q.toNat)).mono ?_); rintro en w5 ⟨g5, gm, rfl, hpl, hb_⟩; have HX5 := Aside0.mk (show Px w5 (fun k => w4.heap.size ≤ k ∧ k < w5.heap.size) g5 gd bs t 0 from ⟨2, [], 0, 0, by decide, by decide, hpl.bound.pw, (by simp), by decide⟩); have HAL5 := Aside0.mk (HAL.out.below hb_); have HD5 := Aside0.mk (HD4.out.below hb_); clear hpl hb_)
        | (go_at_call 21; (with_reducible refine (scan_ok2 (D := fun k => k < B) HX5.out HD5.out (fun k hk => ⟨fun h => by have h1 : k < B := h; have h2 := HAL.out.big.2; have h3 := hk.1; omega, hk.2⟩) (fun k hk => by have h1 : k < B := hk; have h2 := HAL5.out.big.2; omega) HY.out.2 HP.out.1 HW.out (by have := HT.out.2; have := HL.out.1; omega) HO.out.2 HO.out.1).mono ?_); rintro en w6 ⟨okP, okI, vI, K6, rfl, hsc, hkb⟩; (obtain ⟨AI, cI, fI⟩ := Kd.R_slice hsc.row); subst fI; have HAL6 := Aside0.mk (HAL5.out.kept hsc.kp (fun k hk => Nat.le_of_not_lt hk)); have HS6 := Aside0.mk hsc; have HKB := Aside0.mk hkb; clear hsc hkb; have h140 := (blk_cell HAL6.out.b14 0).trans rfl; have h141 := (blk_cell HAL6.out.b14 1).trans rfl; have hl14 := blk_lt HAL6.out.b14)
        | (go_at_call 22; (with_reducible refine (rowlockref09_Scan.calls ks B0 e0 (pgs bs n) B1 e1 t p (O.map t68) kk e w6 (Kd.R_reads' HAL6.out.r0).2.2 (Kd.R_reads' HAL6.out.r0).2.1 (Kd.R_reads' HAL6.out.r1).2.2 (Kd.R_reads' HAL6.out.r1).2.1 HSC.out).mono ?_); rintro en w7 ⟨vW, rfl, hrw, hb_⟩; (obtain ⟨AW, cW, fW⟩ := Kd.R_slice hrw); rw [List.length_map] at fW; subst fW; clear h140 h141 hl14; have HAL7 := Aside0.mk (HAL6.out.below hb_); have HS7 := Aside0.mk (HS6.out.below hb_); have HW7 := Aside0.mk hrw; clear hrw hb_))
      have hn1 : (e != e) = false := by simp
      have hn2 : (kk != kk) = false := by simp
      have hn3 : ((O.length : Int) != (O.length : Int)) = false := by simp
      clear HX5 HAL HAL5 HD4 HD5 HAL6 HS6
      obtain ⟨gko, rfl⟩ : ∃ x, x = gk := ⟨_, rfl⟩
      have HOL := Aside0.mk (show O.length ≤ 1000000 by have h1 := way_len HW.out; have h2 := HT.out.2; have h3 := HL.out.1; have h4 := HO.out.1; rw [h4, scanO]; split <;> simp at * <;> omega)
      go_wp2
      clear hn1 hn2 hn3
      have nq := nq50
      go_loopg [144] O.length (fun kq v144 w' => ∃ j : Int, v144 = .int .i64 j ∧ Aside0 (0 ≤ j ∧ (kq : Int) + j = (O.length : Int)) ∧ Aside0 (Below w7.heap.size w7 w'))
      case atStart => exact ⟨0, rfl, ⟨by omega⟩, ⟨Below.refl _ _⟩⟩
      case round =>
        obtain ⟨j, rfl, HJ, HBJ⟩ := hrel
        have HSJ := Aside0.mk (HS7.out.below HBJ.out)
        by_cases cj : j < (O.length : Int)
        · have cjb : decide (j < (O.length : Int)) = true := decide_eq_true cj
          have p9j : (0 ≤ j) = True := eq_true HJ.out.1
          have q9j : (j < (O.length : Int)) = True := eq_true cj
          have wj : wrap64 (j + 1) = j + 1 := wr_in _ (by have := HJ.out; have := HOL.out; omega)
          obtain ⟨ad1, A1x, c1x, ea1, hc1, hc2, hc3, hlx, hCx⟩ := at66 (Kd.R_reads' HSJ.out.row).2.2 j HJ.out.1 cj
          obtain ⟨ad2, ea2, hc4, hc5, hc6⟩ := at_T68 (Kd.R_reads' (Kd.R_below HW7.out HBJ.out)).2.2 j HJ.out.1 (by rw [List.length_map]; exact cj)
          rw [rd66_map O j HJ.out.1 cj] at hc4 hc5 hc6
          subst ea1 ea2
          generalize rd66 O j = x at hc1 hc2 hc3 hc4 hc5 hc6 hlx hCx
          have hcv := fun m => Kd.C_string (P := Try.prog) (c := c1x) Try.underlying52 Try.underlying5 Try.underlying9 (Kd.C_below hCx (pw_below_drewN (Below.refl _ _) m))
          have ht1 : (t68 x).f0 = x.f0 := rfl
          have ht2 : (t68 x).f1 = strOfNums x.f1 := rfl
          rw [ht1] at hc4 hc5
          rw [ht2] at hc6
          have hnn : (strOfNums x.f1 != strOfNums x.f1) = false := ba_ne _
          have HCJ := Aside0.mk cj
          clear cj hlx hCx ht1 ht2
          go_upto_region 24 with fail
          go_quiet (fail)
          go_wp2
          go_roundg (gk - 1)
          case measure => have h1 := HJ.out; have h2 := HCJ.out; omega
          case rel =>
            have h1 := HJ.out
            have h2 := HCJ.out
            exact ⟨j + 1, by first | rfl | rw [wj], ⟨by omega⟩, ⟨pw_below_drewN HBJ.out _⟩⟩
        · have cjb : decide (j < (O.length : Int)) = false := decide_eq_false cj
          have HALJ := Aside0.mk (HAL7.out.below HBJ.out)
          have hx0 := (blk_cell HALJ.out.box 0).trans rfl
          have hx1 := (blk_cell HALJ.out.box 1).trans rfl
          have hxl := blk_lt HALJ.out.box
          have hn4 : (strOfNums r1 == strOfNums r1) = true := ba_eq _
          have hn5 : (r2 == r2) = true := by simp
          clear cj
          go_wp2_with (first
            | (go_at_call 23; (with_reducible refine (HFC.out _ _ _ _ _ _ HSJ.out.px HSJ.out.dk (by have h1 := HKB.out; have h2 := HT.out.2; have h3 := HL.out.1; omega)).mono ?_); rintro en w8 ⟨v8, rfl, ho, hk⟩; (obtain ⟨A8, c8, f8⟩ := Kd.R_slice ho); subst f8; clear hx0 hx1 hxl; have HAL8 := Aside0.mk (HALJ.out.kept hk (fun k hk2 => Nat.le_of_not_lt (HSJ.out.apP k hk2).2.1)); have HO8 := Aside0.mk ho; clear ho hk; have h140 := (blk_cell HAL8.out.b14 0).trans rfl; have h141 := (blk_cell HAL8.out.b14 1).trans rfl; have hx0 := (blk_cell HAL8.out.box 0).trans rfl; have hx1 := (blk_cell HAL8.out.box 1).trans rfl; have hl14 := blk_lt HAL8.out.b14; have hxl := blk_lt HAL8.out.box)
            | (go_at_call 24; (with_reducible refine (rowlockref09_Fetch.calls 2000 B0 e0 (pgs bs n) B1 e1 t ap asl (strOfNums r1) r2 w8 (Kd.R_reads' HAL8.out.r0).2.2 (Kd.R_reads' HAL8.out.r0).2.1 (Kd.R_reads' HAL8.out.r1).2.2 (Kd.R_reads' HAL8.out.r1).2.1 HF.out.1).mono ?_); rintro en w9 ⟨rfl, hb_⟩; have HAL9 := Aside0.mk (HAL8.out.below hb_); have HO9 := Aside0.mk (Kd.R_below HO8.out hb_); clear hb_ h140 h141 hx0 hx1 hl14 hxl)
            | (go_at_call 11; (with_reducible refine (fixed_ok _).mono ?_); rintro en w10 ⟨rfl, hb_⟩; have HAL10 := Aside0.mk (HAL9.out.below hb_); have hcv := Kd.C_string (P := Try.prog) (c := c8) Try.underlying52 Try.underlying5 Try.underlying9 (Kd.R_reads' (Kd.R_below HO9.out hb_)).2.2; clear hb_))
          go_ret
          exact ⟨rfl, HAL10.out.hb⟩
/-- HeapRaw answers 'true'. -/
theorem HeapRaw_ok (A0 A1 : Option Addr) (c0 c1 : Nat) (img lks : List Int) (p ap asl : Int) (w : World) (hC0 : Kd.C (Kd.int .u8) w A0 img.length img) (hc0 : img.length ≤ c0) (hC1 : Kd.C (Kd.int .u32) w A1 lks.length lks) (hc1 : lks.length ≤ c1) (hy : By img) (hlk : ∀ x ∈ lks, 0 ≤ x ∧ x < 4294967296) (hp : 0 ≤ p ∧ p < 4294967296) (ha : 0 ≤ ap ∧ ap < 4294967296) (hs : 0 ≤ asl ∧ asl < 65536) :
    Calls Try.prog 4 #[.slice A0 img.length c0, .slice A1 lks.length c1, .int .u32 p, .agg #[.int .u32 ap, .int .u16 asl]] w fun e w' => e = .returned (.bool true) ∧ Below w.heap.size w w' := by
  by_cases q1 : 5120 < img.length
  · exact raw_fixed A0 A1 c0 c1 _ _ p ap asl w (.inl q1)
  · by_cases q2 : img.length < 512
    · exact raw_fixed A0 A1 c0 c1 _ _ p ap asl w (.inr (.inl q2))
    · by_cases q3 : 10 < lks.length
      · exact raw_fixed A0 A1 c0 c1 _ _ p ap asl w (.inr (.inr q3))
      · exact raw_main A0 A1 c0 c1 img lks p ap asl w hC0 hc0 hC1 hc1 hy hlk hp ha hs q1 q2 q3
end Go.Proofs.Ytpfegfkniilobaa.Hp
