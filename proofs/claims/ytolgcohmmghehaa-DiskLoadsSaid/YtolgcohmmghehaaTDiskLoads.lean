/- The law DiskLoads is true. Conditions: bytes, numbers of their kinds. -/
import Derived.Test.YtolgcohmmghehaaDskH
import Derived.Deep.RegionWith
import Derived.Deep.DeepCutAuto
namespace Go.Proofs.Ytolgcohmmghehaa.Dsk
open Go.RowKit Go.Proofs.YtolgcohmmghehaaW.PrintWords Go.Proofs.YtolgcohmmghehaaW.PrintLast Go.Proofs.YtolgcohmmghehaaW.PrintMore Go.Proofs.Ytolgcohmmghehaa.Byt Go.Proofs.Ytolgcohmmghehaa.XDiskPlays
set_option linter.unusedVariables false
set_option linter.unusedSimpArgs false
set_option maxRecDepth 100000
theorem DiskLoads_big (A : Option Addr) (n c : Nat) (a1 : Int) (A2 : Option Addr) (n2 c2 : Nat) (w : World) (hbig : 20 < n ∨ 50 < n2) : Calls Try.prog 5 #[.slice A n c, .int .u16 a1, .slice A2 n2 c2] w fun e w' => e = .returned (.bool true) ∧ Below w.heap.size w w' := by
  by_cases h1 : 20 < n
  · have c1 : decide (20 < (n : Int)) = true := decide_eq_true (by omega)
    clear hbig h1
    go_enter Try.func5, Try.ntmps5
    go_wp2_with (go_at_call 15; (with_reducible refine (fixed_ok _).mono ?_); rintro en w1 ⟨rfl, hb⟩; have HB := Aside0.mk hb; clear hb)
    go_ret
    exact ⟨rfl, HB.out⟩
  have c1 : decide (20 < (n : Int)) = false := decide_eq_false (by omega)
  have c3 : decide (50 < (n2 : Int)) = true := decide_eq_true (by omega)
  clear hbig h1
  go_enter Try.func5, Try.ntmps5
  go_wp2_with (go_at_call 15; (with_reducible refine (fixed_ok _).mono ?_); rintro en w1 ⟨rfl, hb⟩; have HB := Aside0.mk hb; clear hb)
  go_ret
  exact ⟨rfl, HB.out⟩
theorem small_u16 {m : Nat} (h : m < 1024) : IntKind.u16.wrap (m : Int) = m := by rw [u16_eq]; omega
theorem small_mod {m : Nat} (h : m < 1024) : (m : Int) % 65536 = m := by omega
theorem small_w64 {m : Nat} (h : m < 1024) : wrap64 (m : Int) = m := wr_in _ (by omega)
theorem conv_C (W : World) (xs : List Int) (hy : By xs) (hl : xs.length ≤ 9223372036854775807) : Kd.C (Kd.int .u8) (Lib.bytesWorld W 5 (strOfNums xs)) (some ⟨W.heap.size, 0, none⟩) xs.length xs := by
  have h := bytes_reads W 5 (strOfNums xs) (by rw [str_size]; exact hl)
  rw [str_size, bytes_str hy] at h
  exact Kd.C_of_reads (enc := Value.int .u8) (d := (0 : Int)) (h1 := fun _ => rfl) h
theorem kept_row {w w' : World} {g : Nat} (h : w.grownBy w' (some g)) {k : Nat} (hk : k < w.heap.size) (hne : k ≠ g) : w'.heap[k]? = w.heap[k]? := h.block k hk (fun e => by injection e with e; exact hne e)
set_option maxHeartbeats 8000000 in
theorem DiskLoads_walk (A : Option Addr) (c : Nat) (l : List Int) (a1 : Int) (A2 : Option Addr) (n2 c2 : Nat) (w : World) (hC : Kd.C (Kd.int .u8) w A l.length l) (hl : l.length ≤ 20) (hn2 : n2 ≤ 50) (hy : By l) (ha : 0 ≤ a1 ∧ a1 < 65536) : Calls Try.prog 5 #[.slice A l.length c, .int .u16 a1, .slice A2 n2 c2] w fun e w' => e = .returned (.bool true) ∧ Below w.heap.size w w' := by
  have c1 : decide (20 < (l.length : Int)) = false := decide_eq_false (by omega)
  have c3 : decide (50 < (n2 : Int)) = false := decide_eq_false (by omega)
  obtain ⟨m, hm, hm2⟩ : ∃ m : Nat, Int.tmod a1 1024 = (m : Int) ∧ m < 1024 := ⟨(a1 % 1024).toNat, by rw [Int.tmod_eq_emod_of_nonneg ha.1]; omega, by omega⟩
  have r3 : IntKind.u16.wrap (m : Int) = m := small_u16 hm2
  have r5 : (m : Int) % 65536 = m := small_mod hm2
  have r4 : wrap64 (m : Int) = m := small_w64 hm2
  have HC := Aside0.mk hC
  have HL := Aside0.mk (And.intro hl (And.intro hy (And.intro ha hm2)))
  clear hC hl hn2 hy ha hm2
  go_enter Try.func5, Try.ntmps5
  go_wp2
  go_loopg [7, 28] l.length (fun kq v7 v28 w' => ∃ (i : Int) (im : List Int), v7 = .string (strOfNums im) ∧ v28 = .int .i64 i ∧ Aside0 (0 ≤ i ∧ (kq : Int) + i = l.length) ∧ Aside0 (By im ∧ (im.length : Int) = 512 * i) ∧ Aside0 (Below w.heap.size w w'))
  case atStart => exact ⟨0, [], rfl, rfl, ⟨by omega⟩, ⟨By.nil, rfl⟩, ⟨Below.refl _ _⟩⟩
  case round =>
    obtain ⟨i, im, rfl, rfl, HI, HM, HB⟩ := hrel
    by_cases c5 : i < (l.length : Int)
    · have c5b : decide (i < (l.length : Int)) = true := decide_eq_true c5
      obtain ⟨ad, e1, hx0⟩ := Kd.at_int HC.out i HI.out.1 c5
      subst e1
      replace hx0 := (HB.out.cell (World.block_lt_of_cell? w _ hx0)).trans hx0
      obtain ⟨x, hx⟩ : ∃ x, x = rd l i := ⟨_, rfl⟩
      rw [← hx] at hx0
      have HXB := Aside0.mk (show 0 ≤ x ∧ x ≤ 255 by rw [hx]; exact HL.out.2.1.rdb i)
      clear hx
      have p9 : (0 ≤ i) = True := eq_true HI.out.1
      have q9 : (i < (l.length : Int)) = True := eq_true c5
      have u8 : i % 256 = i := by have := HI.out.1; have := HL.out.1; omega
      have u8' : IntKind.u8.wrap i = i := by show i % 256 = i; exact u8
      obtain ⟨bs, hbs⟩ : ∃ bs, bs = List.replicate 511 i := ⟨_, rfl⟩
      have hbl : bs.length = 511 := by rw [hbs]; exact List.length_replicate
      have hadd1 : (9223372036854775807 < (strOfNums [x]).size + (strOfNums bs).size) = False := eq_false (by rw [str_size, str_size, hbl]; simp)
      have hadd2 : (9223372036854775807 < (strOfNums im).size + ((strOfNums [x]).size + (strOfNums bs).size)) = False := eq_false (by rw [str_size, str_size, str_size, hbl]; have := HM.out.2; have := HL.out.1; have := HI.out; simp only [List.length_singleton]; omega)
      have HBS := Aside0.mk (And.intro hbs hbl)
      have HC5 := Aside0.mk c5
      clear c5 hbs hbl
      go_upto_region 7 with fail
      have hA1 := Kd.C_string (P := Try.prog) (c := 1) Try.underlying26 Try.underlying5 Try.underlying9 (Kd.C_drew (one_C wr x))
      go_region_with (go_at_call 22; go_loud (have hx := page511 i bs HBS.out.1); (with_reducible refine (hx _).mono ?_); clear hx; rintro en w4 ⟨A4, c4, rfl, ho, hb⟩; have HB4 := Aside0.mk (below_then (B := w.heap.size) (by repeat (first | exact HB4.out | exact HB.out | apply below_alloc | apply pw_below_drewN | apply below_drew1)) (Below.size (by repeat (first | exact HB4.out | exact HB.out | apply below_alloc | apply pw_below_drewN | apply below_drew1))) hb); have hcv4 := own_string (P := Try.prog) Try.underlying26 Try.underlying5 Try.underlying9 (Kd.own_of_R ho); have hcv4' := own_string (P := Try.prog) Try.underlying26 Try.underlying5 Try.underlying9 (Kd.own_of_R (Kd.R_alloc ho (.cells #[.int .u8 x] 5))); have hA2 := Kd.C_string (P := Try.prog) (c := 1) Try.underlying26 Try.underlying5 Try.underlying9 (one_C w4 x); (first | (have hA3 := Kd.C_string (P := Try.prog) (c := 1) Try.underlying26 Try.underlying5 Try.underlying9 (Kd.C_below (Kd.C_drew (one_C wr x)) hb)) | skip); clear ho hb)
      all_goals
        go_wp2
        go_roundg (gk - 1)
        case measure => have h1 := HI.out; have h2 := HC5.out; omega
        case rel =>
          have h1 := HI.out
          have h2 := HC5.out
          have h3 := HL.out.1
          have h4 := HM.out
          refine ⟨i + 1, im ++ ([x] ++ bs), by rw [str_append, str_append], by first | rfl | rw [wr_in (i + 1) (by omega)], ⟨by omega⟩, ⟨h4.1.append ((By.cons HXB.out By.nil).append (by rw [HBS.out.1]; exact By.rep (by omega) 511)), by rw [List.length_append, List.length_append, HBS.out.2, List.length_singleton]; omega⟩, ⟨(by repeat (first | exact HB4.out | exact HB.out | apply below_alloc | apply pw_below_drewN | apply below_drew1))⟩⟩
    · have c5b : decide (i < (l.length : Int)) = false := decide_eq_false c5
      have him : im.length = 512 * l.length := by have := HI.out; have := HM.out.2; omega
      obtain ⟨bs, hbs⟩ : ∃ bs, bs = List.replicate m (7 : Int) := ⟨_, rfl⟩
      have hbl : bs.length = m := by rw [hbs]; exact List.length_replicate
      obtain ⟨xs, hxs⟩ : ∃ xs, xs = im ++ bs := ⟨_, rfl⟩
      have hxl : xs.length = 512 * l.length + m := by rw [hxs, List.length_append, hbl, him]
      have hxy : By xs := by rw [hxs, hbs]; exact HM.out.1.append (By.rep (by omega) m)
      have hadd : (9223372036854775807 < (strOfNums im).size + (strOfNums bs).size) = False := eq_false (by rw [str_size, str_size, hbl, him]; have := HL.out; omega)
      have hjoin : strOfNums im ++ strOfNums bs = strOfNums xs := by rw [hxs, str_append]
      have hsx : (strOfNums xs).size = xs.length := str_size xs
      have kb := fun W => print_bytes (P := Try.prog) 9 26 5 Try.underlying9 Try.underlying26 Try.underlying5 (strOfNums xs) W
      have HX := Aside0.mk (And.intro hxl (And.intro hxy hbs))
      have HBLs := Aside0.mk hbl
      clear c5 him hbs hbl hxs hxl hxy
      go_upto_region 11 with (go_at_call 22; (with_reducible refine (page_ok 7 m _ (by have := HL.out; omega)).mono ?_); rintro en w6 ⟨v, rfl, ho, hb⟩; rw [← HX.out.2.2] at ho; obtain ⟨A6, c6, e6⟩ := Kd.R_slice ho; rw [HBLs.out] at e6; subst e6; have hcv6 := own_string (P := Try.prog) Try.underlying26 Try.underlying5 Try.underlying9 (Kd.own_of_R ho); have HB6 := Aside0.mk (below_then HB.out HB.out.size hb); clear ho hb)
      have HB7 := Aside0.mk (bytes_below HB6.out HB6.out.size 5 (strOfNums xs))
      have HC7 := Aside0.mk (conv_C w6 xs HX.out.2.1 (by have := HX.out.1; have := HL.out; omega))
      have HS7 := Aside0.mk (Lib.bytesWorld_size w6 5 (strOfNums xs))
      generalize hw7 : Lib.bytesWorld w6 5 (strOfNums xs) = w7 at HB7 HC7 HS7 ⊢
      have HW7 := Aside0.mk hw7
      clear hw7 kb hcv6 hadd hjoin hsx
      obtain ⟨c7, hc7⟩ : ∃ c7, c7 = grownCap w6 xs.length 0 5 := ⟨_, rfl⟩
      try rw [← hc7]
      clear hc7
      by_cases hg : 1 ≤ xs.length / 512 ∧ xs.length / 512 ≤ 4096 ∧ xs.length % 512 = 0
      · obtain ⟨T, hT⟩ : ∃ T, T = ld xs := ⟨_, rfl⟩
        have hTl : T.length = xs.length / 512 := by rw [hT, ld, List.length_map, List.length_range]
        have hrl : rowlockref06_Load.f 4100 (strOfNums xs) = some (pgs xs T.length, T, true) := by rw [refload_ok xs HX.out.2.1 hg, hT, ← hTl, hT]
        have HG := Aside0.mk (And.intro hg (And.intro hT hrl))
        clear hg hT hrl hTl
        go_wp2_with (first
          | (go_at_call 24; (with_reducible refine (load_ok w7 _ c7 xs HC7.out HG.out.1).mono ?_); rintro en w8 ⟨g, rfl, hd, hb⟩; rw [← HG.out.2.1] at hd; have HD8 := Aside0.mk hd; have HB8 := Aside0.mk (below_then HB7.out HB7.out.size hb); have HL8 := Aside0.mk hb; clear hd hb)
          | (go_at_call 25; (with_reducible refine (rowlockref06_Load.calls 4100 (strOfNums xs) (pgs xs T.length) T true w8 HG.out.2.2).mono ?_); rintro en w9 ⟨v0, v1, rfl, ho0, ho1, hb⟩; obtain ⟨A0, c0, e0⟩ := Kd.R_slice ho0; rw [pgs_len] at e0; subst e0; obtain ⟨A1, c1', e1⟩ := Kd.R_slice ho1; subst e1; have hB9 : Below w7.heap.size w7 (w9.alloc (.cells #[.slice A0 T.length c0, .slice A1 T.length c1'] 49)) := below_alloc (below_then HL8.out HL8.out.size hb) _; obtain ⟨w10, hclr, hg10⟩ := clear_conv w6 (w9.alloc (.cells #[.slice A0 T.length c0, .slice A1 T.length c1'] 49)) (strOfNums xs) 0 ((hB9.block w6.heap.size (by rw [HS7.out]; omega)).trans (by rw [HW7.out])) xs.length c7 (str_size xs); have HX10 := Aside0.mk ((kept_row hg10 (blk_lt (blk_new w9 _)) (by have := hb.size; have := HL8.out.size; have := HS7.out; omega)).trans (blk_new w9 (.cells #[.slice A0 T.length c0, .slice A1 T.length c1'] 49))); have HD10 := Aside0.mk (((HD8.out.below hb).alloc (.cells #[.slice A0 T.length c0, .slice A1 T.length c1'] 49)).step (w' := w10) (fun k hk hlt => kept_row hg10 hlt (by have := HS7.out; omega))); have HR0 := Aside0.mk (Kd.R_reads' (Kd.R_step (w1 := w10) (Kd.R_bound (Kd.R_alloc ho0 (.cells #[.slice A0 T.length c0, .slice A1 T.length c1'] 49))) (fun k hk hlt => kept_row hg10 hlt (by have := hk.2.1; have := HL8.out.size; have := HS7.out; omega)))); have HR1 := Aside0.mk (Kd.R_reads' (Kd.R_step (w1 := w10) (Kd.R_bound (Kd.R_alloc ho1 (.cells #[.slice A0 T.length c0, .slice A1 T.length c1'] 49))) (fun k hk hlt => kept_row hg10 hlt (by have := hk.2.1; have := HL8.out.size; have := HS7.out; omega)))); have HB10 := Aside0.mk ((below_alloc (below_then HB8.out HB8.out.size hb) (.cells #[.slice A0 T.length c0, .slice A1 T.length c1'] 49)).grown hg10 (below_alloc (below_then HB8.out HB8.out.size hb) (.cells #[.slice A0 T.length c0, .slice A1 T.length c1'] 49)).size (fun k hk => by injection hk with hk; have := HB6.out.size; omega)); clear ho0 ho1 hb hB9 hg10; have hx0 := (blk_cell HX10.out 0).trans rfl; have hx1 := (blk_cell HX10.out 1).trans rfl)
          | (go_at_call 26; (with_reducible refine (same_ok HD10.out HX.out.2.1 A0 c0 A1 c1' (by have h3 := HR0.out.2.2; exact h3) (by rw [pgs_len]; have h3 := HR0.out.2.1; exact h3) HR1.out.2.2 HR1.out.2.1).mono ?_); rintro en w11 ⟨rfl, hb⟩; have HX11 := Aside0.mk (blk_below HX10.out hb); have HD11 := Aside0.mk (HD10.out.below hb); have HB11 := Aside0.mk (below_then HB10.out HB10.out.size hb); have HL11 := Aside0.mk hb; clear hb)
          | (go_at_call 23; (with_reducible refine (image_ok HD11.out).mono ?_); rintro en w12 ⟨v, rfl, ho, hb⟩; obtain ⟨A12, c12, e12⟩ := Kd.R_slice ho; subst e12; have HO12 := Aside0.mk ho; have HX12 := Aside0.mk (blk_below HX11.out hb); have HB12 := Aside0.mk (below_then HB11.out HB11.out.size hb); have HL12 := Aside0.mk (below_then HL11.out HL11.out.size hb); clear ho hb)
          | (go_at_call 24; (with_reducible refine (load_ok w12 A12 c12 xs (Kd.R_reads' HO12.out).2.2 HG.out.1).mono ?_); rintro en w13 ⟨g13, rfl, hd, hb⟩; rw [← HG.out.2.1] at hd; have HD13 := Aside0.mk hd; have HX13 := Aside0.mk (blk_below HX12.out hb); have HB13 := Aside0.mk (below_then HB12.out HB12.out.size hb); have HL13 := Aside0.mk (below_then HL12.out HL12.out.size hb); clear hd hb)
          | (go_at_call 15; (with_reducible refine (fixed_ok w13).mono ?_); rintro en w14 ⟨rfl, hb⟩; have HD14 := Aside0.mk (HD13.out.below hb); have HX14 := Aside0.mk (blk_below HX13.out hb); have HB14 := Aside0.mk (below_then HB13.out HB13.out.size hb); have HL14 := Aside0.mk (below_then HL13.out HL13.out.size hb); clear hb; have hx04 := (blk_cell HX14.out 0).trans rfl; have hx14 := (blk_cell HX14.out 1).trans rfl)
          | (go_at_call 26; (with_reducible refine (same_ok HD14.out HX.out.2.1 A0 c0 A1 c1' (Kd.C_below (by have h3 := HR0.out.2.2; exact h3) HL14.out) (by rw [pgs_len]; have h3 := HR0.out.2.1; exact h3) (Kd.C_below HR1.out.2.2 HL14.out) HR1.out.2.1).mono ?_); rintro en w15 ⟨rfl, hb⟩; have HB15 := Aside0.mk (below_then HB14.out HB14.out.size hb); clear hb))
        go_ret
        exact ⟨rfl, HB15.out⟩
      · have hrl : rowlockref06_Load.f 4100 (strOfNums xs) = some ([], [], false) := refload_bad xs (by have := HX.out.1; have := HL.out; omega) hg
        have HG := Aside0.mk (And.intro hg hrl)
        clear hg hrl
        go_wp2_with (first
          | (go_at_call 24; (with_reducible refine (load_bad w7 _ xs.length c7 (by have := HX.out.1; have := HL.out; omega) HG.out.1).mono ?_); rintro en w8 ⟨rfl, rfl⟩)
          | (go_at_call 25; (with_reducible refine (rowlockref06_Load.calls 4100 (strOfNums xs) [] [] false w8 HG.out.2).mono ?_); rintro en w9 ⟨v0, v1, rfl, ho0, ho1, hb⟩; obtain ⟨A0, c0, e0⟩ := Kd.R_slice ho0; subst e0; obtain ⟨A1, c1', e1⟩ := Kd.R_slice ho1; subst e1; have hB9 : Below w8.heap.size w8 (w9.alloc (.cells #[.slice A0 0 c0, .slice A1 0 c1'] 49)) := below_alloc hb _; obtain ⟨w10, hclr, hg10⟩ := clear_conv w6 (w9.alloc (.cells #[.slice A0 0 c0, .slice A1 0 c1'] 49)) (strOfNums xs) 0 ((hB9.block w6.heap.size (by rw [HS7.out]; omega)).trans (by rw [HW7.out])) xs.length c7 (str_size xs); have HB10 := Aside0.mk ((below_alloc (below_then HB7.out HB7.out.size hb) (.cells #[.slice A0 0 c0, .slice A1 0 c1'] 49)).grown hg10 (below_alloc (below_then HB7.out HB7.out.size hb) (.cells #[.slice A0 0 c0, .slice A1 0 c1'] 49)).size (fun k hk => by injection hk with hk; have := HB6.out.size; omega)); clear ho0 ho1 hb hB9 hg10)
          | (go_at_call 15; (with_reducible refine (fixed_ok w10).mono ?_); rintro en w14 ⟨rfl, hb⟩; have HB14 := Aside0.mk (below_then HB10.out HB10.out.size hb); clear hb))
        go_ret
        exact ⟨rfl, HB14.out⟩
theorem DiskLoads_ok (A : Option Addr) (c : Nat) (l : List Int) (a1 : Int) (A2 : Option Addr) (n2 c2 : Nat) (w : World) (hC : Kd.C (Kd.int .u8) w A l.length l) (hy : ∀ x ∈ l, (Lit.int .u8 x).wf = true) (ha : (Lit.int .u16 a1).wf = true) : Calls Try.prog 5 #[.slice A l.length c, .int .u16 a1, .slice A2 n2 c2] w fun e w' => e = .returned (.bool true) ∧ Below w.heap.size w w' := by
  have hy' : By l := fun x hx => by
    have := hy x hx
    simp [Lit.wf, IntKind.min, IntKind.max, IntKind.signed, IntKind.bits] at this
    omega
  simp [Lit.wf, IntKind.min, IntKind.max, IntKind.signed, IntKind.bits] at ha
  by_cases h : 20 < l.length ∨ 50 < n2
  · exact DiskLoads_big A l.length c a1 A2 n2 c2 w h
  · exact DiskLoads_walk A c l a1 A2 n2 c2 w hC (by omega) (by omega) hy' (by omega)
end Go.Proofs.Ytolgcohmmghehaa.Dsk
