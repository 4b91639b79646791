/- A value's key: a whole number's; the text behind others. Conditions: stated in each theorem. -/
import Derived.Test.YthkanebmkeamlaaDoorKyC
namespace Go.Proofs.YthkanebmkeamlaaDoor.Ky
open Go.RowKit Go.Proofs.YthkanebmkeamlaaDoorW.PrintWords Go.Proofs.YthkanebmkeamlaaDoorW.PrintLast Go.Proofs.YthkanebmkeamlaaDoorW.PrintMore Go.Proofs.YthkanebmkeamlaaDoor.XKey Go.Proofs.YthkanebmkeamlaaDoor.Byt
set_option linter.unusedVariables false
set_option linter.unusedSimpArgs false
set_option maxRecDepth 100000
set_option maxHeartbeats 4000000 in
theorem one_int (n : Int) (t : ByteArray) (w : World) (hn : -9223372036854775808 ≤ n ∧ n ≤ 9223372036854775807) : Calls Tryd.prog 25 #[.agg #[.int .u8 1, .int .i64 n, .string t]] w fun e w' => e = .returned (.string (strOfNums (2 :: KeyM.be 8 (n + 9223372036854775808)))) ∧ Below w.heap.size w w' := by
  have HB0 := Aside0.mk (below_alloc (Below.refl w.heap.size w) (.cells #[.int .u8 1, .int .i64 n, .string t] 34))
  obtain ⟨s, hs⟩ : ∃ s, strOfNums [(1 : Int) + 1] = s := ⟨_, rfl⟩
  obtain ⟨N, hN⟩ : ∃ N, n + 9223372036854775808 = N := ⟨_, rfl⟩
  have HS := Aside0.mk (least_is 1 (by omega) hs)
  have HSS := Aside0.mk hs
  have zs : s.size = 1 := by rw [← hs, str_size]; rfl
  have hf := flipN n hn
  have hf2 := hf
  rw [u64_eq] at hf2
  rw [hN] at hf hf2 ⊢
  have kb := fun W => print_bytes (P := Tryd.prog) 9 31 5 Tryd.underlying9 Tryd.underlying31 Tryd.underlying5 s W
  have HX := Aside0.mk (blk_new w (.cells #[.int .u8 1, .int .i64 n, .string t] 34))
  have hN0 : 0 ≤ N := by omega
  clear hs hN hn
  go_enter Tryd.func25, Tryd.ntmps25
  go_wp2_with (go_at_call 15; (with_reducible refine (keycode_Least.calls 1 s _ HS.out).mono ?_); rintro en w1 ⟨rfl, hb⟩; have HB1 := Aside0.mk (below_then HB0.out HB0.out.size hb); have hx := blk_below HX.out hb; have hx0 := (blk_cell hx 0).trans rfl; have hx1 := (blk_cell hx 1).trans rfl; have hy1 := ((below_then (bytes_below (Below.refl w1.heap.size w1) (Nat.le_refl _) 5 s) (by rw [Lib.bytesWorld_size]; omega) (Below.refl _ _)).cell (p := ⟨w.heap.size, 1, none⟩) (blk_lt hx)).trans hx1; clear hb hx)
  have HR0 := Aside0.mk (HSS.out ▸ RV.bytes w1 [2] (fun x hx => by rw [List.mem_singleton.1 hx]; omega) (by decide) : RV (Lib.bytesWorld w1 5 s) w1.heap.size (.slice (some ⟨w1.heap.size, 0, none⟩) ([2] : List Int).length (grownCap w1 ([2] : List Int).length 0 5)) [2])
  have HBB := Aside0.mk (bytes_below HB1.out HB1.out.size 5 s)
  go_loopg [4, 6] 8 (fun kq v4 v6 w' => ∃ (q : Nat) (sh : Int), v6 = .int .i64 sh ∧ Aside0 (q + kq = 8) ∧ Aside0 (sh = 56 - 8 * (q : Int)) ∧ Aside0 (RV w' w.heap.size v4 ([2] ++ (KeyM.be 8 N).take q)) ∧ Aside0 (Below w.heap.size w w'))
  case atStart => exact ⟨0, 56, rfl, ⟨rfl⟩, ⟨rfl⟩, ⟨by
    obtain ⟨g, cap, e, hr⟩ := HR0.out
    exact ⟨g, cap, e, ⟨Nat.le_trans HB1.out.size hr.hB, hr.len, hr.max, hr.blk⟩⟩⟩, HBB⟩
  case round =>
    clear HR0 HBB hx0 hx1 hy1
    obtain ⟨q, sh, rfl, HK, HQ, HV, HB⟩ := hrel
    obtain ⟨g, cap, e, hr⟩ := HV.out
    obtain ⟨nn, hnn⟩ : ∃ nn, ([2] ++ (KeyM.be 8 N).take q).length = nn := ⟨_, rfl⟩
    rw [hnn] at e
    have HNN := Aside0.mk hnn
    clear hnn
    subst e
    have hq : q = 0 ∨ q = 1 ∨ q = 2 ∨ q = 3 ∨ q = 4 ∨ q = 5 ∨ q = 6 ∨ q = 7 ∨ q = 8 := by have := HK.out; omega
    have HR := Aside0.mk hr
    clear hr
    rcases hq with rfl | rfl | rfl | rfl | rfl | rfl | rfl | rfl | rfl
    · obtain rfl : sh = 56 := by have := HQ.out; omega
      have HV2 := Aside0.mk HV.out
      clear HQ
      go_wp2_with ((with_reducible refine gate_builtin (b := .append) (xs := #[.tmp 24, .tmp 29]) rfl ?_); obtain ⟨v', w2, hrun, hv, hb⟩ := RV.append HV.out (N / 72057594037927936 % 256) HB.out.size (by first | (simp; done) | (simp; omega)) 31; obtain ⟨g', cap', e', hr'⟩ := hv; subst e'; refine list_run rfl (.tmp 24) (.tmp 29) 31 31 rfl rfl rfl hrun ?_; have HV3 := Aside0.mk hr'; have HB3 := Aside0.mk (HB.out.trans hb); clear hrun hr' hb)
      go_roundg (gk - 1)
      case measure => have h2 := HK.out; omega
      case rel => exact ⟨1, 48, by first | rfl | go_num, ⟨by have := HK.out; omega⟩, ⟨by omega⟩, ⟨by rw [(take8 N).1, ← List.append_assoc]; exact ⟨g', cap', rfl, HV3.out⟩⟩, HB3⟩
    · obtain rfl : sh = 48 := by have := HQ.out; omega
      have HV2 := Aside0.mk HV.out
      clear HQ
      go_wp2_with ((with_reducible refine gate_builtin (b := .append) (xs := #[.tmp 24, .tmp 29]) rfl ?_); obtain ⟨v', w2, hrun, hv, hb⟩ := RV.append HV.out (N / 281474976710656 % 256) HB.out.size (by first | (simp; done) | (simp; omega)) 31; obtain ⟨g', cap', e', hr'⟩ := hv; subst e'; refine list_run rfl (.tmp 24) (.tmp 29) 31 31 rfl rfl rfl hrun ?_; have HV3 := Aside0.mk hr'; have HB3 := Aside0.mk (HB.out.trans hb); clear hrun hr' hb)
      go_roundg (gk - 1)
      case measure => have h2 := HK.out; omega
      case rel => exact ⟨2, 40, by first | rfl | go_num, ⟨by have := HK.out; omega⟩, ⟨by omega⟩, ⟨by rw [(take8 N).2.1, ← List.append_assoc]; exact ⟨g', cap', rfl, HV3.out⟩⟩, HB3⟩
    · obtain rfl : sh = 40 := by have := HQ.out; omega
      have HV2 := Aside0.mk HV.out
      clear HQ
      go_wp2_with ((with_reducible refine gate_builtin (b := .append) (xs := #[.tmp 24, .tmp 29]) rfl ?_); obtain ⟨v', w2, hrun, hv, hb⟩ := RV.append HV.out (N / 1099511627776 % 256) HB.out.size (by first | (simp; done) | (simp; omega)) 31; obtain ⟨g', cap', e', hr'⟩ := hv; subst e'; refine list_run rfl (.tmp 24) (.tmp 29) 31 31 rfl rfl rfl hrun ?_; have HV3 := Aside0.mk hr'; have HB3 := Aside0.mk (HB.out.trans hb); clear hrun hr' hb)
      go_roundg (gk - 1)
      case measure => have h2 := HK.out; omega
      case rel => exact ⟨3, 32, by first | rfl | go_num, ⟨by have := HK.out; omega⟩, ⟨by omega⟩, ⟨by rw [(take8 N).2.2.1, ← List.append_assoc]; exact ⟨g', cap', rfl, HV3.out⟩⟩, HB3⟩
    · obtain rfl : sh = 32 := by have := HQ.out; omega
      have HV2 := Aside0.mk HV.out
      clear HQ
      go_wp2_with ((with_reducible refine gate_builtin (b := .append) (xs := #[.tmp 24, .tmp 29]) rfl ?_); obtain ⟨v', w2, hrun, hv, hb⟩ := RV.append HV.out (N / 4294967296 % 256) HB.out.size (by first | (simp; done) | (simp; omega)) 31; obtain ⟨g', cap', e', hr'⟩ := hv; subst e'; refine list_run rfl (.tmp 24) (.tmp 29) 31 31 rfl rfl rfl hrun ?_; have HV3 := Aside0.mk hr'; have HB3 := Aside0.mk (HB.out.trans hb); clear hrun hr' hb)
      go_roundg (gk - 1)
      case measure => have h2 := HK.out; omega
      case rel => exact ⟨4, 24, by first | rfl | go_num, ⟨by have := HK.out; omega⟩, ⟨by omega⟩, ⟨by rw [(take8 N).2.2.2.1, ← List.append_assoc]; exact ⟨g', cap', rfl, HV3.out⟩⟩, HB3⟩
    · obtain rfl : sh = 24 := by have := HQ.out; omega
      have HV2 := Aside0.mk HV.out
      clear HQ
      go_wp2_with ((with_reducible refine gate_builtin (b := .append) (xs := #[.tmp 24, .tmp 29]) rfl ?_); obtain ⟨v', w2, hrun, hv, hb⟩ := RV.append HV.out (N / 16777216 % 256) HB.out.size (by first | (simp; done) | (simp; omega)) 31; obtain ⟨g', cap', e', hr'⟩ := hv; subst e'; refine list_run rfl (.tmp 24) (.tmp 29) 31 31 rfl rfl rfl hrun ?_; have HV3 := Aside0.mk hr'; have HB3 := Aside0.mk (HB.out.trans hb); clear hrun hr' hb)
      go_roundg (gk - 1)
      case measure => have h2 := HK.out; omega
      case rel => exact ⟨5, 16, by first | rfl | go_num, ⟨by have := HK.out; omega⟩, ⟨by omega⟩, ⟨by rw [(take8 N).2.2.2.2.1, ← List.append_assoc]; exact ⟨g', cap', rfl, HV3.out⟩⟩, HB3⟩
    · obtain rfl : sh = 16 := by have := HQ.out; omega
      have HV2 := Aside0.mk HV.out
      clear HQ
      go_wp2_with ((with_reducible refine gate_builtin (b := .append) (xs := #[.tmp 24, .tmp 29]) rfl ?_); obtain ⟨v', w2, hrun, hv, hb⟩ := RV.append HV.out (N / 65536 % 256) HB.out.size (by first | (simp; done) | (simp; omega)) 31; obtain ⟨g', cap', e', hr'⟩ := hv; subst e'; refine list_run rfl (.tmp 24) (.tmp 29) 31 31 rfl rfl rfl hrun ?_; have HV3 := Aside0.mk hr'; have HB3 := Aside0.mk (HB.out.trans hb); clear hrun hr' hb)
      go_roundg (gk - 1)
      case measure => have h2 := HK.out; omega
      case rel => exact ⟨6, 8, by first | rfl | go_num, ⟨by have := HK.out; omega⟩, ⟨by omega⟩, ⟨by rw [(take8 N).2.2.2.2.2.1, ← List.append_assoc]; exact ⟨g', cap', rfl, HV3.out⟩⟩, HB3⟩
    · obtain rfl : sh = 8 := by have := HQ.out; omega
      have HV2 := Aside0.mk HV.out
      clear HQ
      go_wp2_with ((with_reducible refine gate_builtin (b := .append) (xs := #[.tmp 24, .tmp 29]) rfl ?_); obtain ⟨v', w2, hrun, hv, hb⟩ := RV.append HV.out (N / 256 % 256) HB.out.size (by first | (simp; done) | (simp; omega)) 31; obtain ⟨g', cap', e', hr'⟩ := hv; subst e'; refine list_run rfl (.tmp 24) (.tmp 29) 31 31 rfl rfl rfl hrun ?_; have HV3 := Aside0.mk hr'; have HB3 := Aside0.mk (HB.out.trans hb); clear hrun hr' hb)
      go_roundg (gk - 1)
      case measure => have h2 := HK.out; omega
      case rel => exact ⟨7, 0, by first | rfl | go_num, ⟨by have := HK.out; omega⟩, ⟨by omega⟩, ⟨by rw [(take8 N).2.2.2.2.2.2.1, ← List.append_assoc]; exact ⟨g', cap', rfl, HV3.out⟩⟩, HB3⟩
    · obtain rfl : sh = 0 := by have := HQ.out; omega
      have HV2 := Aside0.mk HV.out
      clear HQ
      go_wp2_with ((with_reducible refine gate_builtin (b := .append) (xs := #[.tmp 24, .tmp 29]) rfl ?_); obtain ⟨v', w2, hrun, hv, hb⟩ := RV.append HV.out (N % 256) HB.out.size (by first | (simp; done) | (simp; omega)) 31; obtain ⟨g', cap', e', hr'⟩ := hv; subst e'; refine list_run rfl (.tmp 24) (.tmp 29) 31 31 rfl rfl rfl hrun ?_; have HV3 := Aside0.mk hr'; have HB3 := Aside0.mk (HB.out.trans hb); clear hrun hr' hb)
      go_roundg (gk - 1)
      case measure => have h2 := HK.out; omega
      case rel => exact ⟨8, -8, by first | rfl | go_num, ⟨by have := HK.out; omega⟩, ⟨by omega⟩, ⟨by rw [(take8 N).2.2.2.2.2.2.2, ← List.append_assoc]; exact ⟨g', cap', rfl, HV3.out⟩⟩, HB3⟩
    · obtain rfl : sh = -8 := by have := HQ.out; omega
      have hcv := Kd.C_string (P := Tryd.prog) (c := cap) Tryd.underlying31 Tryd.underlying5 Tryd.underlying9 (HNN.out ▸ (RV.C HV.out).1)
      have HE := Aside0.mk (show strOfNums ([2] ++ (KeyM.be 8 N).take 8) = strOfNums (2 :: KeyM.be 8 N) by rw [List.take_of_length_le (by rw [KeyM.be_len]; omega)]; rfl)
      rw [HE.out] at hcv
      clear HQ
      go_wp2
      go_ret
      exact ⟨rfl, HB.out⟩
end Go.Proofs.YthkanebmkeamlaaDoor.Ky
