/- A value's key: what keycode.one gives. Conditions: the value may be. -/
import Derived.Test.YthkanebmkeamlaaDoorKyM
import Derived.Test.YthkanebmkeamlaaDoorKyA
import Derived.Test.YthkanebmkeamlaaDoorXKeyx2
namespace Go.Proofs.YthkanebmkeamlaaDoor.Ky
open Go.RowKit Go.Proofs.YthkanebmkeamlaaDoorW.PrintWords Go.Proofs.YthkanebmkeamlaaDoorW.PrintLast Go.Proofs.YthkanebmkeamlaaDoorW.PrintMore Go.Proofs.YthkanebmkeamlaaDoor.XKey Go.Proofs.YthkanebmkeamlaaDoor.Byt
set_option linter.unusedVariables false
set_option linter.unusedSimpArgs false
set_option maxRecDepth 100000
theorem least_is (k : Int) (h : 0 ≤ k ∧ k ≤ 3) {r : ByteArray} (hr : strOfNums [k + 1] = r) : keycode_Least.f k = some r := by
  subst hr
  rw [keycode_Least.f]
  have : (mn k 4 + 1) % 256 = k + 1 := by unfold mn; split <;> omega
  rw [this]
theorem one_nul (n : Int) (t : ByteArray) (w : World) : Calls Tryd.prog 25 #[.agg #[.int .u8 0, .int .i64 n, .string t]] w fun e w' => e = .returned (.string (strOfNums [1])) ∧ Below w.heap.size w w' := by
  have HB0 := Aside0.mk (below_alloc (Below.refl w.heap.size w) (.cells #[.int .u8 0, .int .i64 n, .string t] 34))
  obtain ⟨s, hs⟩ : ∃ s, strOfNums [(0 : Int) + 1] = s := ⟨_, rfl⟩
  have HS := Aside0.mk (least_is 0 (by omega) hs)
  rw [show strOfNums [1] = s from hs]
  have HX := Aside0.mk (blk_new w (.cells #[.int .u8 0, .int .i64 n, .string t] 34))
  clear hs
  go_enter Tryd.func25, Tryd.ntmps25
  go_wp2_with (go_at_call 15; (with_reducible refine (keycode_Least.calls 0 s _ HS.out).mono ?_); rintro en w1 ⟨rfl, hb⟩; have HB1 := Aside0.mk (below_then HB0.out HB0.out.size hb); have hx := blk_below HX.out hb; have hx0 := (blk_cell hx 0).trans rfl; have hx1 := (blk_cell hx 1).trans rfl; clear hb hx)
  go_ret
  exact ⟨rfl, HB1.out⟩
theorem one_bool (n : Int) (t : ByteArray) (w : World) (hn : 0 ≤ n ∧ n ≤ 1) : Calls Tryd.prog 25 #[.agg #[.int .u8 2, .int .i64 n, .string t]] w fun e w' => e = .returned (.string (strOfNums [3, n])) ∧ Below w.heap.size w w' := by
  have HB0 := Aside0.mk (below_alloc (Below.refl w.heap.size w) (.cells #[.int .u8 2, .int .i64 n, .string t] 34))
  obtain ⟨s, hs⟩ : ∃ s, strOfNums [(2 : Int) + 1] = s := ⟨_, rfl⟩
  obtain ⟨q, hq⟩ : ∃ q, strOfNums [n] = q := ⟨_, rfl⟩
  have HS := Aside0.mk (least_is 2 (by omega) hs)
  have e : strOfNums [3, n] = s ++ q := by rw [← hs, ← hq, ← str_append]; rfl
  have zs : s.size = 1 := by rw [← hs, str_size]; rfl
  have zq : q.size = 1 := by rw [← hq, str_size]; rfl
  have hz : (9223372036854775807 < s.size + q.size) = False := eq_false (by omega)
  have HZ := Aside0.mk hq
  rw [e]
  have hm : n % 256 = n := by omega
  have HX := Aside0.mk (blk_new w (.cells #[.int .u8 2, .int .i64 n, .string t] 34))
  clear hs hq e zs zq hn
  go_enter Tryd.func25, Tryd.ntmps25
  go_wp2_with (first
    | (go_at_call 15; (with_reducible refine (keycode_Least.calls 2 s _ HS.out).mono ?_); rintro en w1 ⟨rfl, hb⟩; have HB1 := Aside0.mk (below_then HB0.out HB0.out.size hb); have hx := blk_below HX.out hb; have hx0 := (blk_cell hx 0).trans rfl; have hx1 := (blk_cell hx 1).trans rfl; clear hb hx)
    | ((with_reducible refine gate_dst (N := 39) rfl ?_); refine Kd.R_lit (Kd.int .u8) (w0 := w) w.heap.size 5 ?hg (N := 39) ?hd (xs := ([n] : List Int)) (inner := [.int .u8 n]) (ok := fun _ => True) (okp := fun _ => True) ?hr ?hp (fun _ hk => hk) trivial HB1.out HB1.out.size (by simp) ?_; (case hd => rfl); (case hg => rfl); (case hr => first | (go_simp; done) | (go_simp; rfl)); (case hp => exact (Reps.one (show Kd.M (Kd.int .u8) _ _ _ n [.int .u8 n] from rfl) (Reps.none _ _))); intro v39 w2 ho hb hg hnw; have hcv := own_string (P := Tryd.prog) (src := 31) (dst := 9) Tryd.underlying31 Tryd.underlying5 Tryd.underlying9 (Kd.own_of_R ho); rw [HZ.out] at hcv; (obtain ⟨A3, c3, e3⟩ := Kd.R_slice ho; replace e3 : v39 = .slice A3 1 c3 := e3; subst e3); have HB2 := Aside0.mk hb; clear ho hb hg hnw))
  go_ret
  exact ⟨rfl, HB2.out⟩
theorem bytes_map (t : ByteArray) : bytesOf t = t.data.toList.map fun b => (b.toNat : Int) := by simp [bytesOf]
theorem str_of_u (l : List UInt8) : strOfNums (l.map fun b => (b.toNat : Int)) = ⟨l.toArray⟩ := by
  apply ByteArray.ext
  apply Array.toList_inj.1
  simp only [strOfNums, List.map_map]
  have h : ((fun n : Int => UInt8.ofNat n.toNat) ∘ fun b : UInt8 => ((b.toNat : Nat) : Int)) = id := by
    funext b
    simp
  rw [h, List.map_id]
theorem esc_len : ∀ s : List UInt8, (escU s).length ≤ 2 * s.length
  | [] => by simp [escU]
  | c :: s => by
    have := esc_len s
    rw [escU]
    split <;> simp <;> omega
theorem cnt_le (t : ByteArray) : Lib.countB t ⟨#[0]⟩ ≤ t.size := Lib.countB_le ⟨#[0]⟩ (by decide) t.size t (Nat.le_refl _)
theorem one_text (n : Int) (t : ByteArray) (m : Int) (w : World) (ht : t.size ≤ 48) (hm : w.cell? ⟨0, 0, none⟩ = some (.int .i64 m)) : Calls Tryd.prog 25 #[.agg #[.int .u8 3, .int .i64 n, .string t]] w fun e w' => e = .returned (.string (strOfNums (4 :: (KeyM.esc (bytesOf t) ++ [0, 1])))) ∧ Below w.heap.size w w' := by
  have HB0 := Aside0.mk (below_alloc (Below.refl w.heap.size w) (.cells #[.int .u8 3, .int .i64 n, .string t] 34))
  obtain ⟨s, hs⟩ : ∃ s, strOfNums [(3 : Int) + 1] = s := ⟨_, rfl⟩
  obtain ⟨q, hq⟩ : ∃ q : ByteArray, ⟨(Lib.replaceAll t.data.toList (⟨#[0]⟩ : ByteArray).data.toList (⟨#[0, 255]⟩ : ByteArray).data.toList).toArray⟩ = q := ⟨_, rfl⟩
  have HS := Aside0.mk (least_is 3 (by omega) hs)
  have hq2 : q = strOfNums (KeyM.esc (bytesOf t)) := by
    rw [← hq, bytes_map, ← toB, str_of_u]
    show (⟨(Lib.replaceAll t.data.toList [0] [0, 255]).toArray⟩ : ByteArray) = _
    rw [rep_esc]
  have zs : s.size = 1 := by rw [← hs, str_size]; rfl
  have zq : q.size ≤ 96 := by
    rw [hq2, str_size, bytes_map, ← toB, List.length_map]
    have := esc_len t.data.toList
    have h2 : t.data.toList.length = t.size := rfl
    omega
  have e : strOfNums (4 :: (KeyM.esc (bytesOf t) ++ [0, 1])) = s ++ q ++ (⟨#[0, 1]⟩ : ByteArray) := by
    rw [← hs, hq2, ← str_append, show (⟨#[0, 1]⟩ : ByteArray) = strOfNums [0, 1] from by rfl, ← str_append]
    rfl
  have hz : (9223372036854775807 < s.size + q.size) = False := eq_false (by omega)
  have z2 : (⟨#[0, 1]⟩ : ByteArray).size = 2 := rfl
  have hz2 : (9223372036854775807 < s.size + q.size + 2) = False := eq_false (by omega)
  have HT := Aside0.mk (And.intro hm (And.intro (show t.size < 4294967281 by omega) (show t.size + Lib.countB t ⟨#[0]⟩ * (⟨#[0, 255]⟩ : ByteArray).size ≤ 140737488355328 by
    have := cnt_le t
    have h2 : (⟨#[0, 255]⟩ : ByteArray).size = 2 := rfl
    rw [h2]
    omega)))
  have HQ := Aside0.mk hq
  rw [e]
  have HX := Aside0.mk (blk_new w (.cells #[.int .u8 3, .int .i64 n, .string t] 34))
  have h0 : 0 < w.heap.size := World.block_lt_of_cell? w _ hm
  have H0 := Aside0.mk h0
  clear hs hq hq2 e zs zq ht hm h0
  go_enter Tryd.func25, Tryd.ntmps25
  go_wp2_with (first
    | (go_at_call 15; (with_reducible refine (keycode_Least.calls 3 s _ HS.out).mono ?_); rintro en w1 ⟨rfl, hb⟩; have HB1 := Aside0.mk (below_then HB0.out HB0.out.size hb); have hx := blk_below HX.out hb; have hx0 := (blk_cell hx 0).trans rfl; have hx1 := (blk_cell hx 1).trans rfl; have hx2 := (blk_cell hx 2).trans rfl; clear hb hx)
    | (go_at_call 32; (with_reducible refine (Tryd.strings_ReplaceAll t ⟨#[0]⟩ ⟨#[0, 255]⟩ m w1 HT.out.2.1 ((HB1.out.cell (p := ⟨0, 0, none⟩) H0.out).trans HT.out.1) (by decide) HT.out.2.2).mono ?_); rintro en w2 ⟨rfl, hb⟩; rw [HQ.out]; have HB2 := Aside0.mk (below_then HB1.out HB1.out.size hb); clear hb))
  go_ret
  exact ⟨rfl, HB2.out⟩
theorem take8 (N : Int) : (KeyM.be 8 N).take 1 = (KeyM.be 8 N).take 0 ++ [N / 72057594037927936 % 256] ∧ (KeyM.be 8 N).take 2 = (KeyM.be 8 N).take 1 ++ [N / 281474976710656 % 256] ∧ (KeyM.be 8 N).take 3 = (KeyM.be 8 N).take 2 ++ [N / 1099511627776 % 256] ∧ (KeyM.be 8 N).take 4 = (KeyM.be 8 N).take 3 ++ [N / 4294967296 % 256] ∧ (KeyM.be 8 N).take 5 = (KeyM.be 8 N).take 4 ++ [N / 16777216 % 256] ∧ (KeyM.be 8 N).take 6 = (KeyM.be 8 N).take 5 ++ [N / 65536 % 256] ∧ (KeyM.be 8 N).take 7 = (KeyM.be 8 N).take 6 ++ [N / 256 % 256] ∧ (KeyM.be 8 N).take 8 = (KeyM.be 8 N).take 7 ++ [N % 256] := by
  rw [be8]
  exact ⟨rfl, rfl, rfl, rfl, rfl, rfl, rfl, rfl⟩
end Go.Proofs.YthkanebmkeamlaaDoor.Ky
