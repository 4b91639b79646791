/- The law DiskApart is true. Conditions: the numbers are of their kinds. -/
import Derived.Test.YtolgcohmmghehaaDskF
import Derived.Test.YtolgcohmmghehaaKinds
import Derived.Deep.RegionHeld
import Derived.Deep.RegionWith
namespace Go.Proofs.Ytolgcohmmghehaa.Dsk
open Go.RowKit Go.Proofs.YtolgcohmmghehaaW.PrintWords Go.Proofs.YtolgcohmmghehaaW.PrintLast Go.Proofs.YtolgcohmmghehaaW.PrintMore Go.Proofs.Ytolgcohmmghehaa.Byt
set_option linter.unusedVariables false
set_option linter.unusedSimpArgs false
set_option maxRecDepth 100000
theorem DiskApart_big (pages : Int) (A : Option Addr) (n c : Nat) (p b : Int) (w : World) (hbig : pages < 1 ∨ 20 < pages ∨ 100 < n) : Calls Try.prog 4 #[.int .i64 pages, .slice A n c, .int .u32 p, .int .u8 b] w fun e w' => e = .returned (.bool true) ∧ Below w.heap.size w w' := by
  by_cases h1 : pages < 1
  · have c1 : decide (pages < 1) = true := decide_eq_true h1
    clear hbig h1
    go_enter Try.func4, Try.ntmps4
    go_wp2_with (go_at_call 15; (with_reducible refine (fixed_ok _).mono ?_); rintro en w1 ⟨rfl, hb⟩; have HB := Aside0.mk hb; clear hb)
    go_ret
    exact ⟨rfl, HB.out⟩
  have c1 : decide (pages < 1) = false := decide_eq_false h1
  by_cases h2 : 20 < pages
  · have c2 : decide (20 < pages) = true := decide_eq_true h2
    clear hbig h1 h2
    go_enter Try.func4, Try.ntmps4
    go_wp2_with (go_at_call 15; (with_reducible refine (fixed_ok _).mono ?_); rintro en w1 ⟨rfl, hb⟩; have HB := Aside0.mk hb; clear hb)
    go_ret
    exact ⟨rfl, HB.out⟩
  have c2 : decide (20 < pages) = false := decide_eq_false h2
  have c3 : decide (100 < (n : Int)) = true := decide_eq_true (by omega)
  clear hbig h1 h2
  go_enter Try.func4, Try.ntmps4
  go_wp2_with (go_at_call 15; (with_reducible refine (fixed_ok _).mono ?_); rintro en w1 ⟨rfl, hb⟩; have HB := Aside0.mk hb; clear hb)
  go_ret
  exact ⟨rfl, HB.out⟩
/-- An op of the laws: its page and byte are such. -/
def Opw (x : S40) : Prop := 0 ≤ x.f1 ∧ x.f1 < 4294967296 ∧ 0 ≤ x.f2 ∧ x.f2 ≤ 255
theorem op_at {l : List S40} (h : ∀ x ∈ l, Opw x) (i : Int) (h0 : 0 ≤ i) (h1 : i < l.length) : 0 ≤ (rd_T40 l i).f1 ∧ (rd_T40 l i).f1 < 4294967296 ∧ 0 ≤ (rd_T40 l i).f2 ∧ (rd_T40 l i).f2 ≤ 255 := by
  have hi : i.toNat < l.length := by omega
  have e : rd_T40 l i = l[i.toNat] := by rw [rd_T40, List.getD_eq_getElem?_getD, List.getElem?_eq_getElem hi]; rfl
  rw [e]
  exact h _ (List.getElem_mem hi)
theorem sp_take (d bs : List Int) (n : Nat) (h : n ≤ d.length) : (splice d n bs).take n = d.take n := by
  rw [splice, List.take_append, List.take_of_length_le (by rw [List.length_take]; omega), List.length_take, Nat.min_eq_left h, Nat.sub_self, List.take_zero, List.append_nil]
theorem sp_drop (d bs : List Int) (n : Nat) (h : n + 512 ≤ d.length) (hb : bs.length = 512) : (splice d n bs).drop (n + 512) = d.drop (n + 512) := by
  rw [splice, ← List.append_assoc, List.drop_append, List.drop_of_length_le (by rw [List.length_append, List.length_take, hb]; omega), List.nil_append, List.length_append, List.length_take, hb, Nat.min_eq_left (by omega), Nat.sub_self, List.drop_zero]
theorem sp_mid (d bs : List Int) (n : Nat) (h : n + 512 ≤ d.length) (hb : bs.length = 512) : ((splice d n bs).take (n + 512)).drop n = bs := by
  rw [splice, ← List.append_assoc, List.take_append, List.take_of_length_le (by rw [List.length_append, List.length_take, hb]; omega), List.length_append, List.length_take, hb, Nat.min_eq_left (by omega), Nat.sub_self, List.take_zero, List.append_nil, List.drop_append, List.drop_of_length_le (by rw [List.length_take]; omega), List.nil_append, List.length_take, Nat.min_eq_left (by omega), Nat.sub_self, List.drop_zero]
set_option maxHeartbeats 8000000 in
theorem DiskApart_walk (pages : Nat) (A : Option Addr) (c : Nat) (l : List S40) (p b : Int) (w : World) (hC : Kd.C k40 w A l.length l) (hp : 1 ≤ pages ∧ pages ≤ 20) (hl : l.length ≤ 100) (hw : ∀ x ∈ l, Opw x) (hb : 0 ≤ b ∧ b ≤ 255) (hq : 0 ≤ p ∧ p < 4294967296) : Calls Try.prog 4 #[.int .i64 (pages : Int), .slice A l.length c, .int .u32 p, .int .u8 b] w fun e w' => e = .returned (.bool true) ∧ Below w.heap.size w w' := by
  have c1 : decide ((pages : Int) < 1) = false := decide_eq_false (by omega)
  have c2 : decide (20 < (pages : Int)) = false := decide_eq_false (by omega)
  have c3 : decide (100 < (l.length : Int)) = false := decide_eq_false (by omega)
  have HC := Aside0.mk hC
  have HP := Aside0.mk (And.intro hp (And.intro hl (And.intro hb hq)))
  have HW := Aside0.mk hw
  clear hC hp hl hw hb hq
  go_enter Try.func4, Try.ntmps4
  go_wp2_with (go_at_call 20; (with_reducible refine (new_ok _ (pages : Int) (by have := HP.out; omega)).mono ?_); rintro en w1 ⟨g, rfl, hd, hb⟩; rw [Int.toNat_natCast] at hd; have HD := Aside0.mk (And.intro hd (And.intro (show (ld (List.replicate (pages * 512) 0)).length = pages by rw [ld_zeros, List.length_map, List.length_range]) (By.zeros (pages * 512)))); have HB := Aside0.mk hb; clear hd hb)
  go_loopg [36] l.length (fun kq v36 w' => ∃ (i : Int) (d : List Int) (t : List Bool), v36 = .int .i64 i ∧ Aside0 (0 ≤ i ∧ (kq : Int) + i = l.length) ∧ Aside0 (Dk w' (fun k => w.heap.size ≤ k) g d t ∧ t.length = pages ∧ By d) ∧ Aside0 (Below w.heap.size w w'))
  case atStart => exact ⟨0, _, _, rfl, ⟨by omega⟩, HD, HB⟩
  case round =>
    clear HD HB
    obtain ⟨i, d, t, rfl, HI, HD, HB⟩ := hrel
    by_cases c5 : i < (l.length : Int)
    · have c5b : decide (i < (l.length : Int)) = true := decide_eq_true c5
      obtain ⟨ad, e1, hx0, hx1, hx2, hx3⟩ := at_T40 HC.out i HI.out.1 c5
      subst e1
      have HO := Aside0.mk (op_at HW.out i HI.out.1 c5)
      replace hx0 := (HB.out.cell (World.block_lt_of_cell? w _ hx0)).trans hx0
      replace hx1 := (HB.out.cell (World.block_lt_of_cell? w _ hx1)).trans hx1
      replace hx2 := (HB.out.cell (World.block_lt_of_cell? w _ hx2)).trans hx2
      replace hx3 := (HB.out.cell (World.block_lt_of_cell? w _ hx3)).trans hx3
      have p9 : (0 ≤ i) = True := eq_true HI.out.1
      have q9 : (i < (l.length : Int)) = True := eq_true c5
      have HC5 := Aside0.mk c5
      clear c5
      go_wp2
      have HX := Aside0.mk (blk_new wr (.cells #[.int .i64 (rd_T40 l i).f0, .int .u32 (rd_T40 l i).f1, .int .u8 (rd_T40 l i).f2, .bool (rd_T40 l i).f3] 40))
      have HD3 := Aside0.mk (HD.out.1.alloc (.cells #[.int .i64 (rd_T40 l i).f0, .int .u32 (rd_T40 l i).f1, .int .u8 (rd_T40 l i).f2, .bool (rd_T40 l i).f3] 40))
      have HB3 := Aside0.mk (below_alloc HB.out (.cells #[.int .i64 (rd_T40 l i).f0, .int .u32 (rd_T40 l i).f1, .int .u8 (rd_T40 l i).f2, .bool (rd_T40 l i).f3] 40))
      generalize hw3 : wr.alloc (.cells #[.int .i64 (rd_T40 l i).f0, .int .u32 (rd_T40 l i).f1, .int .u8 (rd_T40 l i).f2, .bool (rd_T40 l i).f3] 40) = w3 at HX HD3 HB3 ⊢
      clear hw3 hx0 hx1 hx2 hx3
      have hx1 := (blk_cell HX.out 1).trans rfl
      have hx2 := (blk_cell HX.out 2).trans rfl
      obtain ⟨bs, hbs⟩ : ∃ bs, bs = List.replicate 512 (rd_T40 l i).f2 := ⟨_, rfl⟩
      have HBS := Aside0.mk hbs
      clear hbs
      go_region_with (first
          | (go_at_call 22; (with_reducible refine (page512 (rd_T40 l i).f2 bs HBS.out _).mono ?_); rintro en w4 ⟨A4, c4, rfl, ho, hb⟩; have HO4 := Aside0.mk ho; have HX4 := Aside0.mk (blk_below (blk_drew HX.out) hb); have HD4 := Aside0.mk ((HD3.out.step (w' := w3.drew) (fun _ _ _ => rfl)).below hb); have HB4 := Aside0.mk (below_then (below_drew1 HB3.out) (below_drew1 HB3.out).size hb); clear ho hb; have hx14 := (blk_cell HX4.out 1).trans rfl; have hx24 := (blk_cell HX4.out 2).trans rfl)
          | (go_at_call 21; (with_reducible refine (write_any HD4.out (rd_T40 l i).f1 A4 c4 bs HO.out.1 HO.out.2.1 (by rw [HBS.out]; exact List.length_replicate) (R_Cn HO4.out)).mono ?_); rintro en w5 ⟨rfl, hd, _, hb⟩; have HD5 := Aside0.mk hd; have HB5 := Aside0.mk (HB4.out.trans (hb w.heap.size (fun _ hk => hk))); clear hd hb))
      all_goals
        go_wp2
        go_roundg (gk - 1)
        case measure => have h1 := HI.out; have h2 := HC5.out; omega
        case rel =>
          have h1 := HI.out
          have h2 := HC5.out
          have h3 := HP.out
          exact ⟨i + 1, _, _, by rw [wr_in (i + 1) (by omega)], ⟨by omega⟩, ⟨HD5.out, by rw [wrF_len]; exact HD.out.2.1, wrF_by _ _ HD.out.2.2 (by rw [HBS.out]; exact By.rep HO.out.2.2 512)⟩, HB5⟩
    · have c5b : decide (i < (l.length : Int)) = false := decide_eq_false c5
      clear c5 HI
      obtain ⟨bs, hbs⟩ : ∃ bs, bs = List.replicate 512 b := ⟨_, rfl⟩
      have hbl : bs.length = 512 := by rw [hbs]; exact List.length_replicate
      have HBS := Aside0.mk (And.intro hbs hbl)
      clear hbs hbl
      have hd1 := HD.out.1.2.1
      have hd2 := HD.out.2.1
      have hs1 : (strOfNums d).size = 512 * pages := by rw [str_size, hd1, hd2]
      have wp : wrap64 p = p := wr_in _ (by have := HP.out; omega)
      have wm : wrap64 (512 * (pages : Int)) = 512 * pages := wr_in _ (by have := HP.out; omega)
      have wq : wrap64 (512 * p) = 512 * p := wr_in _ (by have := HP.out; omega)
      have wq2 : wrap64 (512 * p + 512) = 512 * p + 512 := wr_in _ (by have := HP.out; omega)
      have wi2 : IntKind.i64.wrap (512 * p + 512) = 512 * p + 512 := (w64_eq _).trans wq2
      by_cases hpp : p < (t.length : Int)
      · obtain ⟨d2, hd3⟩ : ∃ d2, d2 = splice d (512 * p.toNat) bs := ⟨_, rfl⟩
        have hfit : 512 * p.toNat + bs.length ≤ d.length := by rw [HBS.out.2, hd1]; have := HP.out; omega
        have hs2 : (strOfNums d2).size = 512 * pages := by rw [str_size, hd3, length_splice _ _ _ hfit, hd1, hd2]
        have c7 : decide ((pages : Int) ≤ p) = false := decide_eq_false (by omega)
        have hfit2 : 512 * p.toNat + 512 ≤ d.length := by have := HBS.out.2; omega
        have en : (512 * p).toNat = 512 * p.toNat := by have := HP.out; omega
        have en2 : (512 * p + 512).toNat = 512 * p.toNat + 512 := by have := HP.out; omega
        have q1 : ∀ W : World, _ := strTo d2 (512 * p) (by have := HP.out; omega) (by rw [hd3, length_splice _ _ _ hfit]; omega)
        have q2 : ∀ W : World, _ := strTo d (512 * p) (by have := HP.out; omega) (by omega)
        have q3 : ∀ W : World, _ := strFrom d2 (512 * p + 512) (by have := HP.out; omega) (by rw [hd3, length_splice _ _ _ hfit]; omega)
        have q4 : ∀ W : World, _ := strFrom d (512 * p + 512) (by have := HP.out; omega) (by omega)
        have q5 : ∀ W : World, _ := strMid d2 (512 * p) (512 * p + 512) (by have := HP.out; omega) (by omega) (by rw [hd3, length_splice _ _ _ hfit]; omega)
        rw [en, hd3, sp_take _ _ _ (by omega), ← hd3] at q1
        rw [en] at q2
        rw [en2, hd3, sp_drop _ _ _ hfit2 HBS.out.2, ← hd3] at q3
        rw [en2] at q4
        rw [en, en2, hd3, sp_mid _ _ _ hfit2 HBS.out.2, ← hd3] at q5
        have HPP := Aside0.mk (And.intro hpp hd3)
        clear hpp hd1 hd2 hd3 hfit hfit2 en en2
        go_wp2_with (first
          | (go_at_call 23; (with_reducible refine (image_ok HD.out.1).mono ?_); rintro en w5 ⟨v, rfl, ho, hb⟩; have hcv5 := own_string (P := Try.prog) Try.underlying26 Try.underlying5 Try.underlying9 (Kd.own_of_R ho); have HD5 := Aside0.mk (HD.out.1.below hb); have HB5 := Aside0.mk (below_then HB.out HB.out.size hb); clear ho hb HD HB)
          | (go_at_call 22; (with_reducible refine (page512 b bs HBS.out.1 _).mono ?_); rintro en w6 ⟨A6, c6, rfl, ho, hb⟩; have HO6 := Aside0.mk ho; have HD6 := Aside0.mk (HD5.out.below hb); have HB6 := Aside0.mk (below_then HB5.out HB5.out.size hb); clear ho hb HD5 HB5)
          | (go_at_call 21; (with_reducible refine (write_ok HD6.out p A6 c6 bs HP.out.2.2.2.1 HPP.out.1 HBS.out.2 (R_Cn HO6.out)).mono ?_); rintro en w7 ⟨rfl, hd, _, hb⟩; rw [← HPP.out.2] at hd; have HD7 := Aside0.mk hd; have HB7 := Aside0.mk (HB6.out.trans (hb w.heap.size (fun _ hk => hk))); clear hd hb HD6 HB6)
          | (go_at_call 23; (with_reducible refine (image_ok HD7.out).mono ?_); rintro en w8 ⟨v, rfl, ho, hb⟩; have hcv8 := own_string (P := Try.prog) Try.underlying26 Try.underlying5 Try.underlying9 (Kd.own_of_R ho); have HB8 := Aside0.mk (below_then HB7.out HB7.out.size hb); clear ho hb HB7))
        go_region_held (fun W : World => Below w.heap.size w W) (repeat (first | exact HBa.out | exact HBb.out | exact HB8.out | apply below_alloc | apply pw_below_drewN | apply below_drew1)) (first
          | (go_at_call 15; (with_reducible refine (fixed_ok _).mono ?_); rintro en w9 ⟨rfl, hb⟩; have HBa := Aside0.mk (below_then (B := w.heap.size) (by repeat (first | exact HBa.out | exact HBb.out | exact HB8.out | apply below_alloc | apply pw_below_drewN | apply below_drew1)) (Below.size (by repeat (first | exact HBa.out | exact HBb.out | exact HB8.out | apply below_alloc | apply pw_below_drewN | apply below_drew1))) hb); (try have hcv15 := own_string (P := Try.prog) Try.underlying26 Try.underlying5 Try.underlying9 (Kd.own_of_R (Kd.R_below HOb.out hb))); clear hb)
          | (go_at_call 22; (with_reducible refine (page512 b bs HBS.out.1 _).mono ?_); rintro en w10 ⟨A10, c10, rfl, ho, hb⟩; have HBb := Aside0.mk (below_then (B := w.heap.size) (by repeat (first | exact HBa.out | exact HBb.out | exact HB8.out | apply below_alloc | apply pw_below_drewN | apply below_drew1)) (Below.size (by repeat (first | exact HBa.out | exact HBb.out | exact HB8.out | apply below_alloc | apply pw_below_drewN | apply below_drew1))) hb); have hcv22 := own_string (P := Try.prog) Try.underlying26 Try.underlying5 Try.underlying9 (Kd.own_of_R ho); have HOb := Aside0.mk ho; clear ho hb))
        all_goals
          go_wp2
          go_ret
          exact ⟨rfl, (by repeat (first | exact HBa.out | exact HBb.out | exact HB8.out | apply below_alloc | apply pw_below_drewN | apply below_drew1))⟩
      · have c7 : decide ((pages : Int) ≤ p) = true := decide_eq_true (by omega)
        have HPP := Aside0.mk (show (t.length : Int) ≤ p by omega)
        clear hpp hd1 hd2
        go_wp2_with (first
          | (go_at_call 23; (with_reducible refine (image_ok HD.out.1).mono ?_); rintro en w5 ⟨v, rfl, ho, hb⟩; have hcv5 := own_string (P := Try.prog) Try.underlying26 Try.underlying5 Try.underlying9 (Kd.own_of_R ho); have HD5 := Aside0.mk (HD.out.1.below hb); have HB5 := Aside0.mk (below_then HB.out HB.out.size hb); clear ho hb HD HB)
          | (go_at_call 22; (with_reducible refine (page512 b bs HBS.out.1 _).mono ?_); rintro en w6 ⟨A6, c6, rfl, ho, hb⟩; have HO6 := Aside0.mk ho; have HD6 := Aside0.mk (HD5.out.below hb); have HB6 := Aside0.mk (below_then HB5.out HB5.out.size hb); clear ho hb HD5 HB5)
          | (go_at_call 21; (with_reducible refine (write_out HD6.out p _ HP.out.2.2.2.1 HPP.out HP.out.2.2.2.2).mono ?_); rintro en w7 ⟨rfl, rfl⟩)
          | (go_at_call 23; (with_reducible refine (image_ok HD6.out).mono ?_); rintro en w8 ⟨v, rfl, ho, hb⟩; have hcv8 := own_string (P := Try.prog) Try.underlying26 Try.underlying5 Try.underlying9 (Kd.own_of_R ho); have HB8 := Aside0.mk (below_then HB6.out HB6.out.size hb); clear ho hb HB6)
          | (go_at_call 15; (with_reducible refine (fixed_ok _).mono ?_); rintro en w9 ⟨rfl, hb⟩; have HB9 := Aside0.mk (below_then HB8.out HB8.out.size hb); clear hb))
        go_ret
        exact ⟨rfl, HB9.out⟩
theorem DiskApart_ok (pages : Int) (A : Option Addr) (c : Nat) (l : List S40) (p b : Int) (w : World) (hC : Kd.C k40 w A l.length l) (hw : ∀ x ∈ l, Opw x) (hq : (Lit.int .u32 p).wf = true) (hb : (Lit.int .u8 b).wf = true) : Calls Try.prog 4 #[.int .i64 pages, .slice A l.length c, .int .u32 p, .int .u8 b] w fun e w' => e = .returned (.bool true) ∧ Below w.heap.size w w' := by
  simp [Lit.wf, IntKind.min, IntKind.max, IntKind.signed, IntKind.bits] at hq hb
  by_cases h : pages < 1 ∨ 20 < pages ∨ 100 < l.length
  · exact DiskApart_big pages A l.length c p b w h
  · obtain ⟨m, rfl⟩ := Int.eq_ofNat_of_zero_le (show 0 ≤ pages by omega)
    exact DiskApart_walk m A c l p b w hC (by omega) (by omega) hw (by omega) (by omega)
end Go.Proofs.Ytolgcohmmghehaa.Dsk
