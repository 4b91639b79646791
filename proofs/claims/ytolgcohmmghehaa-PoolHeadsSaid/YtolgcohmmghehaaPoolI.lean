/- A pool's Head; the law PoolHeads. Conditions: stated in each theorem. -/
import Derived.Test.YtolgcohmmghehaaPoolH
import Derived.Test.YtolgcohmmghehaaPureDiskHeads
namespace Go.Proofs.Ytolgcohmmghehaa.Pool
open Go.Proofs.YtolgcohmmghehaaW
open Go.RowKit Go.Proofs.YtolgcohmmghehaaW.PrintWords Go.Proofs.YtolgcohmmghehaaW.PrintLast Go.Proofs.YtolgcohmmghehaaW.PrintMore Go.Proofs.Ytolgcohmmghehaa.Byt Go.Proofs.Ytolgcohmmghehaa.Dsk
open Go.Proofs.Ytolgcohmmghehaa.XDiskHeads
set_option linter.unusedVariables false
set_option linter.unusedSimpArgs false
set_option maxRecDepth 100000
theorem kp_box {w w1 w2 : World} {ok : Nat → Prop} (hb : Below w.heap.size w w1) (hs : w1.heap.size = w.heap.size + 1) (h : Kp w1 w2 (fun k => ok k ∧ k < w.heap.size)) : Kp w w2 ok :=
  ⟨by have := h.size; omega, fun i hi hn => (h.same i (by omega) (fun hk => hn hk.1)).trans (hb.block i hi), h.os.trans hb.os, h.tape.trans hb.tape, h.output.trans hb.output⟩
set_option maxHeartbeats 8000000 in
theorem head_out {w : World} {ok okd : Nat → Prop} {g gd : Nat} {size : Int} {order : List Int} {rd ht : Int} {pgf : Int → List Int} {N : Nat} {d : List Int} {t : List Bool} (h : Pw w ok g gd size order rd ht pgf N) (hd : Dk w okd gd d t) (hsz : 1 ≤ size) (hN : N ≤ 1000000) (p kind : Int) (hp : 0 ≤ p ∧ p < 4294967296) (hpg : ∀ q, pgf q = pg d q.toNat) (h4 : order.length < 4096) (hr : 0 ≤ rd ∧ rd ≤ 1000000 ∧ 0 ≤ ht ∧ ht ≤ 1000000) (hm : ∀ q ∈ order, q < t.length) (hout : (t.length : Int) ≤ p) :
    Calls Try.prog 46 #[.pointer (some ⟨g, 0, none⟩), .int .u32 p, .int .u8 kind] w fun e w' => e = .returned (.tuple #[.agg #[.int .u8 0, .int .u16 0, .int .u32 0], .slice none 0 0, .int .i64 8]) ∧ Kp w w' ok := by
  have HX := Aside0.mk (blk_new w (.cells #[.int .u8 0, .int .u16 0, .int .u32 0] 25))
  have HB := Aside0.mk (below_alloc (Below.refl w.heap.size w) (.cells #[.int .u8 0, .int .u16 0, .int .u32 0] 25))
  have HP1 := Aside0.mk (h.bound.below (below_alloc (Below.refl w.heap.size w) (.cells #[.int .u8 0, .int .u16 0, .int .u32 0] 25)))
  have HD1 := Aside0.mk (hd.alloc (.cells #[.int .u8 0, .int .u16 0, .int .u32 0] 25))
  have HS1 := Aside0.mk (World.size_alloc w (.cells #[.int .u8 0, .int .u16 0, .int .u32 0] 25))
  have HL := Aside0.mk (And.intro hsz (And.intro hN (And.intro hp (And.intro hpg (And.intro h4 (And.intro hr hm))))))
  clear h hd hsz hN hp hpg h4 hr hm
  have HC := Aside0.mk hout
  clear hout
  go_enter Try.func46, Try.ntmps46
  go_wp2_with (go_at_call 38; (with_reducible refine (get_any HP1.out HD1.out HL.out.1 HL.out.2.1 p HL.out.2.2.1 HL.out.2.2.2.1 HL.out.2.2.2.2.1 HL.out.2.2.2.2.2.1 HL.out.2.2.2.2.2.2 [] 8 order rd ht (by rw [if_neg (by have := HC.out; omega)]) (by rw [if_neg (by have := HC.out; omega)]) (by rw [if_neg (by have := HC.out; omega)]) (by rw [if_neg (fun h => by have := HC.out; omega)]) (by rw [if_neg (fun h => by have := HC.out; omega)])).mono ?_); rintro en w4 ⟨A4, c4, rfl, ho, hp4, hk4⟩; have HX2 := Aside0.mk ((hk4.same w.heap.size (by rw [HS1.out]; exact Nat.lt_succ_self _) (fun hk => Nat.lt_irrefl _ hk.2)).trans HX.out); have HK2 := Aside0.mk hk4; clear hk4 hp4 ho; have hx0 := (blk_cell HX2.out 0).trans rfl; have hx1 := (blk_cell HX2.out 1).trans rfl; have hx2 := (blk_cell HX2.out 2).trans rfl; have hf0 := blk_frozen HX2.out 0; have hf1 := blk_frozen HX2.out 1; have hf2 := blk_frozen HX2.out 2)
  have hb0 := blk_put HX2.out 0 (.int .u8 0) rfl
  have hb1 := blk_put hb0 1 (.int .u16 0) rfl
  have hb2 := blk_put hb1 2 (.int .u32 0) rfl
  refine bodyPost_ret (results_ctt rfl _ _ w.heap.size 25 #[.int .u8 0, .int .u16 0, .int .u32 0] (0, 0) _ rfl hb2 Try.underlying25 rfl (by kernel_rfl)) rfl ?_
  have HKF := kp_box HB.out HS1.out HK2.out
  exact ⟨rfl, ((HKF.setCell (p := ⟨w.heap.size, 0, none⟩) (.inr (Nat.le_refl _)) _).setCell (p := ⟨w.heap.size, 1, none⟩) (.inr (Nat.le_refl _)) _).setCell (p := ⟨w.heap.size, 2, none⟩) (.inr (Nat.le_refl _)) _⟩
set_option maxHeartbeats 8000000 in
theorem head_none {w : World} {ok okd : Nat → Prop} {g gd : Nat} {size : Int} {order : List Int} {rd ht : Int} {pgf : Int → List Int} {N : Nat} {d : List Int} {t : List Bool} (h : Pw w ok g gd size order rd ht pgf N) (hd : Dk w okd gd d t) (hsz : 1 ≤ size) (hN : N ≤ 1000000) (p kind : Int) (hp : 0 ≤ p ∧ p < 4294967296) (hpg : ∀ q, pgf q = pg d q.toNat) (h4 : order.length < 4096) (hr : 0 ≤ rd ∧ rd ≤ 1000000 ∧ 0 ≤ ht ∧ ht ≤ 1000000) (hm : ∀ q ∈ order, q < t.length) (hin : p < t.length) (g0 g1 g2 : Int) (gb : Bool) (hgb : gb = false) (hg : disk_Get.f 10 (pg d p.toNat) = some (g0, g1, g2, gb)) :
    Calls Try.prog 46 #[.pointer (some ⟨g, 0, none⟩), .int .u32 p, .int .u8 kind] w fun e w' => e = .returned (.tuple #[.agg #[.int .u8 0, .int .u16 0, .int .u32 0], .slice none 0 0, .int .i64 2]) ∧ Kp w w' ok := by
  have HX := Aside0.mk (blk_new w (.cells #[.int .u8 0, .int .u16 0, .int .u32 0] 25))
  have HB := Aside0.mk (below_alloc (Below.refl w.heap.size w) (.cells #[.int .u8 0, .int .u16 0, .int .u32 0] 25))
  have HP1 := Aside0.mk (h.bound.below (below_alloc (Below.refl w.heap.size w) (.cells #[.int .u8 0, .int .u16 0, .int .u32 0] 25)))
  have HD1 := Aside0.mk (hd.alloc (.cells #[.int .u8 0, .int .u16 0, .int .u32 0] 25))
  have HS1 := Aside0.mk (World.size_alloc w (.cells #[.int .u8 0, .int .u16 0, .int .u32 0] 25))
  have HL := Aside0.mk (And.intro hsz (And.intro hN (And.intro hp (And.intro hpg (And.intro h4 (And.intro hr hm))))))
  clear h hd hsz hN hp hpg h4 hr hm
  obtain ⟨xs, hxs⟩ : ∃ x, x = pg d p.toNat := ⟨_, rfl⟩
  rw [← hxs] at hg
  have HC := Aside0.mk (And.intro hin (And.intro hxs (hg)))
  clear hin hxs hg
  obtain ⟨o2, ho2⟩ : ∃ x, x = lru size order p := ⟨_, rfl⟩
  obtain ⟨r2, hr2⟩ : ∃ x, x = if p < (t.length : Int) ∧ p ∉ order then rd + 1 else rd := ⟨_, rfl⟩
  obtain ⟨h2, hh2⟩ : ∃ x, x = if p < (t.length : Int) ∧ p ∈ order then ht + 1 else ht := ⟨_, rfl⟩
  have HEQ := Aside0.mk (And.intro ho2 (And.intro hr2 hh2))
  clear ho2 hr2 hh2
  go_enter Try.func46, Try.ntmps46
  go_wp2_with (first
    | (go_at_call 38; (with_reducible refine (get_any HP1.out HD1.out HL.out.1 HL.out.2.1 p HL.out.2.2.1 HL.out.2.2.2.1 HL.out.2.2.2.2.1 HL.out.2.2.2.2.2.1 HL.out.2.2.2.2.2.2 xs 0 o2 r2 h2 (by rw [if_pos HC.out.1]; exact HC.out.2.1) (by rw [if_pos HC.out.1]) (by rw [if_pos HC.out.1]; exact HEQ.out.1) HEQ.out.2.1 HEQ.out.2.2).mono ?_); rintro en w4 ⟨A4, c4, rfl, ho, hp4, hk4⟩; have HX2 := Aside0.mk ((hk4.same w.heap.size (by rw [HS1.out]; exact Nat.lt_succ_self _) (fun hk => Nat.lt_irrefl _ hk.2)).trans HX.out); have HK2 := Aside0.mk hk4; have HO2 := Aside0.mk ho; clear hk4 hp4 ho)
    | (go_at_call 17; (with_reducible refine (disk_Get.calls 10 A4 c4 xs g0 g1 g2 gb _ (Kd.R_reads' HO2.out).2.2 (Kd.R_reads' HO2.out).2.1 HC.out.2.2).mono ?_); rintro en w5 ⟨rfl, hb⟩; have HX5 := Aside0.mk (blk_alloc (blk_below HX2.out hb) (.cells #[.int .u8 g0, .int .u16 g1, .int .u32 g2] 25)); have HY5 := Aside0.mk (blk_new w5 (.cells #[.int .u8 g0, .int .u16 g1, .int .u32 g2] 25)); have HO5 := Aside0.mk (Kd.R_alloc (Kd.R_below HO2.out hb) (.cells #[.int .u8 g0, .int .u16 g1, .int .u32 g2] 25)); have HK5 := Aside0.mk ((HK2.out.below hb).below (below_alloc (Below.refl w5.heap.size w5) (.cells #[.int .u8 g0, .int .u16 g1, .int .u32 g2] 25))); clear hb; have hx0 := (blk_cell HX5.out 0).trans rfl; have hx1 := (blk_cell HX5.out 1).trans rfl; have hx2 := (blk_cell HX5.out 2).trans rfl; have hf0 := blk_frozen HX5.out 0; have hf1 := blk_frozen HX5.out 1; have hf2 := blk_frozen HX5.out 2; have hy0 := (blk_cell HY5.out 0).trans rfl; have hy1 := (blk_cell HY5.out 1).trans rfl; have hy2 := (blk_cell HY5.out 2).trans rfl))
  have hb0 := blk_put HX5.out 0 (.int .u8 0) rfl
  have hb1 := blk_put hb0 1 (.int .u16 0) rfl
  have hb2 := blk_put hb1 2 (.int .u32 0) rfl
  refine bodyPost_ret (results_ctt rfl _ _ w.heap.size 25 #[.int .u8 0, .int .u16 0, .int .u32 0] (0, 0) _ rfl hb2 Try.underlying25 rfl (by kernel_rfl)) rfl ?_
  have HKF := kp_box HB.out HS1.out HK5.out
  exact ⟨rfl, ((HKF.setCell (p := ⟨w.heap.size, 0, none⟩) (.inr (Nat.le_refl _)) _).setCell (p := ⟨w.heap.size, 1, none⟩) (.inr (Nat.le_refl _)) _).setCell (p := ⟨w.heap.size, 2, none⟩) (.inr (Nat.le_refl _)) _⟩
set_option maxHeartbeats 8000000 in
theorem head_other {w : World} {ok okd : Nat → Prop} {g gd : Nat} {size : Int} {order : List Int} {rd ht : Int} {pgf : Int → List Int} {N : Nat} {d : List Int} {t : List Bool} (h : Pw w ok g gd size order rd ht pgf N) (hd : Dk w okd gd d t) (hsz : 1 ≤ size) (hN : N ≤ 1000000) (p kind : Int) (hp : 0 ≤ p ∧ p < 4294967296) (hpg : ∀ q, pgf q = pg d q.toNat) (h4 : order.length < 4096) (hr : 0 ≤ rd ∧ rd ≤ 1000000 ∧ 0 ≤ ht ∧ ht ≤ 1000000) (hm : ∀ q ∈ order, q < t.length) (hin : p < t.length) (g0 g1 g2 : Int) (gb : Bool) (hgb : gb = true) (hne : (g0 != kind) = true) (hg : disk_Get.f 10 (pg d p.toNat) = some (g0, g1, g2, gb)) :
    Calls Try.prog 46 #[.pointer (some ⟨g, 0, none⟩), .int .u32 p, .int .u8 kind] w fun e w' => e = .returned (.tuple #[.agg #[.int .u8 0, .int .u16 0, .int .u32 0], .slice none 0 0, .int .i64 2]) ∧ Kp w w' ok := by
  have HX := Aside0.mk (blk_new w (.cells #[.int .u8 0, .int .u16 0, .int .u32 0] 25))
  have HB := Aside0.mk (below_alloc (Below.refl w.heap.size w) (.cells #[.int .u8 0, .int .u16 0, .int .u32 0] 25))
  have HP1 := Aside0.mk (h.bound.below (below_alloc (Below.refl w.heap.size w) (.cells #[.int .u8 0, .int .u16 0, .int .u32 0] 25)))
  have HD1 := Aside0.mk (hd.alloc (.cells #[.int .u8 0, .int .u16 0, .int .u32 0] 25))
  have HS1 := Aside0.mk (World.size_alloc w (.cells #[.int .u8 0, .int .u16 0, .int .u32 0] 25))
  have HL := Aside0.mk (And.intro hsz (And.intro hN (And.intro hp (And.intro hpg (And.intro h4 (And.intro hr hm))))))
  clear h hd hsz hN hp hpg h4 hr hm
  obtain ⟨xs, hxs⟩ : ∃ x, x = pg d p.toNat := ⟨_, rfl⟩
  rw [← hxs] at hg
  have HC := Aside0.mk (And.intro hin (And.intro hxs (hg)))
  clear hin hxs hg
  obtain ⟨o2, ho2⟩ : ∃ x, x = lru size order p := ⟨_, rfl⟩
  obtain ⟨r2, hr2⟩ : ∃ x, x = if p < (t.length : Int) ∧ p ∉ order then rd + 1 else rd := ⟨_, rfl⟩
  obtain ⟨h2, hh2⟩ : ∃ x, x = if p < (t.length : Int) ∧ p ∈ order then ht + 1 else ht := ⟨_, rfl⟩
  have HEQ := Aside0.mk (And.intro ho2 (And.intro hr2 hh2))
  clear ho2 hr2 hh2
  go_enter Try.func46, Try.ntmps46
  go_wp2_with (first
    | (go_at_call 38; (with_reducible refine (get_any HP1.out HD1.out HL.out.1 HL.out.2.1 p HL.out.2.2.1 HL.out.2.2.2.1 HL.out.2.2.2.2.1 HL.out.2.2.2.2.2.1 HL.out.2.2.2.2.2.2 xs 0 o2 r2 h2 (by rw [if_pos HC.out.1]; exact HC.out.2.1) (by rw [if_pos HC.out.1]) (by rw [if_pos HC.out.1]; exact HEQ.out.1) HEQ.out.2.1 HEQ.out.2.2).mono ?_); rintro en w4 ⟨A4, c4, rfl, ho, hp4, hk4⟩; have HX2 := Aside0.mk ((hk4.same w.heap.size (by rw [HS1.out]; exact Nat.lt_succ_self _) (fun hk => Nat.lt_irrefl _ hk.2)).trans HX.out); have HK2 := Aside0.mk hk4; have HO2 := Aside0.mk ho; clear hk4 hp4 ho)
    | (go_at_call 17; (with_reducible refine (disk_Get.calls 10 A4 c4 xs g0 g1 g2 gb _ (Kd.R_reads' HO2.out).2.2 (Kd.R_reads' HO2.out).2.1 HC.out.2.2).mono ?_); rintro en w5 ⟨rfl, hb⟩; have HX5 := Aside0.mk (blk_alloc (blk_below HX2.out hb) (.cells #[.int .u8 g0, .int .u16 g1, .int .u32 g2] 25)); have HY5 := Aside0.mk (blk_new w5 (.cells #[.int .u8 g0, .int .u16 g1, .int .u32 g2] 25)); have HO5 := Aside0.mk (Kd.R_alloc (Kd.R_below HO2.out hb) (.cells #[.int .u8 g0, .int .u16 g1, .int .u32 g2] 25)); have HK5 := Aside0.mk ((HK2.out.below hb).below (below_alloc (Below.refl w5.heap.size w5) (.cells #[.int .u8 g0, .int .u16 g1, .int .u32 g2] 25))); clear hb; have hx0 := (blk_cell HX5.out 0).trans rfl; have hx1 := (blk_cell HX5.out 1).trans rfl; have hx2 := (blk_cell HX5.out 2).trans rfl; have hf0 := blk_frozen HX5.out 0; have hf1 := blk_frozen HX5.out 1; have hf2 := blk_frozen HX5.out 2; have hy0 := (blk_cell HY5.out 0).trans rfl; have hy1 := (blk_cell HY5.out 1).trans rfl; have hy2 := (blk_cell HY5.out 2).trans rfl))
  have hb0 := blk_put HX5.out 0 (.int .u8 0) rfl
  have hb1 := blk_put hb0 1 (.int .u16 0) rfl
  have hb2 := blk_put hb1 2 (.int .u32 0) rfl
  refine bodyPost_ret (results_ctt rfl _ _ w.heap.size 25 #[.int .u8 0, .int .u16 0, .int .u32 0] (0, 0) _ rfl hb2 Try.underlying25 rfl (by kernel_rfl)) rfl ?_
  have HKF := kp_box HB.out HS1.out HK5.out
  exact ⟨rfl, ((HKF.setCell (p := ⟨w.heap.size, 0, none⟩) (.inr (Nat.le_refl _)) _).setCell (p := ⟨w.heap.size, 1, none⟩) (.inr (Nat.le_refl _)) _).setCell (p := ⟨w.heap.size, 2, none⟩) (.inr (Nat.le_refl _)) _⟩
set_option maxHeartbeats 8000000 in
theorem head_good {w : World} {ok okd : Nat → Prop} {g gd : Nat} {size : Int} {order : List Int} {rd ht : Int} {pgf : Int → List Int} {N : Nat} {d : List Int} {t : List Bool} (h : Pw w ok g gd size order rd ht pgf N) (hd : Dk w okd gd d t) (hsz : 1 ≤ size) (hN : N ≤ 1000000) (p kind : Int) (hp : 0 ≤ p ∧ p < 4294967296) (hpg : ∀ q, pgf q = pg d q.toNat) (h4 : order.length < 4096) (hr : 0 ≤ rd ∧ rd ≤ 1000000 ∧ 0 ≤ ht ∧ ht ≤ 1000000) (hm : ∀ q ∈ order, q < t.length) (hin : p < t.length) (g0 g1 g2 : Int) (gb : Bool) (hgb : gb = true) (hne : (g0 != kind) = false) (hg : disk_Get.f 10 (pg d p.toNat) = some (g0, g1, g2, gb)) :
    Calls Try.prog 46 #[.pointer (some ⟨g, 0, none⟩), .int .u32 p, .int .u8 kind] w fun e w' => ∃ A c, e = .returned (.tuple #[.agg #[.int .u8 g0, .int .u16 g1, .int .u32 g2], .slice A (pg d p.toNat).length c, .int .i64 0]) ∧ Kd.R (Kd.int .u8) 5 w' w.heap.size (fun _ => True) (.slice A (pg d p.toNat).length c) (pg d p.toNat) ∧ Kp w w' ok := by
  have HX := Aside0.mk (blk_new w (.cells #[.int .u8 0, .int .u16 0, .int .u32 0] 25))
  have HB := Aside0.mk (below_alloc (Below.refl w.heap.size w) (.cells #[.int .u8 0, .int .u16 0, .int .u32 0] 25))
  have HP1 := Aside0.mk (h.bound.below (below_alloc (Below.refl w.heap.size w) (.cells #[.int .u8 0, .int .u16 0, .int .u32 0] 25)))
  have HD1 := Aside0.mk (hd.alloc (.cells #[.int .u8 0, .int .u16 0, .int .u32 0] 25))
  have HS1 := Aside0.mk (World.size_alloc w (.cells #[.int .u8 0, .int .u16 0, .int .u32 0] 25))
  have HL := Aside0.mk (And.intro hsz (And.intro hN (And.intro hp (And.intro hpg (And.intro h4 (And.intro hr hm))))))
  clear h hd hsz hN hp hpg h4 hr hm
  obtain ⟨xs, hxs⟩ : ∃ x, x = pg d p.toNat := ⟨_, rfl⟩
  rw [← hxs] at hg
  have HC := Aside0.mk (And.intro hin (And.intro hxs (hg)))
  clear hin hxs hg
  obtain ⟨o2, ho2⟩ : ∃ x, x = lru size order p := ⟨_, rfl⟩
  obtain ⟨r2, hr2⟩ : ∃ x, x = if p < (t.length : Int) ∧ p ∉ order then rd + 1 else rd := ⟨_, rfl⟩
  obtain ⟨h2, hh2⟩ : ∃ x, x = if p < (t.length : Int) ∧ p ∈ order then ht + 1 else ht := ⟨_, rfl⟩
  have HEQ := Aside0.mk (And.intro ho2 (And.intro hr2 hh2))
  clear ho2 hr2 hh2
  go_enter Try.func46, Try.ntmps46
  go_wp2_with (first
    | (go_at_call 38; (with_reducible refine (get_any HP1.out HD1.out HL.out.1 HL.out.2.1 p HL.out.2.2.1 HL.out.2.2.2.1 HL.out.2.2.2.2.1 HL.out.2.2.2.2.2.1 HL.out.2.2.2.2.2.2 xs 0 o2 r2 h2 (by rw [if_pos HC.out.1]; exact HC.out.2.1) (by rw [if_pos HC.out.1]) (by rw [if_pos HC.out.1]; exact HEQ.out.1) HEQ.out.2.1 HEQ.out.2.2).mono ?_); rintro en w4 ⟨A4, c4, rfl, ho, hp4, hk4⟩; have HX2 := Aside0.mk ((hk4.same w.heap.size (by rw [HS1.out]; exact Nat.lt_succ_self _) (fun hk => Nat.lt_irrefl _ hk.2)).trans HX.out); have HK2 := Aside0.mk hk4; have HO2 := Aside0.mk ho; clear hk4 hp4 ho)
    | (go_at_call 17; (with_reducible refine (disk_Get.calls 10 A4 c4 xs g0 g1 g2 gb _ (Kd.R_reads' HO2.out).2.2 (Kd.R_reads' HO2.out).2.1 HC.out.2.2).mono ?_); rintro en w5 ⟨rfl, hb⟩; have HX5 := Aside0.mk (blk_alloc (blk_below HX2.out hb) (.cells #[.int .u8 g0, .int .u16 g1, .int .u32 g2] 25)); have HY5 := Aside0.mk (blk_new w5 (.cells #[.int .u8 g0, .int .u16 g1, .int .u32 g2] 25)); have HO5 := Aside0.mk (Kd.R_alloc (Kd.R_below HO2.out hb) (.cells #[.int .u8 g0, .int .u16 g1, .int .u32 g2] 25)); have HK5 := Aside0.mk ((HK2.out.below hb).below (below_alloc (Below.refl w5.heap.size w5) (.cells #[.int .u8 g0, .int .u16 g1, .int .u32 g2] 25))); clear hb; have hx0 := (blk_cell HX5.out 0).trans rfl; have hx1 := (blk_cell HX5.out 1).trans rfl; have hx2 := (blk_cell HX5.out 2).trans rfl; have hf0 := blk_frozen HX5.out 0; have hf1 := blk_frozen HX5.out 1; have hf2 := blk_frozen HX5.out 2; have hy0 := (blk_cell HY5.out 0).trans rfl; have hy1 := (blk_cell HY5.out 1).trans rfl; have hy2 := (blk_cell HY5.out 2).trans rfl))
  have hb0 := blk_put HX5.out 0 (.int .u8 g0) rfl
  have hb1 := blk_put hb0 1 (.int .u16 g1) rfl
  have hb2 := blk_put hb1 2 (.int .u32 g2) rfl
  refine bodyPost_ret (results_ctt rfl _ _ w.heap.size 25 #[.int .u8 g0, .int .u16 g1, .int .u32 g2] (0, 0) _ rfl hb2 Try.underlying25 rfl (by kernel_rfl)) rfl ?_
  have HKF := kp_box HB.out HS1.out HK5.out
  rw [← HC.out.2.1]
  exact ⟨_, _, rfl, Kd.R_set (Kd.R_set (Kd.R_set (Kd.R_lower HO5.out (by rw [HS1.out]; exact Nat.le_succ _)) HX5.out (by decide) 0 _) hb0 (by decide) 1 _) hb1 (by decide) 2 _, ((HKF.setCell (p := ⟨w.heap.size, 0, none⟩) (.inr (Nat.le_refl _)) _).setCell (p := ⟨w.heap.size, 1, none⟩) (.inr (Nat.le_refl _)) _).setCell (p := ⟨w.heap.size, 2, none⟩) (.inr (Nat.le_refl _)) _⟩
theorem Pl.pw {w : World} {ok : Nat → Prop} {g gd : Nat} {size : Int} {order : List Int} {rd ht : Int} {pgf : Int → List Int} {N gm n : Nat} {D : DataW Unit} {vo : Value} (h : Pl w ok g gd size order order rd ht pgf N gm n D vo) : Pw w ok g gd size order rd ht pgf N := ⟨_, _, _, _, h⟩
theorem PoolHeads_big (pages n kind : Int) (A : Option Addr) (m c : Nat) (w : World) (h : pages < 1 ∨ 20 < pages ∨ 512 < m) : Calls Try.prog 11 #[.int .i64 pages, .int .u32 n, .int .u8 kind, .slice A m c] w fun e w' => e = .returned (.bool true) ∧ Below w.heap.size w w' := by
  by_cases h1 : pages < 1
  · have c1 : decide (pages < 1) = true := decide_eq_true h1
    clear h h1
    go_enter Try.func11, Try.ntmps11
    go_wp2_with (go_at_call 35; (with_reducible refine (fixed_ok _).mono ?_); rintro en w1 ⟨rfl, hb⟩; have HB := Aside0.mk hb; clear hb)
    go_ret
    exact ⟨rfl, HB.out⟩
  have c1 : decide (pages < 1) = false := decide_eq_false h1
  by_cases h2 : 20 < pages
  · have c2 : decide (20 < pages) = true := decide_eq_true h2
    clear h h1 h2
    go_enter Try.func11, Try.ntmps11
    go_wp2_with (go_at_call 35; (with_reducible refine (fixed_ok _).mono ?_); rintro en w1 ⟨rfl, hb⟩; have HB := Aside0.mk hb; clear hb)
    go_ret
    exact ⟨rfl, HB.out⟩
  have c2 : decide (20 < pages) = false := decide_eq_false h2
  have c3 : decide (512 < (m : Int)) = true := decide_eq_true (by omega)
  have c3b : decide (512 < m) = true := decide_eq_true (by omega)
  clear h h1 h2
  go_enter Try.func11, Try.ntmps11
  go_wp2_with (go_at_call 35; (with_reducible refine (fixed_ok _).mono ?_); rintro en w1 ⟨rfl, hb⟩; have HB := Aside0.mk hb; clear hb)
  go_ret
  exact ⟨rfl, HB.out⟩
set_option maxHeartbeats 16000000 in
theorem PoolHeads_walk (pages : Nat) (n kind : Int) (A : Option Addr) (c : Nat) (raw : List Int) (w : World) (hp : 1 ≤ pages ∧ pages ≤ 20) (hn : 0 ≤ n ∧ n < 4294967296) (hk : 0 ≤ kind ∧ kind ≤ 255) (hl : raw.length ≤ 512) (hC : Kd.C (Kd.int .u8) w A raw.length raw) (hy : By raw) :
    Calls Try.prog 11 #[.int .i64 (pages : Int), .int .u32 n, .int .u8 kind, .slice A raw.length c] w fun e w' => e = .returned (.bool true) ∧ Below w.heap.size w w' := by
  have c1 : decide ((pages : Int) < 1) = false := decide_eq_false (by omega)
  have c2 : decide (20 < (pages : Int)) = false := decide_eq_false (by omega)
  have c3 : decide (512 < (raw.length : Int)) = false := decide_eq_false (by omega)
  have c3b : decide (512 < raw.length) = false := decide_eq_false (by omega)
  have HL := Aside0.mk (And.intro hp (And.intro hn (And.intro hk (And.intro hl hy))))
  have HC := Aside0.mk hC
  have ne := neq25
  have el := eql25
  clear hp hn hk hl hC hy
  obtain ⟨zs, hzs⟩ : ∃ x, x = List.replicate 512 (0 : Int) := ⟨_, rfl⟩
  have HZ := Aside0.mk (And.intro (show zs.length = 512 by rw [hzs, List.length_replicate]) (show By zs by rw [hzs]; exact By.zeros 512))
  have HZS := Aside0.mk hzs
  clear hzs
  go_enter Try.func11, Try.ntmps11
  go_upto_region 7 with (first
    | (go_at_call 36; (with_reducible refine (begin_ok _ pages HL.out.1).mono ?_); rintro en w1 ⟨gd, d, t, rfl, hd, ht, hy, hb⟩; have HD1 := Aside0.mk hd.bound; have HB1 := Aside0.mk hb; have HT := Aside0.mk (And.intro ht hy); clear hd hb ht hy)
    | ((with_reducible refine gate_dst (N := 34) rfl ?_); refine Kd.R_make (Kd.int .u8) _ 5 rfl (N := 34) rfl 26 _ _ rfl 512 rfl rfl Try.underlying26 (.int .u8 0) 1 Dsk.info5 rfl (by decide) (by omega) 0 (ok := fun _ => True) (okp := fun _ => True) rfl (fun _ hk => hk) trivial (by omega) (by omega) (Below.refl _ _) (Nat.le_refl _) ?_; intro v2 w2 ho2 hb2 hg2 hnew2; rw [show Int.toNat 512 = 512 from rfl, ← HZS.out] at ho2; obtain ⟨g2, cc, e2, hbase, _⟩ := Kd.R_form ho2 (by rw [HZ.out.1]; decide); subst e2; rw [HZ.out.1]; have HO2 := Aside0.mk (And.intro hbase ho2); have HD2 := Aside0.mk (HD1.out.below hb2); have HB2 := Aside0.mk (below_then HB1.out HB1.out.size hb2); have HS2 := Aside0.mk hb2.size; clear ho2 hbase hb2 hg2 hnew2)
    | ((with_reducible refine gate_builtin (b := .copy) (xs := #[.tmp 35, .tmp 36]) rfl ?_); refine copy_cut rfl (.tmp 35) (.tmp 36) 26 26 rfl 5 Try.underlying26 (by kernel_rfl) g2 0 cc zs raw _ _ HO2.out.2 _ A 512 _ c rfl rfl (fun _ => rfl) HL.out.2.2.2.1 (by rw [HZ.out.1]; have := HL.out.2.2.2.1; omega) (Kd.C_below HC.out HB2.out) ?_; intro w4 ho4 hg4; have HD4 := Aside0.mk (HD2.out.step (fun k hk hlt => hg4.block k hlt (by intro e; injection e with e; have h1 := hk.2; have h2 := HO2.out.1; omega))); have HB4 := Aside0.mk (HB2.out.trans ⟨hg4.os, hg4.tape, hg4.output, hg4.size, fun k hk => hg4.block k (by have := HB2.out.size; omega) (by intro e; injection e with e; have h1 := HB1.out.size; have h2 := HO2.out.1; omega)⟩); have HS4 := Aside0.mk hg4.size; have HO4 := Aside0.mk ho4; clear ho4 hg4)
    | (go_at_call 21; (with_reducible refine (write_any HD4.out 0 (some ⟨g2, 0, none⟩) cc (splice zs 0 raw) (by decide) (by decide) (by rw [length_splice _ _ _ (by rw [HZ.out.1]; have := HL.out.2.2.2.1; omega)]; exact HZ.out.1) (by have h := R_Cn HO4.out; rw [HZ.out.1] at h; exact h)).mono ?_); rintro en w5 ⟨rfl, hd, hk, hb⟩; have HD5 := Aside0.mk hd; have HB5 := Aside0.mk (HB4.out.trans (hb w.heap.size (fun _ hk => hk.1))); have HS5 := Aside0.mk hk.1; clear hd hb hk))
  have HT5 := Aside0.mk (show (wrF d t 0 (splice zs 0 raw)).2.1.length = pages ∧ By (wrF d t 0 (splice zs 0 raw)).1 from ⟨by rw [wrF_len]; exact HT.out.1, wrF_by _ _ HT.out.2 (By.splice HZ.out.2 HL.out.2.2.2.2 0)⟩)
  obtain ⟨R5, hR5⟩ : ∃ R, R = wrF d t 0 (splice zs 0 raw) := ⟨_, rfl⟩
  rw [← hR5] at HD5 HT5 ⊢
  clear hR5
  obtain ⟨d5, t5, e5⟩ := R5
  have HD6 : Aside0 (Dk w5 (fun k => w.heap.size ≤ k ∧ k < w1.heap.size) gd d5 t5) := HD5
  have HT6 : Aside0 (t5.length = pages ∧ By d5) := HT5
  have HS6 := Aside0.mk (show w1.heap.size ≤ w5.heap.size by have h2 := HS2.out; have h4 := HS4.out; have h5 := HS5.out; omega)
  have HB6 := HB5
  clear HD5 HT5 HB5 HS5 HS4 HS2 HD4 HB4 HO4 HD2 HB2 HO2 HD1 HB1
  have u1 : n % 18446744073709551616 = n := by have := HL.out.2.1; omega
  have u2 : (pages : Int) % 18446744073709551616 = pages := by have := HL.out.1; omega
  by_cases hout : (pages : Int) ≤ n
  · have cge : decide ((pages : Int) ≤ n) = true := decide_eq_true hout
    have HOUT := Aside0.mk (show (t5.length : Int) ≤ n by have := HT6.out.1; omega)
    clear hout
    go_wp2_with (first
      | (go_at_call 37; (with_reducible refine (new_ok' _ gd 3 (by decide) (fun q => pg d5 q.toNat)).mono ?_); rintro en w6 ⟨ga, gma, rfl, hp, hb⟩; have HPA := Aside0.mk hp.bound.pw; have HD7 := Aside0.mk (HD6.out.below hb); have HB7 := Aside0.mk (below_then HB6.out HB6.out.size hb); have HS7 := Aside0.mk hb.size; clear hp hb)
      | (go_at_call 46; (with_reducible refine (head_out HPA.out HD7.out (by decide) (by decide) n kind HL.out.2.1 (fun _ => rfl) (by decide) (by decide) (by simp) HOUT.out).mono ?_); rintro en w8 ⟨rfl, hk8⟩; have HD8 := Aside0.mk (HD7.out.kept hk8.kept (fun k hk h => by have h1 : k < w1.heap.size := hk.2; have h2 : w5.heap.size ≤ k := h.1; have h3 := HS6.out; omega)); have HB8 := Aside0.mk (HB7.out.trans (hk8.to_below w.heap.size (fun k hk => by have h2 : w5.heap.size ≤ k := hk.1; have h3 := HS6.out; have h4 := HB6.out.size; omega) HB7.out.size)); clear hk8)
      | (go_at_call 35; (with_reducible refine (fixed_ok _).mono ?_); rintro en wb ⟨rfl, hb⟩; have HBb := Aside0.mk (below_then (below_alloc HB8.out (.cells #[.int .u8 0, .int .u16 0, .int .u32 0] 25)) (below_alloc HB8.out (.cells #[.int .u8 0, .int .u16 0, .int .u32 0] 25)).size hb); clear hb))
    go_ret
    exact ⟨rfl, HBb.out⟩
  · have cge : decide ((pages : Int) ≤ n) = false := decide_eq_false hout
    have HIN := Aside0.mk (show n < (t5.length : Int) by have := HT6.out.1; omega)
    clear hout
    obtain ⟨⟨g0, g1, g2, gb⟩, hgR⟩ : ∃ R, R = PureH.getR (pg d5 n.toNat) := ⟨_, rfl⟩
    have hyp : By (pg d5 n.toNat) := (HT6.out.2.drop _).take _
    have hG := PureH.get_f (pg d5 n.toNat) hyp
    have hR := PureH.ref_f (pg d5 n.toNat) hyp
    rw [← hgR] at hG hR
    clear hgR hyp
    have HG := Aside0.mk hG
    have HR := Aside0.mk hR
    clear hG hR
    cases gb
    · skip
      go_wp2_with (first
        | (go_at_call 37; (with_reducible refine (new_ok' _ gd 3 (by decide) (fun q => pg d5 q.toNat)).mono ?_); rintro en w6 ⟨ga, gma, rfl, hp, hb⟩; have HPA := Aside0.mk hp.bound.pw; have HD7 := Aside0.mk (HD6.out.below hb); have HB7 := Aside0.mk (below_then HB6.out HB6.out.size hb); have HS7 := Aside0.mk hb.size; clear hp hb)
        | (go_at_call 46; (with_reducible refine (head_none HPA.out HD7.out (by decide) (by decide) n kind HL.out.2.1 (fun _ => rfl) (by decide) (by decide) (by simp) HIN.out g0 g1 g2 _ rfl HG.out).mono ?_); rintro en w8 ⟨rfl, hk8⟩; have HD8 := Aside0.mk (HD7.out.kept hk8.kept (fun k hk h => by have h1 : k < w1.heap.size := hk.2; have h2 : w5.heap.size ≤ k := h.1; have h3 := HS6.out; omega)); have HB8 := Aside0.mk (HB7.out.trans (hk8.to_below w.heap.size (fun k hk => by have h2 : w5.heap.size ≤ k := hk.1; have h3 := HS6.out; have h4 := HB6.out.size; omega) HB7.out.size)); clear hk8; have HX8 := Aside0.mk (blk_new w8 (.cells #[.int .u8 0, .int .u16 0, .int .u32 0] 25)); have HD8a := Aside0.mk (HD8.out.alloc (.cells #[.int .u8 0, .int .u16 0, .int .u32 0] 25)); have HB8a := Aside0.mk (below_alloc HB8.out (.cells #[.int .u8 0, .int .u16 0, .int .u32 0] 25)))
        | (go_at_call 28; (with_reducible refine (read_in HD8a.out n HL.out.2.1.1 HIN.out).mono ?_); rintro en w9 ⟨v9, rfl, ho, hb⟩; obtain ⟨A9, c9, rfl⟩ := Kd.R_slice ho; have hcv := own_string (P := Try.prog) Try.underlying26 Try.underlying5 Try.underlying9 (Kd.own_of_R ho); have HP9 := Aside0.mk ho; have HX9 := Aside0.mk (blk_below HX8.out hb); have HB9 := Aside0.mk (below_then HB8a.out HB8a.out.size hb); clear ho hb)
        | (go_at_call 19; (with_reducible refine (rowlockref06_Get.calls 10 _ g0 g1 g2 false _ HR.out).mono ?_); rintro en wa ⟨rfl, hb⟩; have HXa := Aside0.mk (blk_alloc (blk_below HX9.out hb) (.cells #[.int .u8 g0, .int .u16 g1, .int .u32 g2] 25)); have HYa := Aside0.mk (blk_new wa (.cells #[.int .u8 g0, .int .u16 g1, .int .u32 g2] 25)); have HPa := Aside0.mk (Kd.R_alloc (Kd.R_below HP9.out hb) (.cells #[.int .u8 g0, .int .u16 g1, .int .u32 g2] 25)); have HBa := Aside0.mk (below_alloc (below_then HB9.out HB9.out.size hb) (.cells #[.int .u8 g0, .int .u16 g1, .int .u32 g2] 25)); clear hb hcv; have hy0 := (blk_cell HYa.out 0).trans rfl)
        | (go_at_call 35; (with_reducible refine (fixed_ok _).mono ?_); rintro en wb ⟨rfl, hb⟩; clear hy0; have HXb := Aside0.mk (blk_below HXa.out hb); have HYb := Aside0.mk (blk_below HYa.out hb); have hx0 := (blk_cell HXb.out 0).trans rfl; have hx1 := (blk_cell HXb.out 1).trans rfl; have hx2 := (blk_cell HXb.out 2).trans rfl; have hy0 := (blk_cell HYb.out 0).trans rfl; have hy1 := (blk_cell HYb.out 1).trans rfl; have hy2 := (blk_cell HYb.out 2).trans rfl; have HBb := Aside0.mk (below_then HBa.out HBa.out.size hb); clear hb))
      go_ret
      exact ⟨by simp, HBb.out⟩
    · by_cases hk : g0 = kind
      · have cne : (g0 != kind) = false := by rw [hk]; exact bne_self_eq_false kind
        clear hk
        go_wp2_with (first
          | (go_at_call 37; (with_reducible refine (new_ok' _ gd 3 (by decide) (fun q => pg d5 q.toNat)).mono ?_); rintro en w6 ⟨ga, gma, rfl, hp, hb⟩; have HPA := Aside0.mk hp.bound.pw; have HD7 := Aside0.mk (HD6.out.below hb); have HB7 := Aside0.mk (below_then HB6.out HB6.out.size hb); have HS7 := Aside0.mk hb.size; clear hp hb)
          | (go_at_call 46; (with_reducible refine (head_good HPA.out HD7.out (by decide) (by decide) n kind HL.out.2.1 (fun _ => rfl) (by decide) (by decide) (by simp) HIN.out g0 g1 g2 _ rfl cne HG.out).mono ?_); rintro en w8 ⟨Ah, ch, rfl, hoh, hk8⟩; have HD8 := Aside0.mk (HD7.out.kept hk8.kept (fun k hk h => by have h1 : k < w1.heap.size := hk.2; have h2 : w5.heap.size ≤ k := h.1; have h3 := HS6.out; omega)); have HB8 := Aside0.mk (HB7.out.trans (hk8.to_below w.heap.size (fun k hk => by have h2 : w5.heap.size ≤ k := hk.1; have h3 := HS6.out; have h4 := HB6.out.size; omega) HB7.out.size)); clear hk8; have HX8 := Aside0.mk (blk_new w8 (.cells #[.int .u8 g0, .int .u16 g1, .int .u32 g2] 25)); have HD8a := Aside0.mk (HD8.out.alloc (.cells #[.int .u8 g0, .int .u16 g1, .int .u32 g2] 25)); have HB8a := Aside0.mk (below_alloc HB8.out (.cells #[.int .u8 g0, .int .u16 g1, .int .u32 g2] 25)); have HO8 := Aside0.mk (Kd.R_alloc hoh (.cells #[.int .u8 g0, .int .u16 g1, .int .u32 g2] 25)); clear hoh)
          | (go_at_call 28; (with_reducible refine (read_in HD8a.out n HL.out.2.1.1 HIN.out).mono ?_); rintro en w9 ⟨v9, rfl, ho, hb⟩; obtain ⟨A9, c9, rfl⟩ := Kd.R_slice ho; have hcv := own_string (P := Try.prog) Try.underlying26 Try.underlying5 Try.underlying9 (Kd.own_of_R ho); have HP9 := Aside0.mk ho; have HX9 := Aside0.mk (blk_below HX8.out hb); have HO9 := Aside0.mk (Kd.R_below HO8.out hb); have HB9 := Aside0.mk (below_then HB8a.out HB8a.out.size hb); clear ho hb)
          | (go_at_call 19; (with_reducible refine (rowlockref06_Get.calls 10 _ g0 g1 g2 true _ HR.out).mono ?_); rintro en wa ⟨rfl, hb⟩; have HXa := Aside0.mk (blk_alloc (blk_below HX9.out hb) (.cells #[.int .u8 g0, .int .u16 g1, .int .u32 g2] 25)); have HYa := Aside0.mk (blk_new wa (.cells #[.int .u8 g0, .int .u16 g1, .int .u32 g2] 25)); have HPa := Aside0.mk (Kd.R_alloc (Kd.R_below HP9.out hb) (.cells #[.int .u8 g0, .int .u16 g1, .int .u32 g2] 25)); have HOa := Aside0.mk (Kd.R_alloc (Kd.R_below HO9.out hb) (.cells #[.int .u8 g0, .int .u16 g1, .int .u32 g2] 25)); have HBa := Aside0.mk (below_alloc (below_then HB9.out HB9.out.size hb) (.cells #[.int .u8 g0, .int .u16 g1, .int .u32 g2] 25)); clear hb hcv; have hy0 := (blk_cell HYa.out 0).trans rfl)
          | (go_at_call 35; (with_reducible refine (fixed_ok _).mono ?_); rintro en wb ⟨rfl, hb⟩; clear hy0; have HXb := Aside0.mk (blk_below HXa.out hb); have HYb := Aside0.mk (blk_below HYa.out hb); have hx0 := (blk_cell HXb.out 0).trans rfl; have hx1 := (blk_cell HXb.out 1).trans rfl; have hx2 := (blk_cell HXb.out 2).trans rfl; have hy0 := (blk_cell HYb.out 0).trans rfl; have hy1 := (blk_cell HYb.out 1).trans rfl; have hy2 := (blk_cell HYb.out 2).trans rfl; have hcvp := own_string (P := Try.prog) Try.underlying26 Try.underlying5 Try.underlying9 (Kd.own_of_R (Kd.R_below HPa.out hb)); have hcvo := own_string (P := Try.prog) Try.underlying26 Try.underlying5 Try.underlying9 (Kd.own_of_R (Kd.R_below HOa.out hb)); have HBb := Aside0.mk (below_then HBa.out HBa.out.size hb); clear hb))
        go_ret
        exact ⟨by simp, HBb.out⟩
      · have cne : (g0 != kind) = true := bne_iff_ne.mpr hk
        clear hk
        go_wp2_with (first
          | (go_at_call 37; (with_reducible refine (new_ok' _ gd 3 (by decide) (fun q => pg d5 q.toNat)).mono ?_); rintro en w6 ⟨ga, gma, rfl, hp, hb⟩; have HPA := Aside0.mk hp.bound.pw; have HD7 := Aside0.mk (HD6.out.below hb); have HB7 := Aside0.mk (below_then HB6.out HB6.out.size hb); have HS7 := Aside0.mk hb.size; clear hp hb)
          | (go_at_call 46; (with_reducible refine (head_other HPA.out HD7.out (by decide) (by decide) n kind HL.out.2.1 (fun _ => rfl) (by decide) (by decide) (by simp) HIN.out g0 g1 g2 _ rfl cne HG.out).mono ?_); rintro en w8 ⟨rfl, hk8⟩; have HD8 := Aside0.mk (HD7.out.kept hk8.kept (fun k hk h => by have h1 : k < w1.heap.size := hk.2; have h2 : w5.heap.size ≤ k := h.1; have h3 := HS6.out; omega)); have HB8 := Aside0.mk (HB7.out.trans (hk8.to_below w.heap.size (fun k hk => by have h2 : w5.heap.size ≤ k := hk.1; have h3 := HS6.out; have h4 := HB6.out.size; omega) HB7.out.size)); clear hk8; have HX8 := Aside0.mk (blk_new w8 (.cells #[.int .u8 0, .int .u16 0, .int .u32 0] 25)); have HD8a := Aside0.mk (HD8.out.alloc (.cells #[.int .u8 0, .int .u16 0, .int .u32 0] 25)); have HB8a := Aside0.mk (below_alloc HB8.out (.cells #[.int .u8 0, .int .u16 0, .int .u32 0] 25)))
          | (go_at_call 28; (with_reducible refine (read_in HD8a.out n HL.out.2.1.1 HIN.out).mono ?_); rintro en w9 ⟨v9, rfl, ho, hb⟩; obtain ⟨A9, c9, rfl⟩ := Kd.R_slice ho; have hcv := own_string (P := Try.prog) Try.underlying26 Try.underlying5 Try.underlying9 (Kd.own_of_R ho); have HP9 := Aside0.mk ho; have HX9 := Aside0.mk (blk_below HX8.out hb); have HB9 := Aside0.mk (below_then HB8a.out HB8a.out.size hb); clear ho hb)
          | (go_at_call 19; (with_reducible refine (rowlockref06_Get.calls 10 _ g0 g1 g2 true _ HR.out).mono ?_); rintro en wa ⟨rfl, hb⟩; have HXa := Aside0.mk (blk_alloc (blk_below HX9.out hb) (.cells #[.int .u8 g0, .int .u16 g1, .int .u32 g2] 25)); have HYa := Aside0.mk (blk_new wa (.cells #[.int .u8 g0, .int .u16 g1, .int .u32 g2] 25)); have HPa := Aside0.mk (Kd.R_alloc (Kd.R_below HP9.out hb) (.cells #[.int .u8 g0, .int .u16 g1, .int .u32 g2] 25)); have HBa := Aside0.mk (below_alloc (below_then HB9.out HB9.out.size hb) (.cells #[.int .u8 g0, .int .u16 g1, .int .u32 g2] 25)); clear hb hcv; have hy0 := (blk_cell HYa.out 0).trans rfl)
          | (go_at_call 35; (with_reducible refine (fixed_ok _).mono ?_); rintro en wb ⟨rfl, hb⟩; clear hy0; have HXb := Aside0.mk (blk_below HXa.out hb); have HYb := Aside0.mk (blk_below HYa.out hb); have hx0 := (blk_cell HXb.out 0).trans rfl; have hx1 := (blk_cell HXb.out 1).trans rfl; have hx2 := (blk_cell HXb.out 2).trans rfl; have hy0 := (blk_cell HYb.out 0).trans rfl; have hy1 := (blk_cell HYb.out 1).trans rfl; have hy2 := (blk_cell HYb.out 2).trans rfl; have HBb := Aside0.mk (below_then HBa.out HBa.out.size hb); clear hb))
        go_ret
        exact ⟨by simp, HBb.out⟩
theorem PoolHeads_ok (pages n kind : Int) (A : Option Addr) (c : Nat) (raw : List Int) (w : World) (hC : Kd.C (Kd.int .u8) w A raw.length raw) (hy : ∀ x ∈ raw, (Lit.int .u8 x).wf = true) (hn : (Lit.int .u32 n).wf = true) (hk : (Lit.int .u8 kind).wf = true) : Calls Try.prog 11 #[.int .i64 pages, .int .u32 n, .int .u8 kind, .slice A raw.length c] w fun e w' => e = .returned (.bool true) ∧ Below w.heap.size w w' := by
  simp [Lit.wf, IntKind.min, IntKind.max, IntKind.signed, IntKind.bits] at hn hk
  have hyb : By raw := fun x hx => by
    have := hy x hx
    simp [Lit.wf, IntKind.min, IntKind.max, IntKind.signed, IntKind.bits] at this
    omega
  by_cases h : pages < 1 ∨ 20 < pages ∨ 512 < raw.length
  · exact PoolHeads_big pages n kind A raw.length c w h
  · obtain ⟨k, rfl⟩ := Int.eq_ofNat_of_zero_le (show 0 ≤ pages by omega)
    exact PoolHeads_walk k n kind A c raw w (by omega) (by omega) (by omega) (by omega) hC hyb
end Go.Proofs.Ytolgcohmmghehaa.Pool
