/- A page is opened: its head, and a reader of what is behind it. Conditions: bytes. -/
import Derived.Test.YtihmkdjambdfjaaLfC
import Derived.Test.YtihmkdjambdfjaaXLeafx3
namespace Go.Proofs.Ytihmkdjambdfjaa.Lf
open Go.RowKit Go.Proofs.YtihmkdjambdfjaaW.PrintWords Go.Proofs.YtihmkdjambdfjaaW.PrintLast Go.Proofs.YtihmkdjambdfjaaW.PrintMore Go.Proofs.Ytihmkdjambdfjaa.XLeaf Go.Proofs.Ytihmkdjambdfjaa.Tk
set_option linter.unusedVariables false
set_option linter.unusedSimpArgs false
set_option maxRecDepth 100000
theorem rdb {xs : List Int} (h : By xs) (i : Int) : 0 ≤ rd xs i ∧ rd xs i ≤ 255 := Byt.By.rdb (l := xs) h i
/-- A page's head: kind, count, next; whether there is one. -/
def dg (b : List Int) : Int × Int × Int × Bool := if b.length = 512 ∧ rd b 1 = 0 then (rd b 0, rd b 2 * 256 + rd b 3, nv ((b.take 8).drop 4), true) else (0, 0, 0, false)
theorem eGet (b : List Int) (hb : By b) : Ev (fun k => disk_Get.f k b) (dg b) := by
  unfold dg
  have hno : ∀ x : Bool, x = true → Ev (fun k => disk_Get.j0 k b x) (0, 0, 0, false) := fun x hx => Ev.step (f := fun _ => some (0, 0, 0, false)) (fun k => by rw [disk_Get.j0, if_pos hx]) (Ev.now _)
  by_cases hl : b.length = 512
  · by_cases h1 : rd b 1 = 0
    · rw [if_pos ⟨hl, h1⟩]
      have hbs : ((b.take 8).drop 4).length = 4 := by simp; omega
      have hby : By ((b.take 8).drop 4) := fun x hx => hb x (List.mem_of_mem_take (List.mem_of_mem_drop hx))
      obtain ⟨bs, e⟩ : ∃ bs, bs = (b.take 8).drop 4 := ⟨_, rfl⟩
      rw [← e] at hbs hby ⊢
      have hend : ∀ a : Int, Ev (fun k => disk_Get.l0 k b a bs 4 4) (rd b 0, rd b 2 * 256 + rd b 3, a, true) := fun a => Ev.step (f := fun _ => some (rd b 0, rd b 2 * 256 + rd b 3, a, true)) (fun k => by
        rw [disk_Get.l0, if_neg (by omega), if_pos (by omega), if_pos (by omega), if_pos (by omega), Byt.or16 _ _ (rdb hb 2) (rdb hb 3)]) (Ev.now _)
      have hst : ∀ i : Nat, i < 4 → Ev (fun k => disk_Get.l0 k b (nv (bs.take (i + 1))) bs 4 ((i + 1 : Nat) : Int)) (rd b 0, rd b 2 * 256 + rd b 3, nv bs, true) → Ev (fun k => disk_Get.l0 k b (nv (bs.take i)) bs 4 (i : Int)) (rd b 0, rd b 2 * 256 + rd b 3, nv bs, true) := fun i hi h => by
        refine Ev.step (fun k => ?_) h
        rw [disk_Get.l0, if_pos (by omega), if_pos (by omega), if_pos (by omega), nv_step bs hby i (by omega) (by omega), wr_s i 4 hi (by omega)]
      have h4 : Ev (fun k => disk_Get.l0 k b (nv (bs.take 4)) bs 4 ((4 : Nat) : Int)) (rd b 0, rd b 2 * 256 + rd b 3, nv bs, true) := by
        rw [List.take_of_length_le (by omega)]
        exact hend _
      have h0 := hst 0 (by omega) (hst 1 (by omega) (hst 2 (by omega) (hst 3 (by omega) h4)))
      refine Ev.congr (f := fun k => disk_Get.j0 k b false) (fun k => by rw [disk_Get.f, if_pos (by omega), if_pos (by omega), h1]; rfl) (Ev.step (fun k => ?_) h0)
      rw [disk_Get.j0, if_neg (by decide), if_pos (by omega), if_pos (by omega), ← e, hbs]
      rfl
    · rw [if_neg (fun h => h1 h.2)]
      exact Ev.congr (fun k => by rw [disk_Get.f, if_pos (by omega), if_pos (by omega)]) (hno _ (by simpa using h1))
  · rw [if_neg (fun h => hl h.1)]
    exact Ev.congr (fun k => by rw [disk_Get.f, if_neg (by omega)]) (hno _ rfl)
theorem get_ok {A : Option Addr} {c : Nat} {b : List Int} {k0 c0 n0 : Int} {o : Bool} (h : dg b = (k0, c0, n0, o)) (w : World) (hC : Kd.C (Kd.int .u8) w A b.length b) (hc : b.length ≤ c) (hb : By b) :
    Calls Try.prog 71 #[.slice A b.length c] w fun e w' => e = .returned (.tuple #[.agg #[.int .u8 k0, .int .u16 c0, .int .u32 n0], .bool o]) ∧ Below w.heap.size w w' := by
  obtain ⟨k, hk⟩ := (eGet b hb).rounds
  rw [h] at hk
  exact disk_Get.calls k A c b k0 c0 n0 o w hC hc hk
theorem results_cell2 {P : Program} {fn : Func} {p u v : Tmp} {ty : TypeId} (h : fn.results = #[.cell p ty, .tmp u, .tmp v]) (tmps : Array Value) (w : World) (g : Nat) (t : TypeId) (cs : Array Value) (fr : Nat × Nat) (d : TypeDesc)
    (hp : tmps.getD p undef = .pointer (some ⟨g, 0, none⟩)) (hg : w.heap[g]? = some (.cells cs t fr))
    (hu : P.underlying ty = some d) (hd : (match d with | .struct _ | .array _ _ => true | _ => false) = true) (hi : (P.info? ty).map (·.size) = some cs.size) :
    (results fn tmps).run P w = .ok (.tuple #[.agg cs, tmps.getD u undef, tmps.getD v undef]) w := by
  have hp' : tmps[p]?.getD undef = .pointer (some ⟨g, 0, none⟩) := by simpa using hp
  simp [results, h, hp', asAddr, run_loadVar_row w g t ty cs fr d hg hu hd hi]
theorem open_none {A : Option Addr} {c : Nat} {b : List Int} {k0 c0 n0 : Int} (kd : Int) (h : dg b = (k0, c0, n0, false)) (w : World) (hC : Kd.C (Kd.int .u8) w A b.length b) (hc : b.length ≤ c) (hb : By b) :
    Calls Try.prog 44 #[.slice A b.length c, .int .u8 kd] w fun e w' => e = .returned (.tuple #[.agg #[.int .u8 0, .int .u16 0, .int .u32 0], .pointer none, .bool false]) ∧ Below w.heap.size w w' := by
  have HC := Aside0.mk (And.intro h (And.intro hC (And.intro hc hb)))
  have HB0 := Aside0.mk (below_alloc (Below.refl w.heap.size w) (.cells #[.int .u8 0, .int .u16 0, .int .u32 0] 76))
  clear h hC hc hb
  go_enter Try.func44, Try.ntmps44
  go_wp2_with (go_at_call 71; (with_reducible refine (get_ok HC.out.1 _ (Kd.C_below HC.out.2.1 HB0.out) HC.out.2.2.1 HC.out.2.2.2).mono ?_); rintro en w1 ⟨rfl, hb⟩; have HB1 := Aside0.mk (below_then HB0.out HB0.out.size hb); have HX1 := Aside0.mk (blk_below (blk_new w (.cells #[.int .u8 0, .int .u16 0, .int .u32 0] 76)) hb); clear hb; have hr0 := (blk_cell HX1.out 0).trans rfl; have hr1 := (blk_cell HX1.out 1).trans rfl; have hr2 := (blk_cell HX1.out 2).trans rfl; have hf0 := blk_frozen HX1.out 0; have hf1 := blk_frozen HX1.out 1; have hf2 := blk_frozen HX1.out 2; have hlt := blk_lt HX1.out)
  refine bodyPost_ret (results_cell2 rfl _ _ w.heap.size 76 #[.int .u8 0, .int .u16 0, .int .u32 0] (0, 0) _ rfl (blk_alloc (blk_put (blk_put (blk_put HX1.out 0 _ rfl) 1 _ rfl) 2 _ rfl) _) Try.underlying76 rfl (by kernel_rfl)) rfl ⟨rfl, ?_⟩
  exact below_alloc (below_set (below_set (below_set HB1.out (Nat.le_refl _)) (Nat.le_refl _)) (Nat.le_refl _)) _
theorem open_other {A : Option Addr} {c : Nat} {b : List Int} {k0 c0 n0 : Int} (kd : Int) (h : dg b = (k0, c0, n0, true)) (hk : (k0 != kd) = true) (w : World) (hC : Kd.C (Kd.int .u8) w A b.length b) (hc : b.length ≤ c) (hb : By b) :
    Calls Try.prog 44 #[.slice A b.length c, .int .u8 kd] w fun e w' => e = .returned (.tuple #[.agg #[.int .u8 0, .int .u16 0, .int .u32 0], .pointer none, .bool false]) ∧ Below w.heap.size w w' := by
  have HC := Aside0.mk (And.intro h (And.intro hC (And.intro hc hb)))
  have HB0 := Aside0.mk (below_alloc (Below.refl w.heap.size w) (.cells #[.int .u8 0, .int .u16 0, .int .u32 0] 76))
  clear h hC hc hb
  go_enter Try.func44, Try.ntmps44
  go_wp2_with (go_at_call 71; (with_reducible refine (get_ok HC.out.1 _ (Kd.C_below HC.out.2.1 HB0.out) HC.out.2.2.1 HC.out.2.2.2).mono ?_); rintro en w1 ⟨rfl, hb⟩; have HB1 := Aside0.mk (below_then HB0.out HB0.out.size hb); have HX1 := Aside0.mk (blk_below (blk_new w (.cells #[.int .u8 0, .int .u16 0, .int .u32 0] 76)) hb); have HY1 := Aside0.mk (blk_new w1 (.cells #[.int .u8 k0, .int .u16 c0, .int .u32 n0] 76)); clear hb; have hr0 := (blk_cell HX1.out 0).trans rfl; have hr1 := (blk_cell HX1.out 1).trans rfl; have hr2 := (blk_cell HX1.out 2).trans rfl; have hf0 := blk_frozen HX1.out 0; have hf1 := blk_frozen HX1.out 1; have hf2 := blk_frozen HX1.out 2; have hlt := blk_lt HX1.out; have hy0 := (blk_cell HY1.out 0).trans rfl)
  refine bodyPost_ret (results_cell2 rfl _ _ w.heap.size 76 #[.int .u8 0, .int .u16 0, .int .u32 0] (0, 0) _ rfl (blk_alloc (blk_put (blk_put (blk_put HX1.out 0 _ rfl) 1 _ rfl) 2 _ rfl) _) Try.underlying76 rfl (by kernel_rfl)) rfl ⟨rfl, ?_⟩
  exact below_alloc (below_set (below_set (below_set HB1.out (Nat.le_refl _)) (Nat.le_refl _)) (Nat.le_refl _)) _
theorem open_some {A : Option Addr} {c : Nat} {b : List Int} {kd c0 n0 : Int} (h : dg b = (kd, c0, n0, true)) (w : World) (hC : Kd.C (Kd.int .u8) w A b.length b) (hc : b.length ≤ c) (hb : By b) (hl : b.length = 512) :
    Calls Try.prog 44 #[.slice A b.length c, .int .u8 kd] w fun e w' => ∃ g, e = .returned (.tuple #[.agg #[.int .u8 kd, .int .u16 c0, .int .u32 n0], .pointer (some ⟨g, 0, none⟩), .bool true]) ∧ Cur w w' g (b.drop 8) false ∧ Below w.heap.size w w' := by
  have HC := Aside0.mk (And.intro h (And.intro hC (And.intro hc (And.intro hb hl))))
  have HB0 := Aside0.mk (below_alloc (Below.refl w.heap.size w) (.cells #[.int .u8 0, .int .u16 0, .int .u32 0] 76))
  have hkk : (kd != kd) = false := by simp
  obtain ⟨i0, hi0, _, hsz, _⟩ := info_parts Tk.info5
  obtain ⟨A', hcut, hA, _⟩ := print_drop_of (P := Try.prog) (Value.int .u8) 0 36 5 .i64 Try.underlying36 hi0 hsz A c b 8 (by omega) (by omega) hc
  have HA := Aside0.mk (Kd.C_of_reads (h1 := fun _ => rfl) (hA w (Kd.reads_of_C hC)))
  clear h hC hc hb hl hi0 hsz hA
  go_enter Try.func44, Try.ntmps44
  go_wp2_with (go_at_call 71; (with_reducible refine (get_ok HC.out.1 _ (Kd.C_below HC.out.2.1 HB0.out) HC.out.2.2.1 HC.out.2.2.2.1).mono ?_); rintro en w1 ⟨rfl, hb⟩; have HB1 := Aside0.mk (below_then HB0.out HB0.out.size hb); have HX1 := Aside0.mk (blk_below (blk_new w (.cells #[.int .u8 0, .int .u16 0, .int .u32 0] 76)) hb); have HY1 := Aside0.mk (blk_new w1 (.cells #[.int .u8 kd, .int .u16 c0, .int .u32 n0] 76)); clear hb; have hr0 := (blk_cell HX1.out 0).trans rfl; have hr1 := (blk_cell HX1.out 1).trans rfl; have hr2 := (blk_cell HX1.out 2).trans rfl; have hf0 := blk_frozen HX1.out 0; have hf1 := blk_frozen HX1.out 1; have hf2 := blk_frozen HX1.out 2; have hlt := blk_lt HX1.out; have hy0 := (blk_cell HY1.out 0).trans rfl; have hy1 := (blk_cell HY1.out 1).trans rfl; have hy2 := (blk_cell HY1.out 2).trans rfl)
  go_region_law (fail)
  all_goals
    go_wp2
    refine bodyPost_ret (results_cell2 rfl _ _ w.heap.size 76 #[.int .u8 kd, .int .u16 c0, .int .u32 n0] (0, 0) _ rfl (blk_drew (blk_alloc (blk_alloc (blk_put (blk_put (blk_put HX1.out 0 _ rfl) 1 _ rfl) 2 _ rfl) _) _)) Try.underlying76 rfl (by kernel_rfl)) rfl ?_
    refine ⟨w1.heap.size + 1, rfl, Cur.mk (A := A') (c := c - 8) (blk_drew ?_) (by rw [List.length_drop]; have := HC.out.2.2.1; omega) (by omega) HA.out, below_drew1 (below_alloc (below_alloc (below_set (below_set (below_set HB1.out (Nat.le_refl _)) (Nat.le_refl _)) (Nat.le_refl _)) _) _)⟩
    rw [List.length_drop, show w1.heap.size + 1 = _ from (by simp [World.setCell] : w1.heap.size + 1 = ((((w1.setCell ⟨w.heap.size, 0, none⟩ (.int .u8 kd)).setCell ⟨w.heap.size, 1, none⟩ (.int .u16 c0)).setCell ⟨w.heap.size, 2, none⟩ (.int .u32 n0)).alloc (.cells #[.int .u8 kd, .int .u16 c0, .int .u32 n0] 76)).heap.size)]
    exact blk_new _ _
end Go.Proofs.Ytihmkdjambdfjaa.Lf
