/- A pool over a disk, whatever it keeps: a page is got, with its head. Conditions: the pool's blocks are known (Px), the disk's, too. -/
import Derived.Test.YtpfegfkniilobaaPoolEHI
import Derived.Test.YtpfegfkniilobaaHpH
import Derived.Test.YtpfegfkniilobaaXHeapx3
namespace Go.Proofs.Ytpfegfkniilobaa.Hp
open Go.RowKit Go.Proofs.YtpfegfkniilobaaW.PrintWords Go.Proofs.YtpfegfkniilobaaW.PrintLast Go.Proofs.YtpfegfkniilobaaW.PrintMore Go.Proofs.Ytpfegfkniilobaa.Byt Go.Proofs.Ytpfegfkniilobaa.Dsk Go.Proofs.Ytpfegfkniilobaa.XHeap
open Go.Proofs.Ytpfegfkniilobaa.Pool (Pw lru get_any)
set_option linter.unusedVariables false
set_option linter.unusedSimpArgs false
set_option maxRecDepth 100000
/-- A pool over a disk's pages, whatever it keeps; K bounds what was counted. -/
def Px (w : World) (ok : Nat → Prop) (g gd : Nat) (d : List Int) (t : List Bool) (K : Nat) : Prop :=
  ∃ size order rd ht, 1 ≤ size ∧ size ≤ 300 ∧ Pw w ok g gd size order rd ht (fun p => pg d p.toNat) K ∧ (∀ q ∈ order, q < (t.length : Int)) ∧ (0 ≤ rd ∧ rd ≤ K ∧ 0 ≤ ht ∧ ht ≤ K)
section
variable {w w' : World} {ok ok' okd : Nat → Prop} {g gd : Nat} {d : List Int} {t : List Bool} {K : Nat}
theorem Px.step (h : Px w ok g gd d t K) (hm : ∀ k, ok k → k < w.heap.size → w'.heap[k]? = w.heap[k]?) : Px w' ok g gd d t K := by
  obtain ⟨s, o, r, hh, h1, h2, h3, h4⟩ := h
  exact ⟨s, o, r, hh, h1, h2, h3.step hm, h4⟩
theorem Px.below (h : Px w ok g gd d t K) (hb : Below w.heap.size w w') : Px w' ok g gd d t K := h.step fun k _ hk => hb.block k hk
theorem Px.mono (h : Px w ok g gd d t K) (hm : ∀ k, ok k → ok' k) : Px w ok' g gd d t K := by
  obtain ⟨s, o, r, hh, h1, h2, h3, h4⟩ := h
  exact ⟨s, o, r, hh, h1, h2, h3.mono hm, h4⟩
theorem Px.bound (h : Px w ok g gd d t K) : Px w (fun k => ok k ∧ k < w.heap.size) g gd d t K := by
  obtain ⟨s, o, r, hh, h1, h2, h3, h4⟩ := h
  exact ⟨s, o, r, hh, h1, h2, h3.bound, h4⟩
theorem lru_in {size : Int} {order : List Int} {p q : Int} (h : q ∈ lru size order p) : q ∈ order ∨ q = p := by
  unfold lru at h
  split at h
  · rcases List.mem_append.1 h with h | h
    · exact .inl (List.mem_of_mem_erase h)
    · exact .inr (List.mem_singleton.1 h)
  · rcases List.mem_append.1 h with h | h
    · split at h
      · exact .inl (List.mem_of_mem_drop h)
      · exact .inl h
    · exact .inr (List.mem_singleton.1 h)
/-- What is got of a page. -/
def getX (d : List Int) (t : List Bool) (p : Int) : List Int × Int := if p < t.length then (pg d p.toNat, 0) else ([], 8)
theorem get_px (h : Px w ok g gd d t K) (hd : Dk w okd gd d t) (hK : K ≤ 900000) (p : Int) (hp : 0 ≤ p ∧ p < 4294967296) :
    Calls Try.prog 92 #[.pointer (some ⟨g, 0, none⟩), .int .u32 p] w fun e w' => ∃ A c, e = .returned (.tuple #[.slice A (getX d t p).1.length c, .int .i64 (getX d t p).2]) ∧ Kd.R (Kd.int .u8) 5 w' w.heap.size (fun _ => True) (.slice A (getX d t p).1.length c) (getX d t p).1 ∧ Px w' (fun k => (ok k ∨ w.heap.size ≤ k) ∧ some k ≠ (Value.slice A (getX d t p).1.length c).ownBlock) g gd d t (K + 1) ∧ Pool.Kp w w' ok := by
  obtain ⟨s, o, r, hh, h1, h2, h3, h4, h5⟩ := h
  have hlen := h3.len
  refine (get_any h3 hd h1 (by omega) p hp (fun _ => rfl) (by omega) (by omega) h4 (getX d t p).1 (getX d t p).2 _ _ _ (by unfold getX; split <;> rfl) (by unfold getX; split <;> rfl) rfl rfl rfl).mono ?_
  rintro e w' ⟨A, c, rfl, hr, hw, hk⟩
  refine ⟨A, c, rfl, hr, ⟨s, _, _, _, h1, h2, hw, ?_, ?_⟩, hk⟩
  · intro q hq
    split at hq
    · rename_i hpt
      rcases lru_in hq with h | h
      · exact h4 q h
      · rw [h]; exact hpt
    · exact h4 q hq
  · split <;> split <;> omega
/-- A page of a kind, as Head gives it: the head, the bytes, the error. -/
def headX (d : List Int) (t : List Bool) (p kind : Int) : (Int × Int × Int) × List Int × Int :=
  if p < t.length then
    (if (PureSl.getR (pg d p.toNat)).2.2.2 = true ∧ (PureSl.getR (pg d p.toNat)).1 = kind then (((PureSl.getR (pg d p.toNat)).1, (PureSl.getR (pg d p.toNat)).2.1, (PureSl.getR (pg d p.toNat)).2.2.1), pg d p.toNat, 0) else ((0, 0, 0), [], 2))
  else ((0, 0, 0), [], 8)
theorem results_ctt1 {P : Program} {fn : Func} {p u v : Tmp} {ty : TypeId} (h : fn.results = #[.cell p ty, .tmp u, .tmp v]) (tmps : Array Value) (w : World) (g : Nat) (t : TypeId) (cs : Array Value) (fr : Nat × Nat) (d : TypeDesc)
    (hp : tmps.getD p undef = .pointer (some ⟨g, 0, none⟩)) (hg : w.heap[g]? = some (.cells cs t fr))
    (hu : P.underlying ty = some d) (hd : (match d with | .struct _ | .array _ _ => true | _ => false) = true) (hi : (P.info? ty).map (·.size) = some cs.size) :
    (results fn tmps).run P w = .ok (.tuple #[.agg cs, tmps.getD u undef, tmps.getD v undef]) w := by
  have hp' : tmps[p]?.getD undef = .pointer (some ⟨g, 0, none⟩) := by simpa using hp
  simp [results, h, hp', asAddr, run_loadVar_row w g t ty cs fr d hg hu hd hi]
abbrev Z130 : Obj := .cells #[.int .u8 0, .int .u16 0, .int .u32 0] 130
theorem px_far3 {g' : Nat} (h : Px w ok g gd d t K) (hn : ∀ k, ok k → k ≠ g') (u0 u1 u2 : Value) : Px (((w.setCell ⟨g', 0, none⟩ u0).setCell ⟨g', 1, none⟩ u1).setCell ⟨g', 2, none⟩ u2) ok g gd d t K :=
  h.step fun k hk _ => (Below.heap_setCell _ ⟨g', 2, none⟩ u2 k (hn k hk)).trans ((Below.heap_setCell _ ⟨g', 1, none⟩ u1 k (hn k hk)).trans (Below.heap_setCell w ⟨g', 0, none⟩ u0 k (hn k hk)))
set_option maxHeartbeats 8000000 in
theorem headx_out (h : Px w ok g gd d t K) (hd : Dk w okd gd d t) (hK : K ≤ 900000) (p kind : Int) (hp : 0 ≤ p ∧ p < 4294967296) (hout : ¬ p < t.length) :
    Calls Try.prog 53 #[.pointer (some ⟨g, 0, none⟩), .int .u32 p, .int .u8 kind] w fun e w' => ∃ A c, e = .returned (.tuple #[.agg #[.int .u8 0, .int .u16 0, .int .u32 0], .slice A ([] : List Int).length c, .int .i64 8]) ∧ Kd.R (Kd.int .u8) 5 w' w.heap.size (fun _ => True) (.slice A ([] : List Int).length c) [] ∧ Px w' (fun k => (ok k ∨ w.heap.size ≤ k) ∧ some k ≠ (.slice A ([] : List Int).length c : Value).ownBlock) g gd d t (K + 1) ∧ Pool.Kp w w' ok := by
  have HX := Aside0.mk (blk_new w Z130)
  have HB := Aside0.mk (below_alloc (Below.refl w.heap.size w) Z130)
  have HS := Aside0.mk (World.size_alloc w Z130)
  have hg := get_px (h.bound.below (below_alloc (Below.refl _ _) Z130)) (hd.alloc Z130) hK p hp
  rw [show getX d t p = ([], 8) by unfold getX; rw [if_neg hout]] at hg
  have HGT := Aside0.mk hg
  clear h hd hK hp hg hout
  go_enter Try.func53, Try.ntmps53
  go_wp2_with (go_at_call 92; (with_reducible refine HGT.out.mono ?_); rintro en w4 ⟨A4, c4, rfl, ho, hp4, hk4⟩; have HX2 := Aside0.mk ((hk4.same w.heap.size (by rw [HS.out]; exact Nat.lt_succ_self _) (fun hk => Nat.lt_irrefl _ hk.2)).trans HX.out); have HK2 := Aside0.mk hk4; have HP2 := Aside0.mk hp4; have HO2 := Aside0.mk ho; clear hk4 hp4 ho; have hx0 := (blk_cell HX2.out 0).trans rfl; have hx1 := (blk_cell HX2.out 1).trans rfl; have hx2 := (blk_cell HX2.out 2).trans rfl; have hf0 := blk_frozen HX2.out 0; have hf1 := blk_frozen HX2.out 1; have hf2 := blk_frozen HX2.out 2; have hxl := blk_lt HX2.out)
  have hb0 := blk_put (cs' := #[.int .u8 0, .int .u16 0, .int .u32 0]) HX2.out 0 (.int .u8 0) rfl
  have hb1 := blk_put (cs' := #[.int .u8 0, .int .u16 0, .int .u32 0]) hb0 1 (.int .u16 0) rfl
  have hb2 := blk_put (cs' := #[.int .u8 0, .int .u16 0, .int .u32 0]) hb1 2 (.int .u32 0) rfl
  refine bodyPost_ret (results_ctt1 rfl _ _ w.heap.size 130 #[.int .u8 0, .int .u16 0, .int .u32 0] (0, 0) _ rfl hb2 Try.underlying130 rfl (by kernel_rfl)) rfl ?_
  have HKF := Pool.kp_box HB.out HS.out HK2.out
  have hpx := px_far3 (g' := w.heap.size) HP2.out (fun k hk => by have h1 := hk.1; rw [HS.out] at h1; rcases h1 with h1 | h1 <;> omega) (.int .u8 0) (.int .u16 0) (.int .u32 0)
  refine ⟨none, 0, rfl, Kd.R_nil _ _ _ _ _, hpx.mono (fun k hk => ⟨?_, ?_⟩), ((HKF.setCell (p := ⟨w.heap.size, 0, none⟩) (.inr (Nat.le_refl _)) _).setCell (p := ⟨w.heap.size, 1, none⟩) (.inr (Nat.le_refl _)) _).setCell (p := ⟨w.heap.size, 2, none⟩) (.inr (Nat.le_refl _)) _⟩
  · have h1 := hk.1
    rw [HS.out] at h1
    exact h1.elim (fun h => .inl h.1) (fun h => .inr (by omega))
  · simp [Value.ownBlock]
set_option maxHeartbeats 8000000 in
theorem headx_none (h : Px w ok g gd d t K) (hd : Dk w okd gd d t) (hK : K ≤ 900000) (p kind : Int) (hp : 0 ≤ p ∧ p < 4294967296) (hin : p < t.length) (xs : List Int) (hxs : xs = pg d p.toNat) (g0 g1 g2 : Int) (gb : Bool) (hge : disk_Get.f 10 xs = some (g0, g1, g2, gb)) (hgb : gb = false) :
    Calls Try.prog 53 #[.pointer (some ⟨g, 0, none⟩), .int .u32 p, .int .u8 kind] w fun e w' => ∃ A c, e = .returned (.tuple #[.agg #[.int .u8 0, .int .u16 0, .int .u32 0], .slice A ([] : List Int).length c, .int .i64 2]) ∧ Kd.R (Kd.int .u8) 5 w' w.heap.size (fun _ => True) (.slice A ([] : List Int).length c) ([] : List Int) ∧ Px w' (fun k => (ok k ∨ w.heap.size ≤ k) ∧ some k ≠ (.slice A ([] : List Int).length c : Value).ownBlock) g gd d t (K + 1) ∧ Pool.Kp w w' ok := by
  have HX := Aside0.mk (blk_new w Z130)
  have HB := Aside0.mk (below_alloc (Below.refl w.heap.size w) Z130)
  have HS := Aside0.mk (World.size_alloc w Z130)
  have hg := get_px (h.bound.below (below_alloc (Below.refl _ _) Z130)) (hd.alloc Z130) hK p hp
  rw [show getX d t p = (xs, 0) by unfold getX; rw [if_pos hin, hxs]] at hg
  have HGT := Aside0.mk hg
  subst hgb
  have HGE := Aside0.mk hge
  clear h hd hK hp hg hin hxs hge
  go_enter Try.func53, Try.ntmps53
  go_wp2_with (first | (go_at_call 92; (with_reducible refine HGT.out.mono ?_); rintro en w4 ⟨A4, c4, rfl, ho, hp4, hk4⟩; have HX2 := Aside0.mk ((hk4.same w.heap.size (by rw [HS.out]; exact Nat.lt_succ_self _) (fun hk => Nat.lt_irrefl _ hk.2)).trans HX.out); have HK2 := Aside0.mk hk4; have HP2 := Aside0.mk hp4; have HO2 := Aside0.mk ho; clear hk4 hp4 ho) | (go_at_call 93; (with_reducible refine (disk_Get.calls 10 A4 c4 xs g0 g1 g2 false _ (Kd.R_reads' HO2.out).2.2 (Kd.R_reads' HO2.out).2.1 HGE.out).mono ?_); rintro en w5 ⟨rfl, hb⟩; have HX5 := Aside0.mk (blk_alloc (blk_below HX2.out hb) (.cells #[.int .u8 g0, .int .u16 g1, .int .u32 g2] 130)); have HY5 := Aside0.mk (blk_new w5 (.cells #[.int .u8 g0, .int .u16 g1, .int .u32 g2] 130)); have HO5 := Aside0.mk (Kd.R_alloc (Kd.R_below HO2.out hb) (.cells #[.int .u8 g0, .int .u16 g1, .int .u32 g2] 130)); have HP5 := Aside0.mk ((HP2.out.below hb).below (below_alloc (Below.refl w5.heap.size w5) (.cells #[.int .u8 g0, .int .u16 g1, .int .u32 g2] 130))); have HK5 := Aside0.mk ((HK2.out.below hb).below (below_alloc (Below.refl w5.heap.size w5) (.cells #[.int .u8 g0, .int .u16 g1, .int .u32 g2] 130))); clear hb; have hx0 := (blk_cell HX5.out 0).trans rfl; have hx1 := (blk_cell HX5.out 1).trans rfl; have hx2 := (blk_cell HX5.out 2).trans rfl; have hf0 := blk_frozen HX5.out 0; have hf1 := blk_frozen HX5.out 1; have hf2 := blk_frozen HX5.out 2; have hxl := blk_lt HX5.out; have hy0 := (blk_cell HY5.out 0).trans rfl; have hy1 := (blk_cell HY5.out 1).trans rfl; have hy2 := (blk_cell HY5.out 2).trans rfl))
  have hb0 := blk_put (cs' := #[.int .u8 0, .int .u16 0, .int .u32 0]) HX5.out 0 (.int .u8 0) rfl
  have hb1 := blk_put (cs' := #[.int .u8 0, .int .u16 0, .int .u32 0]) hb0 1 (.int .u16 0) rfl
  have hb2 := blk_put (cs' := #[.int .u8 0, .int .u16 0, .int .u32 0]) hb1 2 (.int .u32 0) rfl
  refine bodyPost_ret (results_ctt1 rfl _ _ w.heap.size 130 #[.int .u8 0, .int .u16 0, .int .u32 0] (0, 0) _ rfl hb2 Try.underlying130 rfl (by kernel_rfl)) rfl ?_
  have HKF := Pool.kp_box HB.out HS.out HK5.out
  have hpx := px_far3 (g' := w.heap.size) HP5.out (fun k hk => by have h1 := hk.1; rw [HS.out] at h1; rcases h1 with h1 | h1 <;> omega) (.int .u8 0) (.int .u16 0) (.int .u32 0)
  refine ⟨none, 0, rfl, Kd.R_nil _ _ _ _ _, hpx.mono (fun k hk => ⟨?_, ?_⟩), ((HKF.setCell (p := ⟨w.heap.size, 0, none⟩) (.inr (Nat.le_refl _)) _).setCell (p := ⟨w.heap.size, 1, none⟩) (.inr (Nat.le_refl _)) _).setCell (p := ⟨w.heap.size, 2, none⟩) (.inr (Nat.le_refl _)) _⟩
  · have h1 := hk.1
    rw [HS.out] at h1
    exact h1.elim (fun h => .inl h.1) (fun h => .inr (by omega))
  · simp [Value.ownBlock]
set_option maxHeartbeats 8000000 in
theorem headx_other (h : Px w ok g gd d t K) (hd : Dk w okd gd d t) (hK : K ≤ 900000) (p kind : Int) (hp : 0 ≤ p ∧ p < 4294967296) (hin : p < t.length) (xs : List Int) (hxs : xs = pg d p.toNat) (g0 g1 g2 : Int) (gb : Bool) (hge : disk_Get.f 10 xs = some (g0, g1, g2, gb)) (hgb : gb = true) (hne : (g0 != kind) = true) :
    Calls Try.prog 53 #[.pointer (some ⟨g, 0, none⟩), .int .u32 p, .int .u8 kind] w fun e w' => ∃ A c, e = .returned (.tuple #[.agg #[.int .u8 0, .int .u16 0, .int .u32 0], .slice A ([] : List Int).length c, .int .i64 2]) ∧ Kd.R (Kd.int .u8) 5 w' w.heap.size (fun _ => True) (.slice A ([] : List Int).length c) ([] : List Int) ∧ Px w' (fun k => (ok k ∨ w.heap.size ≤ k) ∧ some k ≠ (.slice A ([] : List Int).length c : Value).ownBlock) g gd d t (K + 1) ∧ Pool.Kp w w' ok := by
  have HX := Aside0.mk (blk_new w Z130)
  have HB := Aside0.mk (below_alloc (Below.refl w.heap.size w) Z130)
  have HS := Aside0.mk (World.size_alloc w Z130)
  have hg := get_px (h.bound.below (below_alloc (Below.refl _ _) Z130)) (hd.alloc Z130) hK p hp
  rw [show getX d t p = (xs, 0) by unfold getX; rw [if_pos hin, hxs]] at hg
  have HGT := Aside0.mk hg
  subst hgb
  have HGE := Aside0.mk hge
  clear h hd hK hp hg hin hxs hge
  go_enter Try.func53, Try.ntmps53
  go_wp2_with (first | (go_at_call 92; (with_reducible refine HGT.out.mono ?_); rintro en w4 ⟨A4, c4, rfl, ho, hp4, hk4⟩; have HX2 := Aside0.mk ((hk4.same w.heap.size (by rw [HS.out]; exact Nat.lt_succ_self _) (fun hk => Nat.lt_irrefl _ hk.2)).trans HX.out); have HK2 := Aside0.mk hk4; have HP2 := Aside0.mk hp4; have HO2 := Aside0.mk ho; clear hk4 hp4 ho) | (go_at_call 93; (with_reducible refine (disk_Get.calls 10 A4 c4 xs g0 g1 g2 true _ (Kd.R_reads' HO2.out).2.2 (Kd.R_reads' HO2.out).2.1 HGE.out).mono ?_); rintro en w5 ⟨rfl, hb⟩; have HX5 := Aside0.mk (blk_alloc (blk_below HX2.out hb) (.cells #[.int .u8 g0, .int .u16 g1, .int .u32 g2] 130)); have HY5 := Aside0.mk (blk_new w5 (.cells #[.int .u8 g0, .int .u16 g1, .int .u32 g2] 130)); have HO5 := Aside0.mk (Kd.R_alloc (Kd.R_below HO2.out hb) (.cells #[.int .u8 g0, .int .u16 g1, .int .u32 g2] 130)); have HP5 := Aside0.mk ((HP2.out.below hb).below (below_alloc (Below.refl w5.heap.size w5) (.cells #[.int .u8 g0, .int .u16 g1, .int .u32 g2] 130))); have HK5 := Aside0.mk ((HK2.out.below hb).below (below_alloc (Below.refl w5.heap.size w5) (.cells #[.int .u8 g0, .int .u16 g1, .int .u32 g2] 130))); clear hb; have hx0 := (blk_cell HX5.out 0).trans rfl; have hx1 := (blk_cell HX5.out 1).trans rfl; have hx2 := (blk_cell HX5.out 2).trans rfl; have hf0 := blk_frozen HX5.out 0; have hf1 := blk_frozen HX5.out 1; have hf2 := blk_frozen HX5.out 2; have hxl := blk_lt HX5.out; have hy0 := (blk_cell HY5.out 0).trans rfl; have hy1 := (blk_cell HY5.out 1).trans rfl; have hy2 := (blk_cell HY5.out 2).trans rfl))
  have hb0 := blk_put (cs' := #[.int .u8 0, .int .u16 0, .int .u32 0]) HX5.out 0 (.int .u8 0) rfl
  have hb1 := blk_put (cs' := #[.int .u8 0, .int .u16 0, .int .u32 0]) hb0 1 (.int .u16 0) rfl
  have hb2 := blk_put (cs' := #[.int .u8 0, .int .u16 0, .int .u32 0]) hb1 2 (.int .u32 0) rfl
  refine bodyPost_ret (results_ctt1 rfl _ _ w.heap.size 130 #[.int .u8 0, .int .u16 0, .int .u32 0] (0, 0) _ rfl hb2 Try.underlying130 rfl (by kernel_rfl)) rfl ?_
  have HKF := Pool.kp_box HB.out HS.out HK5.out
  have hpx := px_far3 (g' := w.heap.size) HP5.out (fun k hk => by have h1 := hk.1; rw [HS.out] at h1; rcases h1 with h1 | h1 <;> omega) (.int .u8 0) (.int .u16 0) (.int .u32 0)
  refine ⟨none, 0, rfl, Kd.R_nil _ _ _ _ _, hpx.mono (fun k hk => ⟨?_, ?_⟩), ((HKF.setCell (p := ⟨w.heap.size, 0, none⟩) (.inr (Nat.le_refl _)) _).setCell (p := ⟨w.heap.size, 1, none⟩) (.inr (Nat.le_refl _)) _).setCell (p := ⟨w.heap.size, 2, none⟩) (.inr (Nat.le_refl _)) _⟩
  · have h1 := hk.1
    rw [HS.out] at h1
    exact h1.elim (fun h => .inl h.1) (fun h => .inr (by omega))
  · simp [Value.ownBlock]
set_option maxHeartbeats 8000000 in
theorem headx_good (h : Px w ok g gd d t K) (hd : Dk w okd gd d t) (hK : K ≤ 900000) (p kind : Int) (hp : 0 ≤ p ∧ p < 4294967296) (hin : p < t.length) (xs : List Int) (hxs : xs = pg d p.toNat) (g0 g1 g2 : Int) (gb : Bool) (hge : disk_Get.f 10 xs = some (g0, g1, g2, gb)) (hgb : gb = true) (hne : (g0 != kind) = false) :
    Calls Try.prog 53 #[.pointer (some ⟨g, 0, none⟩), .int .u32 p, .int .u8 kind] w fun e w' => ∃ A c, e = .returned (.tuple #[.agg #[.int .u8 g0, .int .u16 g1, .int .u32 g2], .slice A xs.length c, .int .i64 0]) ∧ Kd.R (Kd.int .u8) 5 w' w.heap.size (fun _ => True) (.slice A xs.length c) xs ∧ Px w' (fun k => (ok k ∨ w.heap.size ≤ k) ∧ some k ≠ (.slice A xs.length c : Value).ownBlock) g gd d t (K + 1) ∧ Pool.Kp w w' ok := by
  have HX := Aside0.mk (blk_new w Z130)
  have HB := Aside0.mk (below_alloc (Below.refl w.heap.size w) Z130)
  have HS := Aside0.mk (World.size_alloc w Z130)
  have hg := get_px (h.bound.below (below_alloc (Below.refl _ _) Z130)) (hd.alloc Z130) hK p hp
  rw [show getX d t p = (xs, 0) by unfold getX; rw [if_pos hin, hxs]] at hg
  have HGT := Aside0.mk hg
  subst hgb
  have HGE := Aside0.mk hge
  clear h hd hK hp hg hin hxs hge
  go_enter Try.func53, Try.ntmps53
  go_wp2_with (first | (go_at_call 92; (with_reducible refine HGT.out.mono ?_); rintro en w4 ⟨A4, c4, rfl, ho, hp4, hk4⟩; have HX2 := Aside0.mk ((hk4.same w.heap.size (by rw [HS.out]; exact Nat.lt_succ_self _) (fun hk => Nat.lt_irrefl _ hk.2)).trans HX.out); have HK2 := Aside0.mk hk4; have HP2 := Aside0.mk hp4; have HO2 := Aside0.mk ho; clear hk4 hp4 ho) | (go_at_call 93; (with_reducible refine (disk_Get.calls 10 A4 c4 xs g0 g1 g2 true _ (Kd.R_reads' HO2.out).2.2 (Kd.R_reads' HO2.out).2.1 HGE.out).mono ?_); rintro en w5 ⟨rfl, hb⟩; have HX5 := Aside0.mk (blk_alloc (blk_below HX2.out hb) (.cells #[.int .u8 g0, .int .u16 g1, .int .u32 g2] 130)); have HY5 := Aside0.mk (blk_new w5 (.cells #[.int .u8 g0, .int .u16 g1, .int .u32 g2] 130)); have HO5 := Aside0.mk (Kd.R_alloc (Kd.R_below HO2.out hb) (.cells #[.int .u8 g0, .int .u16 g1, .int .u32 g2] 130)); have HP5 := Aside0.mk ((HP2.out.below hb).below (below_alloc (Below.refl w5.heap.size w5) (.cells #[.int .u8 g0, .int .u16 g1, .int .u32 g2] 130))); have HK5 := Aside0.mk ((HK2.out.below hb).below (below_alloc (Below.refl w5.heap.size w5) (.cells #[.int .u8 g0, .int .u16 g1, .int .u32 g2] 130))); clear hb; have hx0 := (blk_cell HX5.out 0).trans rfl; have hx1 := (blk_cell HX5.out 1).trans rfl; have hx2 := (blk_cell HX5.out 2).trans rfl; have hf0 := blk_frozen HX5.out 0; have hf1 := blk_frozen HX5.out 1; have hf2 := blk_frozen HX5.out 2; have hxl := blk_lt HX5.out; have hy0 := (blk_cell HY5.out 0).trans rfl; have hy1 := (blk_cell HY5.out 1).trans rfl; have hy2 := (blk_cell HY5.out 2).trans rfl))
  have hb0 := blk_put (cs' := #[.int .u8 g0, .int .u16 0, .int .u32 0]) HX5.out 0 (.int .u8 g0) rfl
  have hb1 := blk_put (cs' := #[.int .u8 g0, .int .u16 g1, .int .u32 0]) hb0 1 (.int .u16 g1) rfl
  have hb2 := blk_put (cs' := #[.int .u8 g0, .int .u16 g1, .int .u32 g2]) hb1 2 (.int .u32 g2) rfl
  refine bodyPost_ret (results_ctt1 rfl _ _ w.heap.size 130 #[.int .u8 g0, .int .u16 g1, .int .u32 g2] (0, 0) _ rfl hb2 Try.underlying130 rfl (by kernel_rfl)) rfl ?_
  have HKF := Pool.kp_box HB.out HS.out HK5.out
  have hpx := px_far3 (g' := w.heap.size) HP5.out (fun k hk => by have h1 := hk.1; rw [HS.out] at h1; rcases h1 with h1 | h1 <;> omega) (.int .u8 g0) (.int .u16 g1) (.int .u32 g2)
  refine ⟨A4, c4, rfl, Kd.R_set (Kd.R_set (Kd.R_set (Kd.R_lower HO5.out (by rw [HS.out]; exact Nat.le_succ _)) HX5.out (by decide) 0 _) hb0 (by decide) 1 _) hb1 (by decide) 2 _, hpx.mono (fun k hk => ⟨?_, ?_⟩), ((HKF.setCell (p := ⟨w.heap.size, 0, none⟩) (.inr (Nat.le_refl _)) _).setCell (p := ⟨w.heap.size, 1, none⟩) (.inr (Nat.le_refl _)) _).setCell (p := ⟨w.heap.size, 2, none⟩) (.inr (Nat.le_refl _)) _⟩
  · have h1 := hk.1
    rw [HS.out] at h1
    exact h1.elim (fun h => .inl h.1) (fun h => .inr (by omega))
  · exact hk.2
/-- Head: whatever the page is. -/
theorem head_px (h : Px w ok g gd d t K) (hd : Dk w okd gd d t) (hK : K ≤ 900000) (p kind : Int) (hp : 0 ≤ p ∧ p < 4294967296) (hy : By d) :
    Calls Try.prog 53 #[.pointer (some ⟨g, 0, none⟩), .int .u32 p, .int .u8 kind] w fun e w' => ∃ A c, e = .returned (.tuple #[.agg #[.int .u8 (headX d t p kind).1.1, .int .u16 (headX d t p kind).1.2.1, .int .u32 (headX d t p kind).1.2.2], .slice A (headX d t p kind).2.1.length c, .int .i64 (headX d t p kind).2.2]) ∧ Kd.R (Kd.int .u8) 5 w' w.heap.size (fun _ => True) (.slice A (headX d t p kind).2.1.length c) (headX d t p kind).2.1 ∧ Px w' (fun k => (ok k ∨ w.heap.size ≤ k) ∧ some k ≠ (.slice A (headX d t p kind).2.1.length c : Value).ownBlock) g gd d t (K + 1) ∧ Pool.Kp w w' ok := by
  unfold headX
  by_cases hin : p < (t.length : Int)
  · rw [if_pos hin]
    have hge := PureSl.get_f 0 (pg d p.toNat) ((hy.drop _).take _)
    generalize PureSl.getR (pg d p.toNat) = R at hge
    obtain ⟨g0, g1, g2, gb⟩ := R
    dsimp only
    cases gb
    · rw [if_neg (by simp)]
      exact headx_none h hd hK p kind hp hin _ rfl g0 g1 g2 false hge rfl
    · by_cases hk : g0 = kind
      · rw [if_pos ⟨rfl, hk⟩]
        exact headx_good h hd hK p kind hp hin _ rfl g0 g1 g2 true hge rfl (by simp [hk])
      · rw [if_neg (fun h => hk h.2)]
        exact headx_other h hd hK p kind hp hin _ rfl g0 g1 g2 true hge rfl (by simpa using hk)
  · rw [if_neg hin]
    exact headx_out h hd hK p kind hp hin
end
end Go.Proofs.Ytpfegfkniilobaa.Hp
