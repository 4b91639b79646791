/- A heap page's bytes, as slots.page.bytes lays them. Conditions: all records have room, none is empty. -/
import Derived.Test.YtpfegfkniilobaaDskF
import Derived.Test.YtpfegfkniilobaaHpA
namespace Go.Proofs.Ytpfegfkniilobaa.Slb
open Go.RowKit Go.Proofs.YtpfegfkniilobaaW.PrintWords Go.Proofs.YtpfegfkniilobaaW.PrintLast Go.Proofs.YtpfegfkniilobaaW.PrintMore Go.Proofs.Ytpfegfkniilobaa.Byt Go.Proofs.Ytpfegfkniilobaa.Dsk
set_option linter.unusedVariables false
set_option linter.unusedSimpArgs false
set_option maxRecDepth 100000
/-- How many bytes records have. -/
def tot : List (List Int) → Nat
  | [] => 0
  | r :: rs => r.length + tot rs
/-- One record is laid: its bytes, its slot. -/
def lay1 (b : List Int) (i e : Nat) (r : List Int) : List Int := ((((splice b e r).set (8 + 4 * i) ((e : Int) / 256 % 256)).set (8 + 4 * i + 1) ((e : Int) % 256)).set (8 + 4 * i + 2) ((r.length : Int) / 256 % 256)).set (8 + 4 * i + 3) ((r.length : Int) % 256)
def lays : List (List Int) → Nat → Nat → List Int → List Int
  | [], _, _, b => b
  | r :: rs, i, e, b => lays rs (i + 1) (e - r.length) (lay1 b i (e - r.length) r)
def rd_L (xs : List (List Int)) (i : Int) : List Int := xs.getD i.toNat []
theorem at_L {w : World} {A : Option Addr} {n : Nat} {xs : List (List Int)} (h : Kd.C (Kd.slice 5 (Kd.int .u8)) w A n xs) (i : Int) (h0 : 0 ≤ i) (h1 : i < n) : ∃ ad A0 c0, A = some ad ∧ w.cell? (ad.add i.toNat) = some (.slice A0 (rd_L xs i).length c0) ∧ (rd_L xs i).length ≤ c0 ∧ (Kd.int .u8).C w A0 (rd_L xs i).length (rd_L xs i) := by
  obtain ⟨ad, c, e, _, hK, hc0⟩ := Kd.C_get h ([] : List Int) i h0 h1
  have hc : ∀ j u, c[j]? = some u → w.cell? (ad.add (i.toNat * 1 + j)) = some u := hc0
  obtain ⟨A0, c0, rfl, l0, g0⟩ := hK
  exact ⟨ad, A0, c0, e, by have hq := hc 0 _ rfl; rwa [Nat.mul_one, Nat.add_zero] at hq, l0, g0⟩
theorem drop_L (l : List (List Int)) (i : Int) (h0 : 0 ≤ i) (h1 : i < (l.length : Int)) : l.drop i.toNat = rd_L l i :: l.drop (i + 1).toNat := by
  have h : i.toNat < l.length := by omega
  rw [List.drop_eq_getElem_cons h, show (i + 1).toNat = i.toNat + 1 by omega]
  simp [rd_L, h]
theorem cut_from (W : World) (g c m : Nat) (hm : m < 512) (hc : 512 ≤ c) : (Instr.slice 52 (.slice (some ⟨g, 0, none⟩) 512 c) (some (.int .i64 (m : Int))) none none).run Try.prog W = .ok (.slice (some ⟨g, m, none⟩) (512 - m) (c - m)) W := by
  obtain ⟨i0, hi0, _, hsz, _⟩ := info_parts Dsk.info5
  have hel : Try.prog.elem 52 = 5 := by simp [Program.elem, Try.underlying52]
  have hu : Try.prog.underlying 52 = some (.slice (Try.prog.elem 52)) := by rw [hel]; exact Try.underlying52
  rw [run_slice_l W 52 _ 512 c hu .i64 (m : Int) (by omega) (by omega), hel]
  have hj : ¬ c = m := by omega
  simp [typeInfo, hi0, hsz, sliced, hj, add0]
theorem addk (g m k : Nat) : Addr.add ⟨g, m, none⟩ k = ⟨g, m + k, none⟩ := by
  unfold Addr.add
  split <;> simp_all
theorem put1 {W : World} {base g c : Nat} {ok : Nat → Prop} {xs : List Int} (h : Kd.R (Kd.int .u8) 5 W base ok (.slice (some ⟨g, 0, none⟩) 512 c) xs) (hl : xs.length = 512) (m : Nat) (x : Int) : Kd.R (Kd.int .u8) 5 (W.setCell ⟨g, m, none⟩ (.int .u8 x)) base ok (.slice (some ⟨g, 0, none⟩) 512 c) (xs.set m x) ∧ (xs.set m x).length = 512 := by
  have h2 : Kd.R (Kd.int .u8) 5 W base ok (.slice (some ⟨g, 0, none⟩) xs.length c) xs := by rw [hl]; exact h
  have h3 := (Kd.R_put h2 (m : Int) x).1
  rw [Int.toNat_natCast, hl] at h3
  exact ⟨h3, by rw [List.length_set]; exact hl⟩
def Good (l : List (List Int)) : Prop := 8 + 4 * l.length + tot l ≤ 512 ∧ ∀ r ∈ l, 0 < r.length
set_option maxHeartbeats 8000000 in
theorem bytes_ok (a0 : Int) (A : Option Addr) (c : Nat) (l : List (List Int)) (w : World) (hr : Kd.C (Kd.slice 5 (Kd.int .u8)) w A l.length l) (hg : Good l) : Calls Try.prog 107 #[.agg #[.int .u32 a0, .slice A l.length c]] w fun e w' => ∃ v : Value, e = .returned v ∧ Kd.R (Kd.int .u8) 5 w' w.heap.size (fun _ => True) v (lays l 0 512 (XHeap.disk_Put.hd 1 (l.length : Int) a0 ++ List.replicate 504 0)) ∧ Below w.heap.size w w' := by
  obtain ⟨b0, hb0⟩ : ∃ b0, b0 = XHeap.disk_Put.hd 1 (l.length : Int) a0 ++ List.replicate 504 0 := ⟨_, rfl⟩
  have hb0l : b0.length = 512 := by rw [hb0, List.length_append, List.length_replicate]; rfl
  have hput : XHeap.disk_Put.f 1 (l.length : Int) a0 = some b0 := by rw [hb0]; rfl
  obtain ⟨r, hr0⟩ : ∃ r, r = lays l 0 512 b0 := ⟨_, rfl⟩
  rw [← hb0, ← hr0]
  have HC := Aside0.mk hr
  have HG := Aside0.mk hg
  have HP := Aside0.mk (And.intro hput hb0l)
  have HR := Aside0.mk hr0
  have u0 : (l.length : Int) % 65536 = l.length := by have := hg.1; omega
  have u1 : IntKind.u16.wrap (l.length : Int) = l.length := by rw [u16_eq]; exact u0
  clear hr hg hput hb0l hb0 hr0
  go_enter Try.func107, Try.ntmps107
  go_wp2_with (go_at_call 123; (with_reducible refine (XHeap.disk_Put.calls 1 (l.length : Int) a0 b0 _ HP.out.1).mono ?_); rintro en w2 ⟨v, rfl, ho, hb⟩; obtain ⟨g, cg, ev, hgb, hgl, _⟩ := Kd.R_form ho (by rw [HP.out.2]; omega); rw [HP.out.2] at ev; subst ev; have HO2 := Aside0.mk ho; have HB2 := Aside0.mk (below_then (below_alloc (Below.refl w.heap.size w) _) (by simp) hb); have HX2 := Aside0.mk (blk_below (blk_new w _) hb); have HGB := Aside0.mk (show w.heap.size < g by simp at hgb; omega); clear ho hb hgb hgl; have hx0 := (blk_cell HX2.out 0).trans rfl; have hx1 := (blk_cell HX2.out 1).trans rfl)
  have HCG := Aside0.mk (show 512 ≤ cg by have h3 := (Kd.R_reads' HO2.out).2.1; omega)
  go_loopg [4, 19] l.length (fun kq v4 v19 w' => ∃ (e i : Nat) (b : List Int), v4 = .int .i64 (e : Int) ∧ v19 = .int .i64 (i : Int) ∧ Aside0 (kq + i = l.length) ∧ Aside0 (lays (l.drop i) i e b = r) ∧ Aside0 (b.length = 512 ∧ Kd.R (Kd.int .u8) 5 w' w.heap.size (fun _ => True) (.slice (some ⟨g, 0, none⟩) 512 cg) b) ∧ Aside0 (8 + 4 * l.length + tot (l.drop i) ≤ e ∧ e ≤ 512) ∧ Aside0 (Below w.heap.size w w'))
  case atStart => exact ⟨512, 0, b0, rfl, rfl, ⟨by omega⟩, ⟨by rw [HR.out]; rfl⟩, ⟨HP.out.2, Kd.R_lower HO2.out (by simp)⟩, ⟨by have := HG.out.1; simp; omega⟩, HB2⟩
  case round =>
    clear HR HO2 HB2 HX2 hx0 hx1
    obtain ⟨e, i, b, rfl, rfl, HI, HS, HO, HE, HB⟩ := hrel
    by_cases c5 : i < l.length
    · have c5b : decide ((i : Int) < (l.length : Int)) = true := decide_eq_true (by omega)
      have c5c : decide (i < l.length) = true := decide_eq_true c5
      have q9 : (i < l.length) = True := eq_true c5
      have q8 : ((i : Int) < (l.length : Int)) = True := eq_true (by omega)
      obtain ⟨ad, A0, c0, e1, hx0, hlc, hC0⟩ := at_L HC.out (i : Int) (by omega) (by omega)
      subst e1
      have hd := drop_L l (i : Int) (by omega) (by omega)
      rw [Int.toNat_natCast, show ((i : Int) + 1).toNat = i + 1 by omega] at hd
      have hrm : rd_L l (i : Int) ∈ l := List.mem_of_mem_drop (i := i) (by rw [hd]; exact List.mem_cons_self ..)
      generalize rd_L l (i : Int) = rc at hx0 hlc hC0 hd hrm
      have hs := HS.out
      have he := HE.out
      rw [hd, lays] at hs
      rw [hd, tot] at he
      have hpos := HG.out.2 rc hrm
      obtain ⟨e', he'⟩ : ∃ e', e' = e - rc.length := ⟨_, rfl⟩
      rw [← he'] at hs
      have hee : wrap64 ((e : Int) - (rc.length : Int)) = (e' : Int) := by rw [wr_in _ (by omega)]; omega
      replace hx0 := (HB.out.cell (World.block_lt_of_cell? w _ hx0)).trans hx0
      rw [Int.toNat_natCast] at hx0
      have m1 : wrap64 ((i : Int) * 4) = (i : Int) * 4 := wr_in _ (by omega)
      obtain ⟨m, hm⟩ : ∃ m, m = 8 + 4 * i := ⟨_, rfl⟩
      have m2 : wrap64 (8 + (i : Int) * 4) = (m : Int) := by rw [wr_in _ (by omega)]; omega
      have hml : m + 4 ≤ 512 := by omega
      have k1 := fun W => cut_from W g cg e' (by omega) HCG.out
      have k2 := fun W => cut_from W g cg m (by omega) HCG.out
      have b0 : (0 < ((512 - m : Nat) : Int)) = True := eq_true (by omega)
      have b1 : (1 < ((512 - m : Nat) : Int)) = True := eq_true (by omega)
      have b2 : (2 < ((512 - m : Nat) : Int)) = True := eq_true (by omega)
      have b3 : (3 < ((512 - m : Nat) : Int)) = True := eq_true (by omega)
      have d0 : (m < 512) = True := eq_true (by omega)
      have d0' : (0 < 512 - m) = True := eq_true (by omega)
      have d1 : (1 < 512 - m) = True := eq_true (by omega)
      have d2 : (2 < 512 - m) = True := eq_true (by omega)
      have d3 : (3 < 512 - m) = True := eq_true (by omega)
      have a0' := addk g m 0
      have a1' := addk g m 1
      have a2' := addk g m 2
      have a3' := addk g m 3
      have HF := Aside0.mk (And.intro he (And.intro hpos (And.intro he' (And.intro hm hml))))
      have HS2 := Aside0.mk hs
      have HCr := Aside0.mk (Kd.C_below hC0 HB.out)
      have HC5 := Aside0.mk c5
      clear c5 hs he hpos he' hm hml hC0 hlc hd hrm
      go_upto_region 9 with ((with_reducible refine gate_builtin (b := .copy) (xs := #[.tmp 30, .tmp 31]) rfl ?_); go_loud (refine copy_cut rfl (.tmp 30) (.tmp 31) 52 52 rfl 5 Try.underlying52 (by kernel_rfl) g e' cg b rc w.heap.size (fun _ => True) (by rw [HO.out.1]; exact HO.out.2) _ A0 (512 - e') _ c0 rfl rfl (fun _ => rfl) (by have := HF.out; omega) (by have := HF.out; have := HO.out.1; omega) HCr.out ?_); intro w4 ho4 hg4; have HO4 := Aside0.mk ho4; have HG4 := Aside0.mk hg4; clear ho4 hg4)
      have hsl : (splice b e' rc).length = 512 := by rw [length_splice _ _ _ (by have := HF.out; have := HO.out.1; omega)]; exact HO.out.1
      have hR4 : Kd.R (Kd.int .u8) 5 w4 w.heap.size (fun _ => True) (.slice (some ⟨g, 0, none⟩) (splice b e' rc).length cg) (splice b e' rc) := by
        have h3 := HO4.out
        rw [HO.out.1] at h3
        rw [hsl]
        exact h3
      have hcell : ∀ k : Nat, k < 512 → (∃ u, w4.cell? ⟨g, k, none⟩ = some u) ∧ w4.frozen? ⟨g, k, none⟩ = false := fun k hk => by
        obtain ⟨h1, h2⟩ := Kd.R_cell 0 hR4 (k : Int) (by omega) (by rw [hsl]; omega)
        exact ⟨⟨_, h1⟩, h2⟩
      obtain ⟨⟨y0, z0⟩, f0⟩ := hcell m (by have := HF.out; omega)
      obtain ⟨⟨y1, z1⟩, f1⟩ := hcell (m + 1) (by have := HF.out; omega)
      obtain ⟨⟨y2, z2⟩, f2⟩ := hcell (m + 2) (by have := HF.out; omega)
      obtain ⟨⟨y3, z3⟩, f3⟩ := hcell (m + 3) (by have := HF.out; omega)
      have HR4 := Aside0.mk (And.intro hsl hR4)
      clear hcell hsl hR4
      go_wp2
      go_roundg (gk - 1)
      case measure => have h1 := HI.out; have h2 := HC5.out; omega
      case rel =>
        have h1 := HI.out
        have h2 := HC5.out
        obtain ⟨h3, h4, h5, h6, h7⟩ := HF.out
        have h8 := HG.out.1
        have hR := HR4.out.2
        rw [HR4.out.1] at hR
        have q0 := put1 hR HR4.out.1 m ((e' : Int) / 256 % 256)
        have q1 := put1 q0.1 q0.2 (m + 1) ((e' : Int) % 256)
        have q2 := put1 q1.1 q1.2 (m + 2) ((rc.length : Int) / 256 % 256)
        have q3 := put1 q2.1 q2.2 (m + 3) ((rc.length : Int) % 256)
        refine ⟨e', i + 1, lay1 b i e' rc, rfl, by rw [wr_in ((i : Int) + 1) (by omega)]; rfl, ⟨by omega⟩, HS2, ⟨?_, ?_⟩, ⟨by omega⟩, ⟨?_⟩⟩
        · rw [lay1, ← h6]
          exact q3.2
        · rw [lay1, ← h6]
          exact q3.1
        · have hgb := HGB.out
          exact ((((HB.out.grown HG4.out HB.out.size (fun k hk => by injection hk with hk; omega)).setCell (p := ⟨g, m, none⟩) (by show w.heap.size ≤ g; omega) _).setCell (p := ⟨g, m + 1, none⟩) (by show w.heap.size ≤ g; omega) _).setCell (p := ⟨g, m + 2, none⟩) (by show w.heap.size ≤ g; omega) _).setCell (p := ⟨g, m + 3, none⟩) (by show w.heap.size ≤ g; omega) _
    · have c5b : decide ((i : Int) < (l.length : Int)) = false := decide_eq_false (by omega)
      have c5c : decide (i < l.length) = false := decide_eq_false c5
      have q9 : (i < l.length) = False := eq_false c5
      have hs := HS.out
      rw [List.drop_of_length_le (by omega), lays] at hs
      subst hs
      clear c5
      go_wp2
      go_ret
      exact ⟨_, rfl, HO.out.2, HB.out⟩
end Go.Proofs.Ytpfegfkniilobaa.Slb
