/- Law 09, HeapRaw: copy of zeros into a row of one's own, Scan and Fetch of any pages beside the reference's. Conditions: bytes. -/
import Derived.Test.YtpfegfkniilobaaHpX
import Derived.Test.YtpfegfkniilobaaHpQm
import Derived.Laws.CopyRow
namespace Go.Proofs.Ytpfegfkniilobaa.Hp
open Go.RowKit Go.Proofs.YtpfegfkniilobaaW.PrintWords Go.Proofs.YtpfegfkniilobaaW.PrintLast Go.Proofs.YtpfegfkniilobaaW.PrintMore Go.Proofs.Ytpfegfkniilobaa.Byt Go.Proofs.Ytpfegfkniilobaa.Dsk Go.Proofs.Ytpfegfkniilobaa.XHeap
open Go.Proofs.Ytpfegfkniilobaa.PureSl (room Ok txt)
set_option linter.unusedVariables false
set_option linter.unusedSimpArgs false
set_option maxRecDepth 100000
theorem step_copy {P : Program} {ops : Array Oper} {o : Oper} {a : Act} {Q : Exit → Act → World → Prop} {K : Act → World → Prop} {w w1 : World} {v v0 x0 : Value} (hw : Region.wanted o (yielded ops a.tmps) = true) (s x : Operand) (t : TypeId) (ho : o.op = .call { callee := .builtin .copy, args := #[s, x], argTypes := #[t, t] })
    (hs : a.eval s = v0) (hx : a.eval x = x0) (hr : (Builtin.copy_ #[t, t] o.type #[v0, x0]).run P w = .ok v w1) (h : K (a.put o.dst v) w1) : if Region.wanted o (yielded ops a.tmps) = true then Oper.wp P o a w K Q else K (a.put o.dst undef) w := by
  rw [if_pos hw]
  unfold Oper.wp execOp
  simp only [ho, resolve, invoke, builtin, Sem.run_bind, Sem.run_pure, Result.andThen_ok, List.map_toArray, List.map_cons, List.map_nil, hs, hx, hr]
  exact h
/-- copy(b[off:], make([]byte, 512)) into a row of one's own. -/
theorem copy_zeros {W : World} {g cap n base off : Nat} {ok : Nat → Prop} {xs ys : List Int} {dLen dCap sCap m : Nat} {ad : Addr} (HO : Kd.R (Kd.int .u8) 5 W base ok (.slice (some ⟨g, 0, none⟩) n cap) xs) (HR : Kd.C (Kd.int .u8) W (some ad) m ys) (hm : ys.length = m) (hm0 : 0 < m) (hle : m ≤ dLen) (hfit : off + m ≤ n) (ty : TypeId) :
    ∃ w1, (Builtin.copy_ #[52, 52] ty #[.slice (some ⟨g, off, none⟩) dLen dCap, .slice (some ad) m sCap]).run Try.prog W = .ok (.int .i64 (m : Int)) w1 ∧ Kd.R (Kd.int .u8) 5 w1 base ok (.slice (some ⟨g, 0, none⟩) n cap) (splice xs off ys) ∧ W.grownBy w1 (some g) := by
  obtain rfl : n = xs.length := (Kd.R_reads' HO).1
  subst hm
  obtain ⟨ad', e, hc⟩ := (Kd.reads_of_C (enc := Value.int .u8) (d := (0 : Int)) (h1 := fun _ => rfl) HR).2.2 hm0
  injection e with e
  subst e
  have hown := Kd.own_of_R HO
  rcases hown.2 with ⟨hv, hx0⟩ | ⟨g', cap', cur, hv, hb, hh, hnc, hcm, hcs, htake⟩
  · cases hv
  injection hv with hv1 hv2 hv3
  injection hv1 with hv1
  injection hv1 with hv1
  subst hv1
  subst hv3
  rw [Nat.mul_one] at hcs htake
  have hcl : cur.toList.length = cap := by simpa using hcs
  have hlen : (encs (Value.int .u8) ys).length = ys.length := encs_length _
  have hsrc : ∀ j v, (encs (Value.int .u8) ys)[j]? = some v → W.cell? (ad.add j) = some v := by
    intro j u hu
    have hj : j < ys.length := by
      rcases Nat.lt_or_ge j ys.length with h | h
      · exact h
      · rw [List.getElem?_eq_none (by rw [encs_length]; exact h)] at hu
        cases hu
    rw [encs_get (d := 0) _ j hj] at hu
    rw [hc j hj]
    exact hu
  have hrun := run_copy_row (P := Try.prog) W 52 52 ty 5 g off dLen dCap ad ys.length sCap cur 5 (encs (Value.int .u8) ys) Try.underlying52 (by kernel_rfl) hh (by rw [hlen]; exact (Nat.min_eq_left hle).symm) hsrc (by rw [hlen]; omega) (by intro v hv; simp only [encs, List.mem_map] at hv; obtain ⟨q, _, rfl⟩ := hv; rfl)
  rw [hlen] at hrun
  refine ⟨_, hrun, ?_, setRow_grown _ _ _⟩
  have hln : (splice xs off ys).length = xs.length := length_splice _ _ _ hfit
  have ho2 : (W.setRow g (cur.toList.take off ++ encs (Value.int .u8) ys ++ cur.toList.drop (off + ys.length)).toArray).ownsRow base 5 1 (.slice (some ⟨g, 0, none⟩) (splice xs off ys).length cap) (splice xs off ys).length (encs (Value.int .u8) (splice xs off ys)) := by
    refine ⟨by rw [encs_length, Nat.mul_one], .inr ⟨g, cap, _, rfl, hb, setRow_heap W g cur _ 5 (0, 0) hh, by rw [hln]; exact hnc, hcm, ?_, ?_⟩⟩
    · rw [Nat.mul_one]
      simp only [List.size_toArray, List.length_append, List.length_take, List.length_drop, hlen]
      omega
    · rw [Nat.mul_one, hln]
      have ht : xs.map (Value.int .u8) = cur.toList.take xs.length := htake.symm
      simp only [encs, splice, List.map_append, List.map_take, List.map_drop, ht, List.take_take, List.drop_take, List.append_assoc]
      rw [Nat.min_eq_left (by omega), List.take_append, List.take_append, List.take_of_length_le (by simp; omega), List.take_of_length_le (l := ys.map _) (by simp; omega)]
      congr 2
      congr 1
      simp
      omega
  rw [← hln]
  exact Kd.R_of_own (h1 := fun _ => rfl) ho2 HO.1
theorem k66_open {w : World} {x : S66} {cs : List Value} (h : k66.K w x cs) : ∃ A c, cs = [.int .u32 x.f0.f0, .int .u16 x.f0.f1, .slice A x.f1.length c] ∧ x.f1.length ≤ c ∧ (Kd.int .u8).C w A x.f1.length x.f1 := by
  obtain ⟨_, _, rfl, s0, A, c, rfl, l0, g0⟩ := h
  obtain rfl := k50_open s0
  exact ⟨A, c, rfl, l0, g0⟩
def rd66 (xs : List S66) (i : Int) : S66 := xs.getD i.toNat ⟨z50, []⟩
theorem at66 {w : World} {A : Option Addr} {n : Nat} {xs : List S66} (h : Kd.C k66 w A n xs) (i : Int) (h0 : 0 ≤ i) (h1 : i < n) : ∃ ad A0 c0, A = some ad ∧ w.cell? (ad.add (i.toNat * 3)) = some (.int .u32 (rd66 xs i).f0.f0) ∧ w.cell? ⟨(ad.add (i.toNat * 3)).block, (ad.add (i.toNat * 3)).off + 1, none⟩ = some (.int .u16 (rd66 xs i).f0.f1) ∧ w.cell? ⟨(ad.add (i.toNat * 3)).block, (ad.add (i.toNat * 3)).off + 2, none⟩ = some (.slice A0 (rd66 xs i).f1.length c0) ∧ (rd66 xs i).f1.length ≤ c0 ∧ (Kd.int .u8).C w A0 (rd66 xs i).f1.length (rd66 xs i).f1 := by
  obtain ⟨ad, c, e, _, hK, hc0⟩ := Kd.C_get h (⟨z50, []⟩ : S66) i h0 h1
  have hc : ∀ j u, c[j]? = some u → w.cell? (ad.add (i.toNat * 3 + j)) = some u := hc0
  obtain ⟨A0, c0, rfl, l0, g0⟩ := k66_open hK
  exact ⟨ad, A0, c0, e, hc 0 _ rfl, by rw [← add_field _ _ 1 (by omega)]; exact hc 1 _ rfl, by rw [← add_field _ _ 2 (by omega)]; exact hc 2 _ rfl, l0, g0⟩
theorem rd66_map (xs : List S66) (i : Int) (h0 : 0 ≤ i) (h1 : i < (xs.length : Int)) : rd_T68 (xs.map t68) i = t68 (rd66 xs i) := by
  have h : i.toNat < xs.length := by omega
  simp [rd_T68, rd66, h]
section
variable {w : World} {okP D : Nat → Prop} {g gd K : Nat} {d : List Int} {t : List Bool}
/-- What is known behind Scan. -/
structure Sc (w W : World) (okP D okI : Nat → Prop) (g gd K : Nat) (d : List Int) (t : List Bool) (v : Value) (its : List S66) : Prop where
  px : Px W okP g gd d t K
  dk : Dk W D gd d t
  row : Kd.R k66 66 W w.heap.size okI v its
  apP : ∀ k, okP k → ¬ okI k ∧ ¬ D k ∧ k < W.heap.size
  apI : ∀ k, okI k → ¬ D k ∧ k < W.heap.size ∧ w.heap.size ≤ k
  kp : Pool.Kp w W (fun k => ¬ D k)
/-- What Scan and the reference's answer. -/
def scanO (e : Int) (o : List S66) : List S66 := if e = 0 then o else []
theorem scan_ok2 {p : Int} {k e kk : Int} {o its : List S66} (hx : Px w okP g gd d t K) (hd : Dk w D gd d t) (hap : ∀ k, okP k → ¬ D k ∧ k < w.heap.size) (hD : ∀ k, D k → k < w.heap.size) (hy : By d) (hp : 0 ≤ p ∧ p < 4294967296) (hw : Way d t t.length p 1 [] k e o) (hK : K + t.length ≤ 800000) (hkk : kk = if e = 0 then k else 0) (hits : its = scanO e o) :
    Calls Try.prog 21 #[.pointer (some ⟨g, 0, none⟩), .int .u32 p] w fun en w' => ∃ okP' okI' v K', en = .returned (.tuple #[v, .int .i64 kk, .int .i64 e]) ∧ Sc w w' okP' D okI' g gd K' d t v its ∧ K' ≤ K + t.length := by
  subst hkk hits
  refine (scan_ok hx hd hap hD hy hp hw hK).mono ?_
  rintro en w' ⟨okP', okI', v, K', rfl, hk, hkb⟩
  have hs := World.size_alloc w B59
  refine ⟨okP', okI', _, K', rfl, ⟨hk.px, hk.dk, ?_, fun k hk2 => ⟨(hk.apP k hk2).1, (hk.apP k hk2).2.1, (hk.apP k hk2).2.2.2⟩, fun k hk2 => ⟨(hk.apI k hk2).1, (hk.apI k hk2).2.2.1, by have := (hk.apI k hk2).2.2.2; omega⟩, kp_then (Pool.Kp.of_below (below_alloc (Below.refl w.heap.size w) B59) _) hk.kp (fun i hi => .inl hi)⟩, hkb⟩
  unfold scanO
  split
  · exact Kd.R_lower hk.row (by omega)
  · exact Kd.R_nil _ _ _ _ _
theorem scanR_eq (k e : Int) (o : List S66) : scanR k e o = ((scanO e o).map t68, if e = 0 then k else 0, e) := by
  unfold scanR scanO
  split
  · rename_i h
    rw [h]
  · rfl
theorem Sc.below {W W2 : World} {okI : Nat → Prop} {v : Value} {its : List S66} (h : Sc w W okP D okI g gd K d t v its) (hb : Below W.heap.size W W2) : Sc w W2 okP D okI g gd K d t v its :=
  ⟨h.px.below hb, h.dk.below hb, Kd.R_below h.row hb, fun k hk => ⟨(h.apP k hk).1, (h.apP k hk).2.1, Nat.lt_of_lt_of_le (h.apP k hk).2.2 hb.size⟩, fun k hk => ⟨(h.apI k hk).1, Nat.lt_of_lt_of_le (h.apI k hk).2.1 hb.size, (h.apI k hk).2.2⟩, h.kp.below hb⟩
/-- Fetch and the reference's, at any place. -/
theorem fetch_both (hy : By d) (ht : t.length ≤ 4096) (p sl : Int) (hp : 0 ≤ p ∧ p < 4294967296) (hsl : 0 ≤ sl ∧ sl < 65536) : ∃ r1 r2, rowlockref09_Fetch.f 2000 (pgs d t.length) t p sl = some (strOfNums r1, r2) ∧ By r1 ∧
    ∀ (w : World) (okP D : Nat → Prop) (g gd K : Nat), Px w okP g gd d t K → Dk w D gd d t → K ≤ 900000 →
      Calls Try.prog 23 #[.pointer (some ⟨g, 0, none⟩), .agg #[.int .u32 p, .int .u16 sl]] w fun e w' => ∃ v, e = .returned (.tuple #[v, .int .i64 r2]) ∧ Kd.R (Kd.int .u8) 5 w' w.heap.size (fun _ => True) v r1 ∧ Pool.Kp w w' okP := by
  obtain ⟨e, nx, rs, hc⟩ := cls_any d t hy p
  cases hc with
  | out ho =>
    refine ⟨[], 8, PureSl.rfetch_bad (PureSl.page_out hp.1 hp.2 (by rw [pgs_len]; exact ho) 2000) (by decide), By.nil, fun w okP D g gd K hx hd hK => ?_⟩
    refine (fetch_err hx hd hy hK p sl hp 8 (by rw [head_out_cls ho]) (by decide)).mono ?_
    rintro e w' ⟨rfl, hk⟩
    exact ⟨_, rfl, Kd.R_nil _ _ _ _ _, hk⟩
  | bad hin h1 h2 =>
    refine ⟨[], 2, PureSl.rfetch_bad (PureSl.page_bad h2 hp.1 (by rw [pgs_len]; exact hin) (by rw [pgs_len]; omega) (pgs_at d t.length p hp.1 hin) 0) (by decide), By.nil, fun w okP D g gd K hx hd hK => ?_⟩
    rcases head_bad_cls hin with hb | ⟨c, nx, hb⟩
    · refine (fetch_err hx hd hy hK p sl hp 2 (by rw [hb]) (by decide)).mono ?_
      rintro e w' ⟨rfl, hk⟩
      exact ⟨_, rfl, Kd.R_nil _ _ _ _ _, hk⟩
    · exact fetch_get hx hd hy hK p sl hp hsl (by rw [hb]) (pg d p.toNat) (by rw [hb]) _ [] 2 (PureSl.get_not h1 0 sl)
  | good nx rs hin h hb =>
    have hr := PureSl.rfetch_good (k := 2000) (P := pgs d t.length) (T := t) (PureSl.page_good h hp.1 (by rw [pgs_len]; exact hin) (by rw [pgs_len]; omega) (by rw [pgs_at d t.length p hp.1 hin, hb]) 0) hsl.1 hsl.2
    have hg := h.get_at 0 sl hsl.1
    by_cases hs : sl < (rs.length : Int)
    · rw [if_pos hs] at hr hg
      have hby : By (Slb.rd_L rs sl) := by
        have h1 : sl.toNat < rs.length := by omega
        simp only [Slb.rd_L, List.getD_eq_getElem?_getD, List.getElem?_eq_getElem h1, Option.getD_some]
        exact h.by_ _ (List.getElem_mem h1)
      exact ⟨Slb.rd_L rs sl, 0, hr, hby, fun w okP D g gd K hx hd hK => fetch_get hx hd hy hK p sl hp hsl (by rw [head_good_cls (nx := nx) (rs := rs) hin h hb hy]) (PureSl.pg nx rs) (by rw [head_good_cls (nx := nx) (rs := rs) hin h hb hy]) _ _ 0 hg⟩
    · rw [if_neg hs] at hr hg
      exact ⟨[], 9, hr, By.nil, fun w okP D g gd K hx hd hK => fetch_get hx hd hy hK p sl hp hsl (by rw [head_good_cls (nx := nx) (rs := rs) hin h hb hy]) (PureSl.pg nx rs) (by rw [head_good_cls (nx := nx) (rs := rs) hin h hb hy]) _ _ 9 hg⟩
end
end Go.Proofs.Ytpfegfkniilobaa.Hp
