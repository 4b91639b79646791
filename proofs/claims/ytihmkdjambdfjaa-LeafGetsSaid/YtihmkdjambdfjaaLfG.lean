/- A leaf's page is got: the walk. Conditions: bytes. -/
import Derived.Test.YtihmkdjambdfjaaLfF
namespace Go.Proofs.Ytihmkdjambdfjaa.Lf
open Go.RowKit Go.Proofs.YtihmkdjambdfjaaW.PrintWords Go.Proofs.YtihmkdjambdfjaaW.PrintLast Go.Proofs.YtihmkdjambdfjaaW.PrintMore Go.Proofs.Ytihmkdjambdfjaa.XLeaf Go.Proofs.Ytihmkdjambdfjaa.Tk
set_option linter.unusedVariables false
set_option linter.unusedSimpArgs false
set_option maxRecDepth 100000
theorem grown_cur {w W w1 : World} {g : Nat} {xs : List Int} {s : Bool} {v : Value} {rows : List S27} {base : Nat} {ok : Nat → Prop} (hI : Cur w W g xs s) (hO : Kd.R k27 27 W base ok v rows) (hg : W.grownBy w1 v.ownBlock) : Cur w w1 g xs s := by
  obtain ⟨A, c, hb⟩ := hI.blk
  exact hI.keep_ (hg.block g hI.lt (Kd.R_ne hO hb (by decide)))
theorem getL_no {w : World} {A : Option Addr} {c : Nat} {b : List Int} (hC : Kd.C (Kd.int .u8) w A b.length b) (hc : b.length ≤ c) (hb : By b) (kd : Int) (hno : ¬ ((dg b).2.2.2 = true ∧ (dg b).1 = kd)) :
    Calls Try.prog 44 #[.slice A b.length c, .int .u8 kd] w fun e w' => e = .returned (.tuple #[.agg #[.int .u8 0, .int .u16 0, .int .u32 0], .pointer none, .bool false]) ∧ Below w.heap.size w w' := by
  obtain ⟨k0, c0, n0, o⟩ : Int × Int × Int × Bool := dg b
  obtain ⟨k0, c0, n0, o, hd⟩ : ∃ k0 c0 n0 o, dg b = (k0, c0, n0, o) := ⟨_, _, _, _, rfl⟩
  rw [hd] at hno
  cases o
  · exact open_none kd hd w hC hc hb
  · exact open_other kd hd (by simpa using hno) w hC hc hb
theorem putLeaf_is {next : Int} {l : List S27} {p1 : List Int} {p2 : Int} (h1 : (putL next l).1 = p1) (h2 : (putL next l).2 = p2) (w : World) (A : Option Addr) (c : Nat) (hg : goodE l) (hC : Kd.C k27 w A l.length l) (hc : l.length ≤ c) :
    Calls Try.prog 14 #[.int .u32 next, .slice A l.length c] w fun e w' => ∃ A' c', e = .returned (.tuple #[.slice A' p1.length c', .int .i64 p2]) ∧ p1.length ≤ c' ∧ Kd.C (Kd.int .u8) w' A' p1.length p1 ∧ Below w.heap.size w w' := by
  refine (putLeaf_ok w next A c l hg hC hc).mono ?_
  rintro e w' ⟨v, rfl, ho, hb⟩
  obtain ⟨A', c', rfl⟩ := Kd.R_slice ho
  have h3 := Kd.R_reads' ho
  rw [h1] at h3 ⊢
  rw [h2]
  exact ⟨A', c', rfl, h3.2.1, h3.2.2, hb⟩
set_option maxHeartbeats 16000000 in
theorem getLeaf_ok (w : World) (A : Option Addr) (c : Nat) (b : List Int) (hC : Kd.C (Kd.int .u8) w A b.length b) (hc : b.length ≤ c) (hb : By b) :
    Calls Try.prog 20 #[.slice A b.length c] w fun e w' => ∃ v, e = .returned (.tuple #[.int .u32 (getL b).1, v, .int .i64 (getL b).2.2]) ∧ Kd.R k27 27 w' w.heap.size (fun _ => True) v (getL b).2.1 ∧ Below w.heap.size w w' := by
  have HC := Aside0.mk (And.intro hC (And.intro hc hb))
  unfold getL
  by_cases hno : ¬ ((dg b).2.2.2 = true ∧ (dg b).1 = 2)
  · rw [if_neg hno]
    have HN := Aside0.mk hno
    clear hC hc hb hno
    go_enter Try.func20, Try.ntmps20
    go_wp2_with (go_at_call 44; (with_reducible refine (getL_no HC.out.1 HC.out.2.1 HC.out.2.2 2 HN.out).mono ?_); rintro en w1 ⟨rfl, hb⟩; have HB1 := Aside0.mk hb; clear hb)
    go_ret3
    exact ⟨_, rfl, Kd.R_nil _ _ _ _ _, below_alloc HB1.out _⟩
  have hyes : (dg b).2.2.2 = true ∧ (dg b).1 = 2 := Decidable.not_not.1 hno
  rw [if_pos hyes]
  have hl5 : b.length = 512 := by
    have h := hyes.1
    unfold dg at h
    split at h
    · rename_i h1; exact h1.1
    · cases h
  have hcr : 0 ≤ (dg b).2.1 ∧ (dg b).2.1 ≤ 65535 := by
    unfold dg
    split
    · have h2 := rdb hb 2
      have h3 := rdb hb 3
      simp only
      omega
    · simp
  obtain ⟨kd, c0, nx, o, hd⟩ : ∃ k0 c0 n0 o, dg b = (k0, c0, n0, o) := ⟨_, _, _, _, rfl⟩
  rw [hd] at hyes hcr ⊢
  obtain ⟨rfl, rfl⟩ : o = true ∧ kd = 2 := hyes
  simp only at hcr ⊢
  obtain ⟨R, hR⟩ : ∃ R, fin nx b (gl c0.toNat [] (b.drop 8)) = R := ⟨_, rfl⟩
  rw [hR]
  have HR := Aside0.mk hR
  have HD := Aside0.mk (And.intro hd (And.intro hl5 hcr))
  have hg0 : goodR [] (b.drop 8) := ⟨fun x hx => hb x (List.mem_of_mem_drop hx), by simp; omega, fun x hx => by cases hx⟩
  have HG0 := Aside0.mk hg0
  have hcr1 := hcr.1
  have hcr2 := hcr.2
  clear hC hc hb hno hl5 hcr hd hg0 hR
  go_enter Try.func20, Try.ntmps20
  go_wp2_with (go_at_call 44; (with_reducible refine (open_some HD.out.1 _ HC.out.1 HC.out.2.1 HC.out.2.2 HD.out.2.1).mono ?_); rintro en w1 ⟨g, rfl, hI, hb⟩; have HI1 := Aside0.mk (hI.alloc (.cells #[.int .u8 2, .int .u16 c0, .int .u32 nx] 76)); have HB1 := Aside0.mk (below_alloc hb (.cells #[.int .u8 2, .int .u16 c0, .int .u32 nx] 76)); have HX1 := Aside0.mk (blk_new w1 (.cells #[.int .u8 2, .int .u16 c0, .int .u32 nx] 76)); have HNE := Aside0.mk (Nat.ne_of_gt hI.lt); clear hI hb; have hh0 := (blk_cell HX1.out 0).trans rfl; have hh1 := (blk_cell HX1.out 1).trans rfl; have hh2 := (blk_cell HX1.out 2).trans rfl)
  go_loopg [8, 21] c0.toNat (fun kq v8 v21 w' => ∃ (rows : List S27) (i : Int) (xs : List Int), v21 = .int .u16 i ∧ Aside0 (0 ≤ i ∧ (kq : Int) + i = c0) ∧ Aside0 (fin nx b (gl kq rows xs) = R) ∧ Aside0 (Kd.R k27 27 w' w.heap.size (fun _ => True) v8 rows) ∧ Aside0 (Cur w w' g xs false) ∧ Aside0 (w'.heap[w1.heap.size]? = some (.cells #[.int .u8 2, .int .u16 c0, .int .u32 nx] 76 (0, 0))) ∧ Aside0 (Below w.heap.size w w') ∧ Aside0 (goodR rows xs))
  case atStart => exact ⟨[], 0, b.drop 8, rfl, ⟨by omega⟩, HR, ⟨Kd.R_nil _ _ _ _ _⟩, HI1, HX1, HB1, HG0⟩
  case round =>
    clear HI1 HB1 HX1 hh0 hh1 hh2 HG0 HR
    obtain ⟨rows, i, xs, rfl, HI_, HS, HO, HI, HX, HB, HG⟩ := hrel
    obtain ⟨Ac, cc, hbk⟩ := HI.out.blk
    have hc0 := (blk_cell hbk 0).trans rfl
    have hc1 := (blk_cell hbk 1).trans rfl
    have hh0 := (blk_cell HX.out 0).trans rfl
    have hh1 := (blk_cell HX.out 1).trans rfl
    have hh2 := (blk_cell HX.out 2).trans rfl
    have HBK := Aside0.mk hbk
    clear hbk
    by_cases c2 : i < c0
    · have c2b0 : decide (i < c0) = true := decide_eq_true c2
      obtain ⟨k1, hk1⟩ : ∃ k1, gk = k1 + 1 := ⟨gk - 1, by have := HI_.out; omega⟩
      have HS1 := HS.out
      rw [hk1, gl] at HS1
      have HK1 := Aside0.mk hk1
      have HC2 := Aside0.mk c2
      clear hk1 c2
      by_cases hv : (ent xs false).2.2 = true
      · rw [if_pos hv] at HS1
        have HV := Aside0.mk hv
        have HS3 := Aside0.mk HS1
        clear HS1 hv
        go_wp2_with (first | (go_at_call 45; (with_reducible refine (ent_any w _ g xs false HI.out HB.out (by have := HG.out.len; omega) HG.out.by_).mono ?_); rintro en w5 ⟨rfl, hI5, hB5, hK5⟩; rw [HV.out] at hI5; have HO5 := Aside0.mk (Kd.R_keep (Kd.R_types HO.out HBK.out (by decide)) hK5 (fun _ hk => hk.2)); have HI5 := Aside0.mk hI5; have HB5 := Aside0.mk hB5; have HX5 := Aside0.mk (hK5.blk HX.out HNE.out (by simp)); clear hI5 hB5 hK5 hh0 hh1 hh2 hc0 hc1) | ((with_reducible refine gate_builtin (b := .append) (xs := #[.tmp 23, .tmp 26]) rfl ?_); at_builtin; refine Kd.R_append k27 (w0 := w) w.heap.size rfl (.tmp 23) (.tmp 26) 29 27 (.agg #[(.string ⟨#[]⟩), (.int .u32 0), (.int .u16 0)]) 24 rfl Try.underlying29 info27 rfl (by decide) (by omega) u8 rows (mkE (ent xs false)) [.string (mkE (ent xs false)).f0, .int .u32 (mkE (ent xs false)).f1.f0, .int .u16 (mkE (ent xs false)).f1.f1] (fun _ => True) (fun _ => False) rfl (by first | (go_simp; done) | (go_simp; rfl)) ?aP (fun _ hk => hk.elim) ?aF ?aO ?aB ?aS ?aL ?_; (case aP => exact k27_mkM _ _ _ (mkE (ent xs false))); (case aB => exact (by repeat (first | (with_reducible first | exact HB5.out | apply below_alloc | apply pw_below_drewN | apply below_drew1) | exact HB5.out))); (case aF => exact (fun _ _ => trivial)); (case aO => exact (by (with_reducible repeat (first | apply Kd.R_alloc | apply Kd.R_drewN | apply Kd.R_drew)); exact Kd.R_mono HO5.out (fun _ _ => trivial))); (case aS => exact (below_size (by repeat (first | (with_reducible first | exact HB5.out | apply below_alloc | apply pw_below_drewN | apply below_drew1) | exact HB5.out)))); (case aL => have := HG.out.len; omega); intro v6 w6 ho hb hg_ hat; have HO6 := Aside0.mk ho; have HB6 := Aside0.mk hb; have HI6 := Aside0.mk (grown_cur (by first | exact HI5.out | exact HI5.out.alloc _) (by first | exact HO5.out | exact Kd.R_alloc HO5.out _) hg_); have HX6 := Aside0.mk (blk_grown (by first | exact HX5.out | exact blk_alloc HX5.out _) hg_ (Kd.R_ne (by first | exact HO5.out | exact Kd.R_alloc HO5.out _) (by first | exact HX5.out | exact blk_alloc HX5.out _) (by decide))); obtain ⟨A6, cc6, hbk6⟩ := HI6.out.blk; have HBK6 := Aside0.mk hbk6; have hc60 := (blk_cell hbk6 0).trans rfl; have hc61 := (blk_cell hbk6 1).trans rfl; have hh0 := (blk_cell HX6.out 0).trans rfl; have hh1 := (blk_cell HX6.out 1).trans rfl; have hh2 := (blk_cell HX6.out 2).trans rfl; clear ho hb hg_ hat hbk6))
        go_ret3
        rw [← HS3.out]
        exact ⟨_, rfl, Kd.R_nil _ _ _ _ _, HB6.out⟩
      · have hv' : (ent xs false).2.2 = false := by simpa using hv
        rw [if_neg hv] at HS1
        have HV := Aside0.mk hv'
        have HS3 := Aside0.mk HS1
        clear HS1 hv hv'
        go_wp2_with (first | (go_at_call 45; (with_reducible refine (ent_any w _ g xs false HI.out HB.out (by have := HG.out.len; omega) HG.out.by_).mono ?_); rintro en w5 ⟨rfl, hI5, hB5, hK5⟩; rw [HV.out] at hI5; have HO5 := Aside0.mk (Kd.R_keep (Kd.R_types HO.out HBK.out (by decide)) hK5 (fun _ hk => hk.2)); have HI5 := Aside0.mk hI5; have HB5 := Aside0.mk hB5; have HX5 := Aside0.mk (hK5.blk HX.out HNE.out (by simp)); clear hI5 hB5 hK5 hh0 hh1 hh2 hc0 hc1) | ((with_reducible refine gate_builtin (b := .append) (xs := #[.tmp 23, .tmp 26]) rfl ?_); at_builtin; refine Kd.R_append k27 (w0 := w) w.heap.size rfl (.tmp 23) (.tmp 26) 29 27 (.agg #[(.string ⟨#[]⟩), (.int .u32 0), (.int .u16 0)]) 24 rfl Try.underlying29 info27 rfl (by decide) (by omega) u8 rows (mkE (ent xs false)) [.string (mkE (ent xs false)).f0, .int .u32 (mkE (ent xs false)).f1.f0, .int .u16 (mkE (ent xs false)).f1.f1] (fun _ => True) (fun _ => False) rfl (by first | (go_simp; done) | (go_simp; rfl)) ?aP (fun _ hk => hk.elim) ?aF ?aO ?aB ?aS ?aL ?_; (case aP => exact k27_mkM _ _ _ (mkE (ent xs false))); (case aB => exact (by repeat (first | (with_reducible first | exact HB5.out | apply below_alloc | apply pw_below_drewN | apply below_drew1) | exact HB5.out))); (case aF => exact (fun _ _ => trivial)); (case aO => exact (by (with_reducible repeat (first | apply Kd.R_alloc | apply Kd.R_drewN | apply Kd.R_drew)); exact Kd.R_mono HO5.out (fun _ _ => trivial))); (case aS => exact (below_size (by repeat (first | (with_reducible first | exact HB5.out | apply below_alloc | apply pw_below_drewN | apply below_drew1) | exact HB5.out)))); (case aL => have := HG.out.len; omega); intro v6 w6 ho hb hg_ hat; have HO6 := Aside0.mk ho; have HB6 := Aside0.mk hb; have HI6 := Aside0.mk (grown_cur (by first | exact HI5.out | exact HI5.out.alloc _) (by first | exact HO5.out | exact Kd.R_alloc HO5.out _) hg_); have HX6 := Aside0.mk (blk_grown (by first | exact HX5.out | exact blk_alloc HX5.out _) hg_ (Kd.R_ne (by first | exact HO5.out | exact Kd.R_alloc HO5.out _) (by first | exact HX5.out | exact blk_alloc HX5.out _) (by decide))); obtain ⟨A6, cc6, hbk6⟩ := HI6.out.blk; have HBK6 := Aside0.mk hbk6; have hc60 := (blk_cell hbk6 0).trans rfl; have hc61 := (blk_cell hbk6 1).trans rfl; have hh0 := (blk_cell HX6.out 0).trans rfl; have hh1 := (blk_cell HX6.out 1).trans rfl; have hh2 := (blk_cell HX6.out 2).trans rfl; clear ho hb hg_ hat hbk6))
        go_roundg k1
        case measure => have := HK1.out; omega
        case rel =>
          have h1 := HI_.out
          have h3 := HK1.out
          have h4 := HC2.out
          exact ⟨_, i + 1, _, by rw [Byt.u16_eq, show (i + 1) % 65536 = i + 1 by omega], ⟨by omega⟩, HS3, HO6, HI6, HX6, HB6, ⟨HG.out.step HV.out⟩⟩
    · have c2b0 : decide (i < c0) = false := decide_eq_false c2
      have hk0 : gk = 0 := by have := HI_.out; omega
      have HS1 := HS.out
      rw [hk0, gl, fin] at HS1
      obtain ⟨A8, c8, e8⟩ := Kd.R_slice HO.out
      subst e8
      have hpy := putL_by nx rows
      obtain ⟨p1, hp1⟩ : ∃ p, (putL nx rows).1 = p := ⟨_, rfl⟩
      obtain ⟨p2, hp2⟩ : ∃ p, (putL nx rows).2 = p := ⟨_, rfl⟩
      rw [hp1] at hpy
      rw [hp1, hp2] at HS1
      have HP := Aside0.mk (And.intro hp1 (And.intro hp2 hpy))
      clear c2 hk0 hp1 hp2 hpy
      by_cases he : p2 = 0
      · have d0 : (p2 != 0) = false := by simpa using he
        by_cases hq : p1 = b
        · have HQ := Aside0.mk (show decide (p1 = b) = true from decide_eq_true hq)
          rw [if_pos ⟨he, hq⟩] at HS1
          have HS3 := Aside0.mk HS1
          clear HS1 he hq
          go_wp2_with (first | (go_at_call 14; (with_reducible refine (putLeaf_is HP.out.1 HP.out.2.1 _ A8 c8 HG.out.good (Kd.R_reads' HO.out).2.2 (Kd.R_reads' HO.out).2.1).mono ?_); rintro en w9 ⟨A9, c9, rfl, hc9, hC9, hb9⟩; have HC9 := Aside0.mk (And.intro hc9 hC9); have HB9 := Aside0.mk (below_then HB.out HB.out.size hb9); have HX9 := Aside0.mk (blk_below HX.out hb9); have HO9 := Aside0.mk (Kd.R_below HO.out hb9); clear hc9 hC9 hb9 hh0 hh1 hh2 hc0 hc1; have hh0 := (blk_cell HX9.out 0).trans rfl; have hh1 := (blk_cell HX9.out 1).trans rfl; have hh2 := (blk_cell HX9.out 2).trans rfl) | (go_at_call 46; (with_reducible refine (equal_is HQ.out _ HC9.out.2 HC9.out.1 (Kd.C_below HC.out.1 HB9.out) HC.out.2.1 HP.out.2.2 HC.out.2.2).mono ?_); rintro en w10 ⟨rfl, hb10⟩; have HB10 := Aside0.mk (below_then HB9.out HB9.out.size hb10); have HX10 := Aside0.mk (blk_below HX9.out hb10); have HO10 := Aside0.mk (Kd.R_below HO9.out hb10); clear hb10 hh0 hh1 hh2; have hh0 := (blk_cell HX10.out 0).trans rfl; have hh1 := (blk_cell HX10.out 1).trans rfl; have hh2 := (blk_cell HX10.out 2).trans rfl))
          go_ret3
          rw [← HS3.out]
          exact ⟨_, rfl, HO10.out, HB10.out⟩
        · have HQ := Aside0.mk (show decide (p1 = b) = false from decide_eq_false hq)
          rw [if_neg (fun h => hq h.2)] at HS1
          have HS3 := Aside0.mk HS1
          clear HS1 he hq
          go_wp2_with (first | (go_at_call 14; (with_reducible refine (putLeaf_is HP.out.1 HP.out.2.1 _ A8 c8 HG.out.good (Kd.R_reads' HO.out).2.2 (Kd.R_reads' HO.out).2.1).mono ?_); rintro en w9 ⟨A9, c9, rfl, hc9, hC9, hb9⟩; have HC9 := Aside0.mk (And.intro hc9 hC9); have HB9 := Aside0.mk (below_then HB.out HB.out.size hb9); have HX9 := Aside0.mk (blk_below HX.out hb9); have HO9 := Aside0.mk (Kd.R_below HO.out hb9); clear hc9 hC9 hb9 hh0 hh1 hh2 hc0 hc1; have hh0 := (blk_cell HX9.out 0).trans rfl; have hh1 := (blk_cell HX9.out 1).trans rfl; have hh2 := (blk_cell HX9.out 2).trans rfl) | (go_at_call 46; (with_reducible refine (equal_is HQ.out _ HC9.out.2 HC9.out.1 (Kd.C_below HC.out.1 HB9.out) HC.out.2.1 HP.out.2.2 HC.out.2.2).mono ?_); rintro en w10 ⟨rfl, hb10⟩; have HB10 := Aside0.mk (below_then HB9.out HB9.out.size hb10); have HX10 := Aside0.mk (blk_below HX9.out hb10); have HO10 := Aside0.mk (Kd.R_below HO9.out hb10); clear hb10 hh0 hh1 hh2; have hh0 := (blk_cell HX10.out 0).trans rfl; have hh1 := (blk_cell HX10.out 1).trans rfl; have hh2 := (blk_cell HX10.out 2).trans rfl))
          go_ret3
          rw [← HS3.out]
          exact ⟨_, rfl, Kd.R_nil _ _ _ _ _, HB10.out⟩
      · have d0 : (p2 != 0) = true := by simpa using he
        rw [if_neg (fun h => he h.1)] at HS1
        have HS3 := Aside0.mk HS1
        clear HS1 he
        go_wp2_with (first | (go_at_call 14; (with_reducible refine (putLeaf_is HP.out.1 HP.out.2.1 _ A8 c8 HG.out.good (Kd.R_reads' HO.out).2.2 (Kd.R_reads' HO.out).2.1).mono ?_); rintro en w9 ⟨A9, c9, rfl, hc9, hC9, hb9⟩; have HC9 := Aside0.mk (And.intro hc9 hC9); have HB9 := Aside0.mk (below_then HB.out HB.out.size hb9); have HX9 := Aside0.mk (blk_below HX.out hb9); have HO9 := Aside0.mk (Kd.R_below HO.out hb9); clear hc9 hC9 hb9 hh0 hh1 hh2 hc0 hc1; have hh0 := (blk_cell HX9.out 0).trans rfl; have hh1 := (blk_cell HX9.out 1).trans rfl; have hh2 := (blk_cell HX9.out 2).trans rfl))
        go_ret3
        rw [← HS3.out]
        exact ⟨_, rfl, Kd.R_nil _ _ _ _ _, HB9.out⟩
end Go.Proofs.Ytihmkdjambdfjaa.Lf
