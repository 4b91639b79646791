/- An inner page is put. Conditions: the entries are not endless. -/
import Derived.Test.YtihmkdjambdfjaaLfC
import Derived.Test.YtihmkdjambdfjaaXLeafx7
import Derived.Test.YtihmkdjambdfjaaProg
import Derived.Test.YtihmkdjambdfjaaWWords
import Derived.Test.YtihmkdjambdfjaaWMore
import Derived.Lib.SliceRun
import Derived.Laws.IdiomCopy
import Derived.Test.YtihmkdjambdfjaaLfG
import Derived.Test.YtihmkdjambdfjaaPureLeafA
import Derived.Test.YtihmkdjambdfjaaByt
import Derived.Test.YtihmkdjambdfjaaLeafh
import Derived.Test.YtihmkdjambdfjaaXLeafz2
namespace Go.Proofs.Ytihmkdjambdfjaa.Lf
open Go.RowKit Go.Proofs.YtihmkdjambdfjaaW.PrintWords Go.Proofs.YtihmkdjambdfjaaW.PrintLast Go.Proofs.YtihmkdjambdfjaaW.PrintMore Go.Proofs.Ytihmkdjambdfjaa.XLeaf Go.Proofs.Ytihmkdjambdfjaa.Tk
set_option linter.unusedVariables false
set_option linter.unusedSimpArgs false
set_option maxRecDepth 100000
theorem isize_ok (A : Option Addr) (c : Nat) (l : List S27) (w : World) (hC : Kd.C k27 w A l.length l) (hc : l.length ≤ c) (hg : goodE l) : Calls Try.prog 25 #[.slice A l.length c] w fun e w' => e = .returned (.int .i64 (8 + szE l + 4 * ((l.length : Int) + 1))) ∧ Below w.heap.size w w' := by
  have hin := szE_in l (fun x hx => (hg.2 x hx).1)
  have hl := hg.1
  have h : Ev (fun k => leaf_InnerSize.f k l) (8 + szE l + 4 * ((l.length : Int) + 1)) := by
    refine Ev.congr (fun k => by rw [leaf_InnerSize.f]) (Ev.bind (f := fun k t => some (wrap64 (t + (wrap64 (4 * (wrap64 ((l.length : Int) + 1))))))) (eSize l (by omega) (fun x hx => (hg.2 x hx).1)) ?_)
    rw [wr_in ((l.length : Int) + 1) (by omega), wr_in (4 * ((l.length : Int) + 1)) (by omega), wr_in _ (by omega)]
    exact Ev.now _
  obtain ⟨k, h⟩ := h.rounds
  exact leaf_InnerSize.calls k A c l _ w hC hc h
theorem add_pos (a : Addr) (n : Nat) : a.add (n + 1) = ⟨a.block, a.off + (n + 1), none⟩ := by
  unfold Addr.add
  split <;> simp_all
/-- Separators' and children's writing, so many of them. -/
def wrI (cs : List Int) (l : List S27) (n : Nat) : List Int := be4 (rd cs 0) ++ (List.range n).flatMap fun (i : Nat) => wrE (rd_T27 l (i : Int)).f0 (rd_T27 l (i : Int)).f1.f0 (rd_T27 l (i : Int)).f1.f1 ++ be4 (rd cs ((i + 1 : Nat) : Int))
theorem wrI_step (cs : List Int) (l : List S27) (n : Nat) : wrI cs l (n + 1) = wrI cs l n ++ wrE (rd_T27 l (n : Int)).f0 (rd_T27 l (n : Int)).f1.f0 (rd_T27 l (n : Int)).f1.f1 ++ be4 (rd cs ((n + 1 : Nat) : Int)) := by
  rw [wrI, wrI, List.range_succ, List.flatMap_append]
  simp
theorem wrI_len (cs : List Int) (l : List S27) : ∀ n : Nat, n ≤ l.length → ((wrI cs l n).length : Int) = 4 + szE (l.take n) + 4 * n
  | 0, _ => by simp [wrI, szE, Tk.be4]
  | n + 1, h => by
    have ih := wrI_len cs l n (by omega)
    have e1 := wrL_len (l.take (n + 1))
    have e2 := wrL_len (l.take n)
    rw [wrL_take l n (by omega), List.length_append, wrE_len] at e1
    rw [wrI_step, List.length_append, List.length_append, wrE_len]
    have : (be4 (rd cs ((n + 1 : Nat) : Int))).length = 4 := rfl
    omega
theorem ES.entry {w0 w wc : World} {P : Nat → Prop} {cs : Array Value} {t : Nat} {s : Value} {xs : List Int} (h : ES w0 w wc P cs t s xs) (key : ByteArray) (pg sl : Int) (hl : xs.length ≤ 100000) (hk : key.size ≤ 100000) (hsl : 0 ≤ sl ∧ sl < 65536) :
    Calls Try.prog 39 #[s, .agg #[.string key, .int .u32 pg, .int .u16 sl]] wc fun e w' => ∃ v', e = .returned v' ∧ ES w0 w w' P cs t v' (xs ++ wrE key pg sl) := by
  obtain ⟨⟨ok, h1, h2⟩, h3, h4, h5⟩ := h
  refine (entry_ok ok s xs key pg sl w0 wc h4 h2 hl hk hsl).mono ?_
  rintro e w' ⟨v', rfl, ho, hb, hk⟩
  have hs := h5.1
  have hlt := blk_lt h3
  refine ⟨v', rfl, ⟨_, fun k hk => ?_, ho⟩, blk_kept h3 hk (fun h => by rcases h1 _ h with h | h <;> omega), hb, h5.then_ hk (fun k h => (h1 k h).imp (fun h => h.1) (fun h => by omega))⟩
  rcases hk with hk | hk
  · exact h1 k hk
  · exact .inr (by omega)
/-- What the put of an inner page gives. -/
def putI (cs : List Int) (l : List S27) : List Int × Int :=
  if l.length = 0 ∨ cs.length ≠ l.length + 1 then ([], 1)
  else if mayE l (8 + szE l + 4 * ((l.length : Int) + 1)) = 0 then (pgF 3 l.length 0 (wrI cs l l.length), 0) else ([], mayE l (8 + szE l + 4 * ((l.length : Int) + 1)))
theorem may_is {A : Option Addr} {c : Nat} {l : List S27} {n m : Int} (hm : mayE l n = m) (w : World) (hg : goodE l) (hC : Kd.C k27 w A l.length l) (hc : l.length ≤ c) :
    Calls Try.prog 38 #[.slice A l.length c, .int .i64 n] w fun e w' => e = .returned (.int .i64 m) ∧ Below w.heap.size w w' := by
  subst hm
  exact may_ok w A c l n hg hC hc
set_option maxHeartbeats 8000000 in
theorem putInner_ok (w : World) (B : Option Addr) (d : Nat) (cs : List Int) (A : Option Addr) (c : Nat) (l : List S27) (hg : goodE l) (hC : Kd.C k27 w A l.length l) (hc : l.length ≤ c) (hD : Kd.C (Kd.int .u32) w B cs.length cs) (hd : cs.length ≤ 1000000) :
    Calls Try.prog 23 #[.slice B cs.length d, .slice A l.length c] w fun e w' => ∃ v, e = .returned (.tuple #[v, .int .i64 (putI cs l).2]) ∧ Kd.R (Kd.int .u8) 5 w' w.heap.size (fun _ => True) v (putI cs l).1 ∧ Below w.heap.size w w' := by
  have HC := Aside0.mk (And.intro hC (And.intro hg (And.intro hc (And.intro hD hd))))
  unfold putI
  by_cases z0 : l.length = 0
  · rw [if_pos (.inl z0)]
    have HZ := Aside0.mk z0
    have b0 : ((l.length : Int) == 0) = true := by simpa using z0
    have b1 : (l.length == 0) = true := by simpa using z0
    clear hC hg hc hD hd z0
    go_enter Try.func23, Try.ntmps23
    go_wp2
    go_ret2
    exact ⟨_, rfl, Kd.R_nil _ _ _ _ _, Below.refl _ _⟩
  have b0 : ((l.length : Int) == 0) = false := by simp; intro h; exact z0 (by simp [h])
  have b1 : (l.length == 0) = false := by simpa using z0
  by_cases z1 : cs.length ≠ l.length + 1
  · rw [if_pos (.inr z1)]
    have n0 : ((cs.length : Int) != (l.length : Int) + 1) = true := by simp; omega
    have hl9 := hg.1
    have hww : wrap64 ((l.length : Int) + 1) = (l.length : Int) + 1 := wr_in _ (by omega)
    clear hC hg hc hD hd z1 z0
    go_enter Try.func23, Try.ntmps23
    go_wp2
    go_ret2
    exact ⟨_, rfl, Kd.R_nil _ _ _ _ _, Below.refl _ _⟩
  have z1 : cs.length = l.length + 1 := by omega
  rw [if_neg (by omega)]
  have n0 : ((cs.length : Int) != (l.length : Int) + 1) = false := by simp; omega
  have hl9 := hg.1
  obtain ⟨m, hm⟩ : ∃ m, m = mayE l (8 + szE l + 4 * ((l.length : Int) + 1)) := ⟨_, rfl⟩
  rw [← hm]
  have HM := Aside0.mk hm.symm
  have HZ := Aside0.mk (And.intro z0 z1)
  clear hC hg hc hD hd hm z0 z1
  by_cases h0 : m = 0
  · rw [if_pos h0]
    have HM0 := Aside0.mk (mayE_0 (HM.out.trans h0))
    have d0 : (m != 0) = false := by simpa using h0
    clear h0
    have hs5 : 8 + szE l + 4 * ((l.length : Int) + 1) ≤ 512 := HM0.out.2.2
    have HS5 := Aside0.mk (And.intro hs5 (show (l.length : Int) ≤ 63 by have := szE_len l; omega))
    clear hs5
    obtain ⟨ad0, eB, hz⟩ := Kd.at_int HC.out.2.2.2.1 0 (by omega) (by have := HZ.out.2; omega)
    subst eB
    have hz0 : w.cell? ad0 = some (.int .u32 (rd cs 0)) := by
      have e0 : ad0.add (0 : Int).toNat = ad0 := by simp [Addr.add]
      rw [e0] at hz
      exact hz
    have HZ0 := Aside0.mk hz0
    have pc0 : 0 < cs.length := by have := HZ.out.2; omega
    clear hz hz0
    go_enter Try.func23, Try.ntmps23
    go_wp2_with (first
      | (go_at_call 25; (with_reducible refine (isize_ok (some _) c l _ HC.out.1 HC.out.2.2.1 HC.out.2.1).mono ?_); rintro en w1 ⟨rfl, hb⟩; have HB1 := Aside0.mk hb; clear hb)
      | (go_at_call 25; (with_reducible refine (isize_ok A c l _ HC.out.1 HC.out.2.2.1 HC.out.2.1).mono ?_); rintro en w1 ⟨rfl, hb⟩; have HB1 := Aside0.mk hb; clear hb)
      | (go_at_call 38; (with_reducible refine (may_is HM.out _ HC.out.2.1 (Kd.C_below HC.out.1 HB1.out) HC.out.2.2.1).mono ?_); rintro en w2 ⟨rfl, hb⟩; have HB2 := Aside0.mk (below_then HB1.out HB1.out.size hb); clear hb; have hz0 := (HB2.out.cell (World.block_lt_of_cell? w _ HZ0.out)).trans HZ0.out)
      | (go_at_call 48; (with_reducible refine (put4 (fun _ => True) (.slice none 0 0) [] (rd cs 0) w _ HB2.out (Kd.R_nil _ _ _ _ _) (by decide)).mono ?_); rintro en w3 ⟨v3, rfl, ho, hb, _⟩; have HO3 := Aside0.mk (Kd.R_mono ho (ok' := fun _ => True) (fun _ _ => trivial)); have HB3 := Aside0.mk hb; clear ho hb hz0))
    go_loopg [7, 34] l.length (fun kq v7 v34 w' => ∃ i : Nat, v34 = .int .i64 (i : Int) ∧ Aside0 (kq + i = l.length) ∧ Aside0 (Kd.R (Kd.int .u8) 5 w' w.heap.size (fun _ => True) v7 (wrI cs l i)) ∧ Aside0 (Below w.heap.size w w'))
    case atStart => exact ⟨0, rfl, ⟨by omega⟩, ⟨by simpa [wrI] using HO3.out⟩, HB3⟩
    case round =>
      clear HB3 HO3 HB2 HB1
      obtain ⟨i, rfl, HI, HO, HB⟩ := hrel
      by_cases c5 : i < l.length
      · have c1 : decide ((i : Int) < (l.length : Int)) = true := decide_eq_true (by omega)
        have c1b : decide (i < l.length) = true := decide_eq_true c5
        obtain ⟨ad, e1, hx0, hx1, hx2⟩ := at_T27 HC.out.1 (i : Int) (by omega) (by omega)
        subst e1
        replace hx0 := (HB.out.cell (World.block_lt_of_cell? w _ hx0)).trans hx0
        replace hx1 := (HB.out.cell (World.block_lt_of_cell? w _ hx1)).trans hx1
        replace hx2 := (HB.out.cell (World.block_lt_of_cell? w _ hx2)).trans hx2
        rw [Int.toNat_natCast] at hx0 hx1 hx2
        obtain ⟨ad2, e2, hz⟩ := Kd.at_int HC.out.2.2.2.1 ((i + 1 : Nat) : Int) (by omega) (by have := HZ.out.2; omega)
        injection e2 with e2
        subst e2
        rw [Int.toNat_natCast, add_pos] at hz
        have HZi := Aside0.mk hz
        have p9 : (0 ≤ (i : Int)) = True := eq_true (by omega)
        have q9 : ((i : Int) < (l.length : Int)) = True := eq_true (by omega)
        have q9b : (i < l.length) = True := eq_true c5
        have q8 : ((i : Int) + 1 < (cs.length : Int)) = True := eq_true (by have := HZ.out.2; omega)
        have q8b : (i + 1 < cs.length) = True := eq_true (by have := HZ.out.2; omega)
        have hww : wrap64 ((i : Int) + 1) = (i : Int) + 1 := wr_in' _ (by have := HC.out.2.1.len; omega)
        have hwt : ((i : Int) + 1).toNat = i + 1 := by omega
        have hiw : IntKind.i64.wrap ((i : Int) + 1) = (i : Int) + 1 := by rw [Byt.w64_eq]; exact hww
        have p8 : (0 ≤ (i : Int) + 1) = True := eq_true (by omega)
        have hm := HC.out.2.1.2 _ (by rw [rd_at l i c5]; exact List.getElem_mem c5 : rd_T27 l (i : Int) ∈ l)
        have htk := wrI_step cs l i
        have hlen := wrI_len cs l i (by omega)
        have hle := szE_take l i
        obtain ⟨t, ht⟩ : ∃ t, t = rd_T27 l (i : Int) := ⟨_, rfl⟩
        rw [← ht] at hx0 hx1 hx2 hm htk
        have H := Aside0.mk c5
        have HM2 := Aside0.mk (And.intro hm (And.intro htk (show (wrI cs l i).length ≤ 600 by have := HS5.out.1; omega)))
        have HKS := Aside0.mk (show t.f0.size ≤ 70000 from hm.1)
        clear c5 ht hm htk hlen hle hz
        have HE := Aside0.mk (ES.mk (cs := #[.string t.f0, .int .u32 t.f1.f0, .int .u16 t.f1.f1]) (t := 27) HB.out HO.out)
        have hy0 := (blk_cell HE.out.2.1 0).trans rfl
        have hy1 := (blk_cell HE.out.2.1 1).trans rfl
        have hy2 := (blk_cell HE.out.2.1 2).trans rfl
        have hz : (wr.alloc (.cells #[.string t.f0, .int .u32 t.f1.f0, .int .u16 t.f1.f1] 27)).cell? ⟨ad0.block, ad0.off + (i + 1), none⟩ = some (.int .u32 (rd cs ((i + 1 : Nat) : Int))) := (HE.out.2.2.1.cell (World.block_lt_of_cell? w _ HZi.out)).trans HZi.out
        go_upto_region 10 with fail
        go_region_law (first
          | (refine goes_ Try.func39 (by kernel_rfl) rfl #[_, .agg #[.string t.f0, .int .u32 t.f1.f0, .int .u16 t.f1.f1]] rfl rfl rfl (by simp [Act.eval, Act.put]; first | rfl | done) ?_; (with_reducible refine (ES.entry HE.out.drew t.f0 t.f1.f0 t.f1.f1 (by have := HM2.out.2.2; omega) (by have := HKS.out; omega) HM2.out.1.2.2.2).mono ?_); rintro en w1 ⟨v1, rfl, h1⟩; refine ⟨_, rfl, ?_⟩; have HE1 := Aside0.mk h1; clear h1; have hz1 := (HE1.out.2.2.1.cell (World.block_lt_of_cell? w _ HZi.out)).trans HZi.out)
          | (refine goes_ Try.func48 (by kernel_rfl) rfl #[v1, .int .i64 4, .int .u32 (rd cs ((i + 1 : Nat) : Int))] rfl rfl rfl (by simp [Act.eval, Act.put]) ?_; (with_reducible refine (HE1.out.put4 (by rw [List.length_append, wrE_len]; have := HM2.out.2.2; have := HKS.out; omega) (rd cs ((i + 1 : Nat) : Int))).mono ?_); rintro en w2 ⟨v2, rfl, h2⟩; refine ⟨_, rfl, ?_⟩; rw [← HM2.out.2.1] at h2; have HE2 := Aside0.mk h2; clear h2))
        all_goals
          clear hy0 hy1 hy2 hz hz1
          go_wp2
          go_roundg (gk - 1)
          case measure => have h1 := HI.out; have h2 := H.out; omega
          case rel =>
            have h1 := HI.out
            have h2 := H.out
            have h3 := HC.out.2.1.len
            exact ⟨i + 1, by first | rfl | (rw [wr_in' ((i : Int) + 1) (by omega)]; rfl), ⟨by omega⟩, ⟨Kd.R_mono HE2.out.done.1 (fun _ _ => trivial)⟩, ⟨HE2.out.done.2.1⟩⟩
      · have c1 : decide ((i : Int) < (l.length : Int)) = false := decide_eq_false (by omega)
        have c1b : decide (i < l.length) = false := decide_eq_false c5
        have hta : i = l.length := by have := HI.out; omega
        have ho := HO.out
        rw [hta] at ho
        obtain ⟨A7, c7, e7⟩ := Kd.R_slice ho
        subst e7
        have HO7 := Aside0.mk ho
        have hwl := wrI_len cs l l.length (Nat.le_refl _)
        rw [List.take_length] at hwl
        have HW := Aside0.mk (And.intro (show (wrI cs l l.length).length ≤ 504 by have := HS5.out.1; omega) (show IntKind.u16.wrap (l.length : Int) = l.length by rw [Byt.u16_eq]; have := HS5.out.2; omega))
        clear c5 hta ho hwl
        go_wp2_with (go_at_call 40; ((with_reducible refine (lay_ok 3 (l.length : Int) 0 A7 c7 (wrI cs l l.length) _ (Kd.R_reads' HO7.out).2.2 HW.out.1).mono ?_); rintro en w4 ⟨v4, rfl, ho4, hb4⟩; have HO4 := Aside0.mk ho4; have HB4 := Aside0.mk (below_then HB.out HB.out.size hb4); clear ho4 hb4))
        go_ret2
        exact ⟨_, rfl, Kd.R_lower HO4.out HB.out.size, HB4.out⟩
  · rw [if_neg h0]
    have d0 : (m != 0) = true := by simpa using h0
    clear h0
    go_enter Try.func23, Try.ntmps23
    go_wp2_with (first
      | (go_at_call 25; (with_reducible refine (isize_ok A c l _ HC.out.1 HC.out.2.2.1 HC.out.2.1).mono ?_); rintro en w1 ⟨rfl, hb⟩; have HB1 := Aside0.mk hb; clear hb)
      | (go_at_call 38; (with_reducible refine (may_is HM.out _ HC.out.2.1 (Kd.C_below HC.out.1 HB1.out) HC.out.2.2.1).mono ?_); rintro en w2 ⟨rfl, hb⟩; have HB2 := Aside0.mk (below_then HB1.out HB1.out.size hb); clear hb))
    go_ret2
    exact ⟨_, rfl, Kd.R_nil _ _ _ _ _, HB2.out⟩
end Go.Proofs.Ytihmkdjambdfjaa.Lf
namespace Go.Proofs.Ytihmkdjambdfjaa.Clr
open Go.RowKit Go.Proofs.YtihmkdjambdfjaaW.PrintWords Go.Proofs.YtihmkdjambdfjaaW.PrintLast Go.Proofs.YtihmkdjambdfjaaW.PrintMore
theorem clear_own {P : Program} {W : World} {base t : Nat} {ok : Nat → Prop} {A : Option Addr} {n c : Nat} {xs : List Int} (ht : P.underlying t = some (.slice 5)) (hv : ∀ w, (zeroValue 5).run P w = .ok (.int .u8 0) w) (h : Kd.R (Kd.int .u8) 5 W base ok (.slice A n c) xs) (ty : TypeId) :
    ∃ w1, (Builtin.clear_ #[t] ty #[.slice A n c]).run P W = .ok (.tuple #[]) w1 ∧ W.grownBy w1 (Value.slice A n c).ownBlock := by
  have hn := (Kd.R_reads' h).1
  have hC := (Kd.R_reads' h).2.2
  by_cases hx : 0 < xs.length
  · obtain ⟨g, cap, hv1, hb, hg, cells, hcells⟩ := Kd.R_form h hx
    obtain ⟨rfl, rfl, rfl⟩ : A = some ⟨g, 0, none⟩ ∧ n = xs.length ∧ c = cap := by
      injection hv1 with h1 h2 h3
      exact ⟨h1, h2, h3⟩
    refine ⟨_, Go.Lib.run_clear_slice W t 5 ty (.int .u8 0) ht hv rfl rfl g 0 xs.length c hx ?_ ?_, ?_⟩
    · intro j hj
      obtain ⟨ad, he, hx⟩ := Kd.at_int hC (j : Int) (by omega) (by omega)
      injection he with he
      subst he
      have e : (Addr.add ⟨g, 0, none⟩ ((j : Nat) : Int).toNat) = ⟨g, 0 + j, none⟩ := by
        simp only [Int.toNat_natCast, Addr.add]
        split <;> simp_all
      rw [e] at hx
      rw [hx]
      rfl
    · intro j _
      exact blk_frozen hcells _
    · have hs := setCells_same g (List.replicate xs.length (.int .u8 0)) 0 W
      exact ⟨hs.1, hs.2.1, hs.2.2.1, Nat.le_of_eq hs.2.2.2.symm, fun k _ hk => setCells_far _ _ k (fun e => hk (by rw [e]; rfl))⟩
  · have h0 : n = 0 := by omega
    subst h0
    refine ⟨W, ?_, ⟨rfl, rfl, rfl, Nat.le_refl _, fun _ _ _ => rfl⟩⟩
    cases A <;> simp [Builtin.clear_, run_underlying ht]
end Go.Proofs.Ytihmkdjambdfjaa.Clr
namespace Go.Proofs.Ytihmkdjambdfjaa.Lf
open Go.RowKit Go.Proofs.YtihmkdjambdfjaaW.PrintWords Go.Proofs.YtihmkdjambdfjaaW.PrintLast Go.Proofs.YtihmkdjambdfjaaW.PrintMore Go.Proofs.Ytihmkdjambdfjaa.XLeaf Go.Proofs.Ytihmkdjambdfjaa.Tk
set_option linter.unusedVariables false
set_option linter.unusedSimpArgs false
set_option maxRecDepth 100000
theorem apart2 {α β : Type} {d : Kd α} {d' : Kd β} {e e' base base' : Nat} {W : World} {ok ok' : Nat → Prop} {v v' : Value} {xs : List α} {ys : List β} (h : d.R e W base ok v xs) (h' : d'.R e' W base' ok' v' ys) (hne : e ≠ e') : ∀ k, v'.ownBlock = some k → some k ≠ v.ownBlock := fun k hk => by
  obtain ⟨inner, ho⟩ := Kd.R_own h'
  obtain ⟨cells, hc⟩ := own_typed ho k hk
  exact Kd.R_ne h hc hne
theorem grown_curI {w W w1 : World} {g : Nat} {xs : List Int} {s : Bool} {v : Value} {rows : List Int} {base : Nat} {ok : Nat → Prop} (hI : Cur w W g xs s) (hO : Kd.R (Kd.int .u32) 22 W base ok v rows) (hg : W.grownBy w1 v.ownBlock) : Cur w w1 g xs s := by
  obtain ⟨A, c, hb⟩ := hI.blk
  exact hI.keep_ (hg.block g hI.lt (Kd.R_ne hO hb (by decide)))
/-- Entries and children that are read, so many; none: one wasn't there. -/
def gi : Nat → List Int → List S27 → List Int → Option (List Int × List S27)
  | 0, cs, rows, xs => some (cs, rows)
  | n + 1, cs, rows, xs => if (tk (ent xs false).2.1 (ent xs false).2.2 4).2.2 = true then none else gi n (cs ++ [nv (tk (ent xs false).2.1 (ent xs false).2.2 4).1]) (rows ++ [mkE (ent xs false)]) (tk (ent xs false).2.1 (ent xs false).2.2 4).2.1
/-- What comes of what was read. -/
def fini (b : List Int) : Option (List Int × List S27) → List Int × List S27 × Int
  | none => ([], [], 2)
  | some p => if (putI p.1 p.2).2 = 0 ∧ (putI p.1 p.2).1 = b then (p.1, p.2, 0) else ([], [], 2)
/-- What the get of an inner page gives. -/
def getI (b : List Int) : List Int × List S27 × Int := if (dg b).2.2.2 = true ∧ (dg b).1 = 3 then fini b (gi (dg b).2.1.toNat [nv ((b.drop 8).take 4)] [] ((b.drop 8).drop 4)) else ([], [], 2)
theorem goodR.stepI {rows : List S27} {xs : List Int} (h : goodR rows xs) (hs : (tk (ent xs false).2.1 (ent xs false).2.2 4).2.2 = false) : goodR (rows ++ [mkE (ent xs false)]) (tk (ent xs false).2.1 (ent xs false).2.2 4).2.1 := by
  obtain ⟨h1, h2, h3⟩ := tk_rest hs
  have h4 := h.step h1
  have h5 := h4.2.1
  exact ⟨By.tk2 h4.1 _ _, by omega, h4.2.2⟩
theorem wrI_by (cs : List Int) (l : List S27) (n : Nat) : By (wrI cs l n) := by
  induction n with
  | zero => exact byApp (be4_by _) by_nil
  | succ n ih => rw [wrI_step]; exact byApp (byApp ih (wrE_by _ _ _)) (be4_by _)
theorem putI_by (cs : List Int) (l : List S27) : By (putI cs l).1 := by
  unfold putI
  split
  · exact by_nil
  · split
    · exact pgF_by _ _ _ _ (by omega) (wrI_by _ _ _)
    · exact by_nil
theorem putInner_is {cs : List Int} {l : List S27} {p1 : List Int} {p2 : Int} (h1 : (putI cs l).1 = p1) (h2 : (putI cs l).2 = p2) (w : World) (B : Option Addr) (d : Nat) (A : Option Addr) (c : Nat) (hg : goodE l) (hC : Kd.C k27 w A l.length l) (hc : l.length ≤ c) (hD : Kd.C (Kd.int .u32) w B cs.length cs) (hd : cs.length ≤ 1000000) :
    Calls Try.prog 23 #[.slice B cs.length d, .slice A l.length c] w fun e w' => ∃ A' c', e = .returned (.tuple #[.slice A' p1.length c', .int .i64 p2]) ∧ p1.length ≤ c' ∧ Kd.C (Kd.int .u8) w' A' p1.length p1 ∧ Below w.heap.size w w' := by
  refine (putInner_ok w B d cs A c l hg hC hc hD hd).mono ?_
  rintro e w' ⟨v, rfl, ho, hb⟩
  obtain ⟨A', c', rfl⟩ := Kd.R_slice ho
  have h3 := Kd.R_reads' ho
  rw [h1] at h3 ⊢
  rw [h2]
  exact ⟨A', c', rfl, h3.2.1, h3.2.2, hb⟩
theorem num_is {xs : List Int} {s : Bool} {n : Int} {a b' : List Int} {s' : Bool} {r : Int} (ht : tk xs s n = (a, b', s')) (hr : nv a = r) (w0 w : World) (g : Nat) (hI : Cur w0 w g xs s) (hB : Below w0.heap.size w0 w) (hm : xs.length ≤ 9223372036854775807) (hy : By xs) (h0 : 0 ≤ n) (hn : n ≤ 4) :
    Calls Try.prog 47 #[.pointer (some ⟨g, 0, none⟩), .int .i64 n] w fun en w' => en = .returned (.int .u32 r) ∧ Cur w0 w' g b' s' ∧ Below w0.heap.size w0 w' ∧ KeepBut w w' g none := by
  have h := num_any w0 w g xs s n hI hB hm hy h0 hn
  rw [ht] at h
  simp only at h
  rw [hr] at h
  exact h
set_option maxHeartbeats 32000000 in
theorem getInner_ok (w : World) (A : Option Addr) (c : Nat) (b : List Int) (hC : Kd.C (Kd.int .u8) w A b.length b) (hc : b.length ≤ c) (hb : By b) :
    Calls Try.prog 21 #[.slice A b.length c] w fun e w' => ∃ v1 v2, e = .returned (.tuple #[v1, v2, .int .i64 (getI b).2.2]) ∧ Kd.R (Kd.int .u32) 22 w' w.heap.size (fun _ => True) v1 (getI b).1 ∧ Kd.R k27 27 w' w.heap.size (fun _ => True) v2 (getI b).2.1 ∧ Below w.heap.size w w' := by
  have HC := Aside0.mk (And.intro hC (And.intro hc hb))
  unfold getI
  by_cases hno : ¬ ((dg b).2.2.2 = true ∧ (dg b).1 = 3)
  · rw [if_neg hno]
    have HN := Aside0.mk hno
    clear hC hc hb hno
    go_enter Try.func21, Try.ntmps21
    go_wp2_with (go_at_call 44; (with_reducible refine (getL_no HC.out.1 HC.out.2.1 HC.out.2.2 3 HN.out).mono ?_); rintro en w1 ⟨rfl, hb⟩; have HB1 := Aside0.mk hb; clear hb)
    go_ret3
    exact ⟨_, _, rfl, Kd.R_nil _ _ _ _ _, Kd.R_nil _ _ _ _ _, below_alloc HB1.out _⟩
  have hyes : (dg b).2.2.2 = true ∧ (dg b).1 = 3 := Decidable.not_not.1 hno
  rw [if_pos hyes]
  have hl5 : b.length = 512 := by
    have h := hyes.1
    unfold dg at h
    split at h
    · rename_i h1; exact h1.1
    · cases h
  have hcr : 0 ≤ (dg b).2.1 ∧ (dg b).2.1 ≤ 65535 := by
    unfold dg
    split
    · have h2 := rdb hb 2
      have h3 := rdb hb 3
      simp only
      omega
    · simp
  obtain ⟨kd, c0, nx, o, hd⟩ : ∃ k0 c0 n0 o, dg b = (k0, c0, n0, o) := ⟨_, _, _, _, rfl⟩
  rw [hd] at hyes hcr ⊢
  obtain ⟨rfl, rfl⟩ : o = true ∧ kd = 3 := hyes
  simp only at hcr ⊢
  obtain ⟨R, hR⟩ : ∃ R, fini b (gi c0.toNat [nv ((b.drop 8).take 4)] [] ((b.drop 8).drop 4)) = R := ⟨_, rfl⟩
  rw [hR]
  have HR := Aside0.mk hR
  have HD := Aside0.mk (And.intro hd (And.intro hl5 hcr))
  have hg0 : goodR [] ((b.drop 8).drop 4) := ⟨fun x hx => hb x (List.mem_of_mem_drop (List.mem_of_mem_drop hx)), by simp; omega, fun x hx => by cases hx⟩
  have HG0 := Aside0.mk hg0
  have htk : tk (b.drop 8) false 4 = ((b.drop 8).take 4, (b.drop 8).drop 4, false) := by
    rw [tk, if_pos (by rw [List.length_drop]; omega)]
    rfl
  obtain ⟨n0, hn0⟩ : ∃ n, nv ((b.drop 8).take 4) = n := ⟨_, rfl⟩
  rw [hn0] at HR
  have HT := Aside0.mk (And.intro htk (And.intro hn0 (And.intro (show (b.drop 8).length ≤ 9223372036854775807 by rw [List.length_drop]; omega) (show By (b.drop 8) from fun x hx => hb x (List.mem_of_mem_drop hx)))))
  have hcr1 := hcr.1
  have hcr2 := hcr.2
  clear hC hc hb hno hl5 hcr hd hg0 hR htk hn0
  go_enter Try.func21, Try.ntmps21
  go_wp2_with (first
    | (go_at_call 44; (with_reducible refine (open_some HD.out.1 _ HC.out.1 HC.out.2.1 HC.out.2.2 HD.out.2.1).mono ?_); rintro en w1 ⟨g, rfl, hI, hb⟩; have HI1 := Aside0.mk (hI.alloc (.cells #[.int .u8 3, .int .u16 c0, .int .u32 nx] 76)); have HB1 := Aside0.mk (below_alloc hb (.cells #[.int .u8 3, .int .u16 c0, .int .u32 nx] 76)); have HX1 := Aside0.mk (blk_new w1 (.cells #[.int .u8 3, .int .u16 c0, .int .u32 nx] 76)); have HNE := Aside0.mk (Nat.ne_of_gt hI.lt); clear hI hb)
    | (go_at_call 47; (with_reducible refine (num_is HT.out.1 HT.out.2.1 w _ g HI1.out HB1.out HT.out.2.2.1 HT.out.2.2.2 (by omega) (by omega)).mono ?_); rintro en w2 ⟨rfl, hI2, hB2, hK2⟩; have HI2 := Aside0.mk hI2; have HB2 := Aside0.mk hB2; have HX2 := Aside0.mk (hK2.blk HX1.out HNE.out (by simp)); clear hI2 hB2 hK2)
    | ((with_reducible refine gate_dst (N := 22) rfl ?_); refine Kd.R_lit (Kd.int .u32) _ 22 ?hg (N := 22) ?hd (xs := [n0]) (inner := [.int .u32 n0]) (ok := fun _ => True) (okp := fun _ => True) ?hr ?hp (fun _ hk => hk) trivial HB2.out HB2.out.size (by simp) ?_; (case hd => rfl); (case hg => rfl); (case hr => first | (go_simp; done) | (go_simp; rfl)); (case hp => exact (Reps.one (show Kd.M (Kd.int .u32) _ _ _ n0 [.int .u32 n0] from rfl) (Reps.none _ _))); intro v3 w3 ho3 hb3 hg3 hnew3; have HP3 := Aside0.mk ho3; have HB3 := Aside0.mk hb3; have HI3 := Aside0.mk (HI2.out.keep_ (hg3.block g HI2.out.lt (by simp))); have HX3 := Aside0.mk (blk_grown HX2.out hg3 (by simp)); clear ho3 hb3 hg3 hnew3; have hh0 := (blk_cell HX3.out 0).trans rfl; have hh1 := (blk_cell HX3.out 1).trans rfl; have hh2 := (blk_cell HX3.out 2).trans rfl))
  go_loopg [8, 9, 25] c0.toNat (fun kq v8 v9 v25 w' => ∃ (cs : List Int) (rows : List S27) (i : Int) (xs : List Int), v25 = .int .u16 i ∧ Aside0 (0 ≤ i ∧ (kq : Int) + i = c0) ∧ Aside0 (fini b (gi kq cs rows xs) = R) ∧ Aside0 (Kd.R (Kd.int .u32) 22 w' w.heap.size (fun _ => True) v8 cs) ∧ Aside0 (Kd.R k27 27 w' w.heap.size (fun _ => True) v9 rows) ∧ Aside0 (Cur w w' g xs false) ∧ Aside0 (w'.heap[w1.heap.size]? = some (.cells #[.int .u8 3, .int .u16 c0, .int .u32 nx] 76 (0, 0))) ∧ Aside0 (Below w.heap.size w w') ∧ Aside0 (goodR rows xs) ∧ Aside0 (cs.length = rows.length + 1))
  case atStart => exact ⟨[n0], [], 0, (b.drop 8).drop 4, rfl, ⟨by omega⟩, HR, HP3, ⟨Kd.R_nil _ _ _ _ _⟩, HI3, HX3, HB3, HG0, ⟨rfl⟩⟩
  case round =>
    clear HI1 HB1 HX1 HI2 HB2 HX2 HI3 HB3 HX3 HP3 hh0 hh1 hh2 HG0 HR
    obtain ⟨cs, rows, i, xs, rfl, HI_, HS, HP, HO, HI, HX, HB, HG, HCL⟩ := hrel
    obtain ⟨Ac, cc, hbk⟩ := HI.out.blk
    have hc0 := (blk_cell hbk 0).trans rfl
    have hc1 := (blk_cell hbk 1).trans rfl
    have hh0 := (blk_cell HX.out 0).trans rfl
    have hh1 := (blk_cell HX.out 1).trans rfl
    have hh2 := (blk_cell HX.out 2).trans rfl
    have HBK := Aside0.mk hbk
    clear hbk
    by_cases c2 : i < c0
    · have c2b0 : decide (i < c0) = true := decide_eq_true c2
      obtain ⟨k1, hk1⟩ : ∃ k1, gk = k1 + 1 := ⟨gk - 1, by have := HI_.out; omega⟩
      have HS1 := HS.out
      rw [hk1, gi] at HS1
      have HK1 := Aside0.mk hk1
      have HC2 := Aside0.mk c2
      have HG2 := Aside0.mk (And.intro (show (ent xs false).2.1.length ≤ 9223372036854775807 by have h1 := tk_le xs false 2; have h2 := tk_le (tk xs false 2).2.1 (tk xs false 2).2.2 (nv (tk xs false 2).1); have h3 := tk_le (tk (tk xs false 2).2.1 (tk xs false 2).2.2 (nv (tk xs false 2).1)).2.1 (tk (tk xs false 2).2.1 (tk xs false 2).2.2 (nv (tk xs false 2).1)).2.2 4; have h4 := tk_le (tk (tk (tk xs false 2).2.1 (tk xs false 2).2.2 (nv (tk xs false 2).1)).2.1 (tk (tk xs false 2).2.1 (tk xs false 2).2.2 (nv (tk xs false 2).1)).2.2 4).2.1 (tk (tk (tk xs false 2).2.1 (tk xs false 2).2.2 (nv (tk xs false 2).1)).2.1 (tk (tk xs false 2).2.1 (tk xs false 2).2.2 (nv (tk xs false 2).1)).2.2 4).2.2 2; have := HG.out.len; simp only [ent]; omega) (ent_rng HG.out.by_ false).1)
      clear hk1 c2
      by_cases hv : (tk (ent xs false).2.1 (ent xs false).2.2 4).2.2 = true
      · rw [if_pos hv] at HS1
        have HV := Aside0.mk hv
        have HS3 := Aside0.mk HS1
        clear HS1 hv
        go_wp2_with (first | (go_at_call 45; (with_reducible refine (ent_any w _ g xs false HI.out HB.out (by have := HG.out.len; omega) HG.out.by_).mono ?_); rintro en w5 ⟨rfl, hI5, hB5, hK5⟩; have HO5 := Aside0.mk (Kd.R_mono (Kd.R_keep (Kd.R_types HO.out HBK.out (by decide)) hK5 (fun _ hk => hk.2)) (ok' := fun _ => True) (fun _ _ => trivial)); have HP5 := Aside0.mk (Kd.R_mono (Kd.R_keep (Kd.R_types HP.out HBK.out (by decide)) hK5 (fun _ hk => hk.2)) (ok' := fun _ => True) (fun _ _ => trivial)); have HI5 := Aside0.mk hI5; have HB5 := Aside0.mk hB5; have HX5 := Aside0.mk (hK5.blk HX.out HNE.out (by simp)); clear hI5 hB5 hK5 hh0 hh1 hh2 hc0 hc1) | ((with_reducible refine gate_builtin (b := .append) (xs := #[.tmp 27, .tmp 30]) rfl ?_); at_builtin; refine Kd.R_append k27 (w0 := w) w.heap.size rfl (.tmp 27) (.tmp 30) 29 27 (.agg #[(.string ⟨#[]⟩), (.int .u32 0), (.int .u16 0)]) 24 rfl Try.underlying29 info27 rfl (by decide) (by omega) u9 rows (mkE (ent xs false)) [.string (mkE (ent xs false)).f0, .int .u32 (mkE (ent xs false)).f1.f0, .int .u16 (mkE (ent xs false)).f1.f1] (fun _ => True) (fun _ => False) rfl (by first | (go_simp; done) | (go_simp; rfl)) ?aP (fun _ hk => hk.elim) ?aF ?aO ?aB ?aS ?aL ?_; (case aP => exact k27_mkM _ _ _ (mkE (ent xs false))); (case aB => exact (by repeat (first | (with_reducible first | exact HB5.out | apply below_alloc | apply pw_below_drewN | apply below_drew1) | exact HB5.out))); (case aF => exact (fun _ _ => trivial)); (case aO => exact (by (with_reducible repeat (first | apply Kd.R_alloc | apply Kd.R_drewN | apply Kd.R_drew)); exact Kd.R_mono HO5.out (fun _ _ => trivial))); (case aS => exact (below_size (by repeat (first | (with_reducible first | exact HB5.out | apply below_alloc | apply pw_below_drewN | apply below_drew1) | exact HB5.out)))); (case aL => have := HG.out.len; omega); intro v6 w6 ho hb hg_ hat; have HO6 := Aside0.mk ho; have HB6 := Aside0.mk hb; have HI6 := Aside0.mk (grown_cur (by first | exact HI5.out | exact HI5.out.alloc _) (by first | exact HO5.out | exact Kd.R_alloc HO5.out _) hg_); have HX6 := Aside0.mk (blk_grown (by first | exact HX5.out | exact blk_alloc HX5.out _) hg_ (Kd.R_ne (by first | exact HO5.out | exact Kd.R_alloc HO5.out _) (by first | exact HX5.out | exact blk_alloc HX5.out _) (by decide))); have HP6 := Aside0.mk (Kd.R_grown2 (by first | exact HP5.out | exact Kd.R_alloc HP5.out _) rfl hg_ (apart2 (by first | exact HP5.out | exact Kd.R_alloc HP5.out _) (by first | exact HO5.out | exact Kd.R_alloc HO5.out _) (by decide))); obtain ⟨A6, cc6, hbk6⟩ := HI6.out.blk; have HBK6 := Aside0.mk hbk6; have hc60 := (blk_cell hbk6 0).trans rfl; have hc61 := (blk_cell hbk6 1).trans rfl; have hh0 := (blk_cell HX6.out 0).trans rfl; have hh1 := (blk_cell HX6.out 1).trans rfl; have hh2 := (blk_cell HX6.out 2).trans rfl; clear hbk6; clear ho hb hg_ hat) | (go_at_call 47; (with_reducible refine (num_any w _ g (ent xs false).2.1 (ent xs false).2.2 4 HI6.out HB6.out HG2.out.1 HG2.out.2 (by omega) (by omega)).mono ?_); rintro en w7 ⟨rfl, hI7, hB7, hK7⟩; rw [HV.out] at hI7; have HO7 := Aside0.mk (Kd.R_mono (Kd.R_keep (Kd.R_types HO6.out HBK6.out (by decide)) hK7 (fun _ hk => hk.2)) (ok' := fun _ => True) (fun _ _ => trivial)); have HP7 := Aside0.mk (Kd.R_mono (Kd.R_keep (Kd.R_types HP6.out HBK6.out (by decide)) hK7 (fun _ hk => hk.2)) (ok' := fun _ => True) (fun _ _ => trivial)); have HI7 := Aside0.mk hI7; have HB7 := Aside0.mk hB7; have HX7 := Aside0.mk (hK7.blk HX6.out HNE.out (by simp)); clear hI7 hB7 hK7 hh0 hh1 hh2 hc60 hc61) | ((with_reducible refine gate_builtin (b := .append) (xs := #[.tmp 32, .tmp 35]) rfl ?_); at_builtin; refine Kd.R_append (Kd.int .u32) (w0 := w) w.heap.size rfl (.tmp 32) (.tmp 35) 46 22 (.int .u32 0) 4 rfl Try.underlying46 info22 rfl (by decide) (by omega) u8 cs (nv (tk (ent xs false).2.1 (ent xs false).2.2 4).1) [.int .u32 (nv (tk (ent xs false).2.1 (ent xs false).2.2 4).1)] (fun _ => True) (fun _ => False) rfl (by first | (go_simp; done) | (go_simp; rfl)) ?aP (fun _ hk => hk.elim) ?aF ?aO ?aB ?aS ?aL ?_; (case aP => exact rfl); (case aB => exact (by repeat (first | (with_reducible first | exact HB7.out | apply below_alloc | apply pw_below_drewN | apply below_drew1) | exact HB7.out))); (case aF => exact (fun _ _ => trivial)); (case aO => exact (by (with_reducible repeat (first | apply Kd.R_alloc | apply Kd.R_drewN | apply Kd.R_drew)); exact HP7.out)); (case aS => exact (below_size (by repeat (first | (with_reducible first | exact HB7.out | apply below_alloc | apply pw_below_drewN | apply below_drew1) | exact HB7.out)))); (case aL => have := HG.out.len; have := HCL.out; omega); intro v8 w8 ho hb hg_ hat; have HP8 := Aside0.mk ho; have HB8 := Aside0.mk hb; have HI8 := Aside0.mk (grown_curI (by first | exact HI7.out | exact HI7.out.alloc _) (by first | exact HP7.out | exact Kd.R_alloc HP7.out _) hg_); have HX8 := Aside0.mk (blk_grown (by first | exact HX7.out | exact blk_alloc HX7.out _) hg_ (Kd.R_ne (by first | exact HP7.out | exact Kd.R_alloc HP7.out _) (by first | exact HX7.out | exact blk_alloc HX7.out _) (by decide))); have HO8 := Aside0.mk (Kd.R_grown2 (by first | exact HO7.out | exact Kd.R_alloc HO7.out _) rfl hg_ (apart2 (by first | exact HO7.out | exact Kd.R_alloc HO7.out _) (by first | exact HP7.out | exact Kd.R_alloc HP7.out _) (by decide))); obtain ⟨A8, cc8, hbk8⟩ := HI8.out.blk; have HBK8 := Aside0.mk hbk8; have hc80 := (blk_cell hbk8 0).trans rfl; have hc81 := (blk_cell hbk8 1).trans rfl; have hh0 := (blk_cell HX8.out 0).trans rfl; have hh1 := (blk_cell HX8.out 1).trans rfl; have hh2 := (blk_cell HX8.out 2).trans rfl; clear hbk8; clear ho hb hg_ hat))
        go_ret3
        rw [← HS3.out]
        exact ⟨_, _, rfl, Kd.R_nil _ _ _ _ _, Kd.R_nil _ _ _ _ _, HB8.out⟩
      · have hv' : (tk (ent xs false).2.1 (ent xs false).2.2 4).2.2 = false := by simpa using hv
        rw [if_neg hv] at HS1
        have HV := Aside0.mk hv'
        have HS3 := Aside0.mk HS1
        clear HS1 hv hv'
        go_wp2_with (first | (go_at_call 45; (with_reducible refine (ent_any w _ g xs false HI.out HB.out (by have := HG.out.len; omega) HG.out.by_).mono ?_); rintro en w5 ⟨rfl, hI5, hB5, hK5⟩; have HO5 := Aside0.mk (Kd.R_mono (Kd.R_keep (Kd.R_types HO.out HBK.out (by decide)) hK5 (fun _ hk => hk.2)) (ok' := fun _ => True) (fun _ _ => trivial)); have HP5 := Aside0.mk (Kd.R_mono (Kd.R_keep (Kd.R_types HP.out HBK.out (by decide)) hK5 (fun _ hk => hk.2)) (ok' := fun _ => True) (fun _ _ => trivial)); have HI5 := Aside0.mk hI5; have HB5 := Aside0.mk hB5; have HX5 := Aside0.mk (hK5.blk HX.out HNE.out (by simp)); clear hI5 hB5 hK5 hh0 hh1 hh2 hc0 hc1) | ((with_reducible refine gate_builtin (b := .append) (xs := #[.tmp 27, .tmp 30]) rfl ?_); at_builtin; refine Kd.R_append k27 (w0 := w) w.heap.size rfl (.tmp 27) (.tmp 30) 29 27 (.agg #[(.string ⟨#[]⟩), (.int .u32 0), (.int .u16 0)]) 24 rfl Try.underlying29 info27 rfl (by decide) (by omega) u9 rows (mkE (ent xs false)) [.string (mkE (ent xs false)).f0, .int .u32 (mkE (ent xs false)).f1.f0, .int .u16 (mkE (ent xs false)).f1.f1] (fun _ => True) (fun _ => False) rfl (by first | (go_simp; done) | (go_simp; rfl)) ?aP (fun _ hk => hk.elim) ?aF ?aO ?aB ?aS ?aL ?_; (case aP => exact k27_mkM _ _ _ (mkE (ent xs false))); (case aB => exact (by repeat (first | (with_reducible first | exact HB5.out | apply below_alloc | apply pw_below_drewN | apply below_drew1) | exact HB5.out))); (case aF => exact (fun _ _ => trivial)); (case aO => exact (by (with_reducible repeat (first | apply Kd.R_alloc | apply Kd.R_drewN | apply Kd.R_drew)); exact Kd.R_mono HO5.out (fun _ _ => trivial))); (case aS => exact (below_size (by repeat (first | (with_reducible first | exact HB5.out | apply below_alloc | apply pw_below_drewN | apply below_drew1) | exact HB5.out)))); (case aL => have := HG.out.len; omega); intro v6 w6 ho hb hg_ hat; have HO6 := Aside0.mk ho; have HB6 := Aside0.mk hb; have HI6 := Aside0.mk (grown_cur (by first | exact HI5.out | exact HI5.out.alloc _) (by first | exact HO5.out | exact Kd.R_alloc HO5.out _) hg_); have HX6 := Aside0.mk (blk_grown (by first | exact HX5.out | exact blk_alloc HX5.out _) hg_ (Kd.R_ne (by first | exact HO5.out | exact Kd.R_alloc HO5.out _) (by first | exact HX5.out | exact blk_alloc HX5.out _) (by decide))); have HP6 := Aside0.mk (Kd.R_grown2 (by first | exact HP5.out | exact Kd.R_alloc HP5.out _) rfl hg_ (apart2 (by first | exact HP5.out | exact Kd.R_alloc HP5.out _) (by first | exact HO5.out | exact Kd.R_alloc HO5.out _) (by decide))); obtain ⟨A6, cc6, hbk6⟩ := HI6.out.blk; have HBK6 := Aside0.mk hbk6; have hc60 := (blk_cell hbk6 0).trans rfl; have hc61 := (blk_cell hbk6 1).trans rfl; have hh0 := (blk_cell HX6.out 0).trans rfl; have hh1 := (blk_cell HX6.out 1).trans rfl; have hh2 := (blk_cell HX6.out 2).trans rfl; clear hbk6; clear ho hb hg_ hat) | (go_at_call 47; (with_reducible refine (num_any w _ g (ent xs false).2.1 (ent xs false).2.2 4 HI6.out HB6.out HG2.out.1 HG2.out.2 (by omega) (by omega)).mono ?_); rintro en w7 ⟨rfl, hI7, hB7, hK7⟩; rw [HV.out] at hI7; have HO7 := Aside0.mk (Kd.R_mono (Kd.R_keep (Kd.R_types HO6.out HBK6.out (by decide)) hK7 (fun _ hk => hk.2)) (ok' := fun _ => True) (fun _ _ => trivial)); have HP7 := Aside0.mk (Kd.R_mono (Kd.R_keep (Kd.R_types HP6.out HBK6.out (by decide)) hK7 (fun _ hk => hk.2)) (ok' := fun _ => True) (fun _ _ => trivial)); have HI7 := Aside0.mk hI7; have HB7 := Aside0.mk hB7; have HX7 := Aside0.mk (hK7.blk HX6.out HNE.out (by simp)); clear hI7 hB7 hK7 hh0 hh1 hh2 hc60 hc61) | ((with_reducible refine gate_builtin (b := .append) (xs := #[.tmp 32, .tmp 35]) rfl ?_); at_builtin; refine Kd.R_append (Kd.int .u32) (w0 := w) w.heap.size rfl (.tmp 32) (.tmp 35) 46 22 (.int .u32 0) 4 rfl Try.underlying46 info22 rfl (by decide) (by omega) u8 cs (nv (tk (ent xs false).2.1 (ent xs false).2.2 4).1) [.int .u32 (nv (tk (ent xs false).2.1 (ent xs false).2.2 4).1)] (fun _ => True) (fun _ => False) rfl (by first | (go_simp; done) | (go_simp; rfl)) ?aP (fun _ hk => hk.elim) ?aF ?aO ?aB ?aS ?aL ?_; (case aP => exact rfl); (case aB => exact (by repeat (first | (with_reducible first | exact HB7.out | apply below_alloc | apply pw_below_drewN | apply below_drew1) | exact HB7.out))); (case aF => exact (fun _ _ => trivial)); (case aO => exact (by (with_reducible repeat (first | apply Kd.R_alloc | apply Kd.R_drewN | apply Kd.R_drew)); exact HP7.out)); (case aS => exact (below_size (by repeat (first | (with_reducible first | exact HB7.out | apply below_alloc | apply pw_below_drewN | apply below_drew1) | exact HB7.out)))); (case aL => have := HG.out.len; have := HCL.out; omega); intro v8 w8 ho hb hg_ hat; have HP8 := Aside0.mk ho; have HB8 := Aside0.mk hb; have HI8 := Aside0.mk (grown_curI (by first | exact HI7.out | exact HI7.out.alloc _) (by first | exact HP7.out | exact Kd.R_alloc HP7.out _) hg_); have HX8 := Aside0.mk (blk_grown (by first | exact HX7.out | exact blk_alloc HX7.out _) hg_ (Kd.R_ne (by first | exact HP7.out | exact Kd.R_alloc HP7.out _) (by first | exact HX7.out | exact blk_alloc HX7.out _) (by decide))); have HO8 := Aside0.mk (Kd.R_grown2 (by first | exact HO7.out | exact Kd.R_alloc HO7.out _) rfl hg_ (apart2 (by first | exact HO7.out | exact Kd.R_alloc HO7.out _) (by first | exact HP7.out | exact Kd.R_alloc HP7.out _) (by decide))); obtain ⟨A8, cc8, hbk8⟩ := HI8.out.blk; have HBK8 := Aside0.mk hbk8; have hc80 := (blk_cell hbk8 0).trans rfl; have hc81 := (blk_cell hbk8 1).trans rfl; have hh0 := (blk_cell HX8.out 0).trans rfl; have hh1 := (blk_cell HX8.out 1).trans rfl; have hh2 := (blk_cell HX8.out 2).trans rfl; clear hbk8; clear ho hb hg_ hat))
        go_roundg k1
        case measure => have := HK1.out; omega
        case rel =>
          have h1 := HI_.out
          have h3 := HK1.out
          have h4 := HC2.out
          exact ⟨_, _, i + 1, _, by rw [Byt.u16_eq, show (i + 1) % 65536 = i + 1 by omega], ⟨by omega⟩, HS3, HP8, HO8, HI8, HX8, HB8, ⟨HG.out.stepI HV.out⟩, ⟨by rw [List.length_append, List.length_append, List.length_singleton, List.length_singleton, HCL.out]⟩⟩
    · have c2b0 : decide (i < c0) = false := decide_eq_false c2
      have hk0 : gk = 0 := by have := HI_.out; omega
      have HS1 := HS.out
      rw [hk0, gi, fini] at HS1
      simp only at HS1
      obtain ⟨A7, c7, e7⟩ := Kd.R_slice HP.out
      subst e7
      obtain ⟨A8, c8, e8⟩ := Kd.R_slice HO.out
      subst e8
      have hpy := putI_by cs rows
      obtain ⟨p1, hp1⟩ : ∃ p, (putI cs rows).1 = p := ⟨_, rfl⟩
      obtain ⟨p2, hp2⟩ : ∃ p, (putI cs rows).2 = p := ⟨_, rfl⟩
      rw [hp1] at hpy
      rw [hp1, hp2] at HS1
      have HQP := Aside0.mk (And.intro hp1 (And.intro hp2 hpy))
      clear c2 hk0 hp1 hp2 hpy
      by_cases he : p2 = 0
      · have d0 : (p2 != 0) = false := by simpa using he
        by_cases hq : p1 = b
        · have HQ := Aside0.mk (show decide (p1 = b) = true from decide_eq_true hq)
          rw [if_pos ⟨he, hq⟩] at HS1
          have HS3 := Aside0.mk HS1
          clear HS1 he hq
          go_wp2_with (first | (go_at_call 23; (with_reducible refine (putInner_is HQP.out.1 HQP.out.2.1 _ A7 c7 A8 c8 HG.out.good (Kd.R_reads' HO.out).2.2 (Kd.R_reads' HO.out).2.1 (Kd.R_reads' HP.out).2.2 (by have := HG.out.len; have := HCL.out; omega)).mono ?_); rintro en w9 ⟨A9, c9, rfl, hc9, hC9, hb9⟩; have HC9 := Aside0.mk (And.intro hc9 hC9); have HB9 := Aside0.mk (below_then HB.out HB.out.size hb9); have HO9 := Aside0.mk (Kd.R_below HO.out hb9); have HP9 := Aside0.mk (Kd.R_below HP.out hb9); clear hc9 hC9 hb9 hh0 hh1 hh2 hc0 hc1) | (go_at_call 46; (with_reducible refine (equal_is HQ.out _ HC9.out.2 HC9.out.1 (Kd.C_below HC.out.1 HB9.out) HC.out.2.1 HQP.out.2.2 HC.out.2.2).mono ?_); rintro en w10 ⟨rfl, hb10⟩; have HB10 := Aside0.mk (below_then HB9.out HB9.out.size hb10); have HO10 := Aside0.mk (Kd.R_below HO9.out hb10); have HP10 := Aside0.mk (Kd.R_below HP9.out hb10); clear hb10))
          go_ret3
          rw [← HS3.out]
          exact ⟨_, _, rfl, HP10.out, HO10.out, HB10.out⟩
        · have HQ := Aside0.mk (show decide (p1 = b) = false from decide_eq_false hq)
          rw [if_neg (fun h => hq h.2)] at HS1
          have HS3 := Aside0.mk HS1
          clear HS1 he hq
          go_wp2_with (first | (go_at_call 23; (with_reducible refine (putInner_is HQP.out.1 HQP.out.2.1 _ A7 c7 A8 c8 HG.out.good (Kd.R_reads' HO.out).2.2 (Kd.R_reads' HO.out).2.1 (Kd.R_reads' HP.out).2.2 (by have := HG.out.len; have := HCL.out; omega)).mono ?_); rintro en w9 ⟨A9, c9, rfl, hc9, hC9, hb9⟩; have HC9 := Aside0.mk (And.intro hc9 hC9); have HB9 := Aside0.mk (below_then HB.out HB.out.size hb9); have HO9 := Aside0.mk (Kd.R_below HO.out hb9); have HP9 := Aside0.mk (Kd.R_below HP.out hb9); clear hc9 hC9 hb9 hh0 hh1 hh2 hc0 hc1) | (go_at_call 46; (with_reducible refine (equal_is HQ.out _ HC9.out.2 HC9.out.1 (Kd.C_below HC.out.1 HB9.out) HC.out.2.1 HQP.out.2.2 HC.out.2.2).mono ?_); rintro en w10 ⟨rfl, hb10⟩; have HB10 := Aside0.mk (below_then HB9.out HB9.out.size hb10); have HO10 := Aside0.mk (Kd.R_below HO9.out hb10); have HP10 := Aside0.mk (Kd.R_below HP9.out hb10); clear hb10))
          go_ret3
          rw [← HS3.out]
          exact ⟨_, _, rfl, Kd.R_nil _ _ _ _ _, Kd.R_nil _ _ _ _ _, HB10.out⟩
      · have d0 : (p2 != 0) = true := by simpa using he
        rw [if_neg (fun h => he h.1)] at HS1
        have HS3 := Aside0.mk HS1
        clear HS1 he
        go_wp2_with (first | (go_at_call 23; (with_reducible refine (putInner_is HQP.out.1 HQP.out.2.1 _ A7 c7 A8 c8 HG.out.good (Kd.R_reads' HO.out).2.2 (Kd.R_reads' HO.out).2.1 (Kd.R_reads' HP.out).2.2 (by have := HG.out.len; have := HCL.out; omega)).mono ?_); rintro en w9 ⟨A9, c9, rfl, hc9, hC9, hb9⟩; have HC9 := Aside0.mk (And.intro hc9 hC9); have HB9 := Aside0.mk (below_then HB.out HB.out.size hb9); have HO9 := Aside0.mk (Kd.R_below HO.out hb9); have HP9 := Aside0.mk (Kd.R_below HP.out hb9); clear hc9 hC9 hb9 hh0 hh1 hh2 hc0 hc1))
        go_ret3
        rw [← HS3.out]
        exact ⟨_, _, rfl, Kd.R_nil _ _ _ _ _, Kd.R_nil _ _ _ _ _, HB9.out⟩
end Go.Proofs.Ytihmkdjambdfjaa.Lf
namespace Go.Proofs.Ytihmkdjambdfjaa.PureL
open Go.RowKit Go.Proofs.YtihmkdjambdfjaaW.PrintWords Go.Proofs.Ytihmkdjambdfjaa.XLeaf Go.Proofs.Ytihmkdjambdfjaa.Lf Go.Proofs.Ytihmkdjambdfjaa.Tk
set_option linter.unusedVariables false
set_option linter.unusedSimpArgs false
theorem str_bytes (s : ByteArray) : strOfNums (bytesOf s) = s := by
  apply ByteArray.ext
  apply Array.toList_inj.1
  simp only [strOfNums, bytesOf, List.map_map]
  have h : ((fun n : Int => UInt8.ofNat n.toNat) ∘ fun b : UInt8 => ((b.toNat : Nat) : Int)) = id := by
    funext b
    simp
  show (List.map ((fun n : Int => UInt8.ofNat n.toNat) ∘ fun b : UInt8 => ((b.toNat : Nat) : Int)) s.data.toList).toArray.toList = _
  rw [h]
  simp
theorem nv2 (x : Int) (h : 0 ≤ x ∧ x < 65536) : nv (Tk.be2 x) = x := by
  simp only [nv, Tk.be2, List.foldl_cons, List.foldl_nil]
  omega
theorem nv4 (x : Int) (h : 0 ≤ x ∧ x < 4294967296) : nv (Tk.be4 x) = x := by
  simp only [nv, Tk.be4, List.foldl_cons, List.foldl_nil]
  omega
theorem tk_app (a b : List Int) (s : Bool) (n : Int) (h : n = a.length) : tk (a ++ b) s n = (a, b, s) := by
  subst h
  rw [tk, if_pos (by rw [List.length_append]; omega)]
  simp
/-- An entry that fits its kinds. -/
def okE (x : S27) : Prop := x.f0.size < 65536 ∧ 0 ≤ x.f1.f0 ∧ x.f1.f0 < 4294967296 ∧ 0 ≤ x.f1.f1 ∧ x.f1.f1 < 65536
theorem ent_wr (x : S27) (hx : okE x) (rest : List Int) (s : Bool) : ent (wrE x.f0 x.f1.f0 x.f1.f1 ++ rest) s = ((bytesOf x.f0, x.f1.f0, x.f1.f1), rest, s) := by
  have e : wrE x.f0 x.f1.f0 x.f1.f1 ++ rest = Tk.be2 x.f0.size ++ (bytesOf x.f0 ++ (Tk.be4 x.f1.f0 ++ (Tk.be2 x.f1.f1 ++ rest))) := by simp [wrE]
  rw [e]
  simp only [ent]
  rw [tk_app _ _ _ 2 rfl, nv2 _ (by have := hx.1; omega)]
  simp only
  rw [tk_app _ _ _ _ (by rw [bytesOf_length])]
  simp only
  rw [tk_app _ _ _ 4 rfl]
  simp only
  rw [tk_app _ _ _ 2 rfl, nv4 _ ⟨hx.2.1, hx.2.2.1⟩, nv2 _ hx.2.2.2]
theorem mk_wr (x : S27) (rest : List Int) (s : Bool) : mkE ((bytesOf x.f0, x.f1.f0, x.f1.f1), rest, s) = x := by
  rw [mkE, str_bytes]
theorem gl_wr : ∀ (l rows : List S27) (rest : List Int), (∀ x ∈ l, okE x) → gl l.length rows (wrL l ++ rest) = some (rows ++ l)
  | [], rows, rest, h => by simp [gl]
  | x :: l, rows, rest, h => by
    have e : wrL (x :: l) ++ rest = wrE x.f0 x.f1.f0 x.f1.f1 ++ (wrL l ++ rest) := by simp [wrL]
    rw [e, List.length_cons, gl, ent_wr x (h x (List.mem_cons_self ..)), if_neg (by simp), mk_wr, gl_wr l _ rest (fun y hy => h y (List.mem_cons_of_mem _ hy))]
    simp
theorem dg_pg (k c n : Int) (bs : List Int) (hb : bs.length ≤ 504) (hc : 0 ≤ c ∧ c < 65536) (hn : 0 ≤ n ∧ n < 4294967296) : dg (pgF k c n bs) = (k, c, n, true) := by
  have hl : (pgF k c n bs).length = 512 := by
    rw [pgF, List.length_append, List.length_append, List.length_replicate]
    show 8 + bs.length + (504 - bs.length) = 512
    omega
  have e : pgF k c n bs = [k, 0, c / 256 % 256, c % 256] ++ (Tk.be4 n ++ (bs ++ List.replicate (504 - bs.length) 0)) := by simp [pgF, hd, Tk.be4]
  rw [dg, hl]
  have r0 : rd (pgF k c n bs) 0 = k := by rw [e]; rfl
  have r1 : rd (pgF k c n bs) 1 = 0 := by rw [e]; rfl
  have r2 : rd (pgF k c n bs) 2 = c / 256 % 256 := by rw [e]; rfl
  have r3 : rd (pgF k c n bs) 3 = c % 256 := by rw [e]; rfl
  have r4 : ((pgF k c n bs).take 8).drop 4 = Tk.be4 n := by rw [e]; simp [Tk.be4]
  rw [r0, r1, r2, r3, r4, nv4 n hn, if_pos ⟨rfl, rfl⟩, show c / 256 % 256 * 256 + c % 256 = c by omega]
theorem may_len {l : List S27} {n : Int} (h : mayE l n = 0) (hx : ∀ x ∈ l, 0 ≤ x.f1.f0 ∧ x.f1.f0 < 4294967296 ∧ 0 ≤ x.f1.f1 ∧ x.f1.f1 < 65536) : ∀ x ∈ l, okE x := fun x hm => by
  have h2 := (mayE_0 h).2.1
  have : ¬ (200 < x.f0.size) := fun hg => by
    rw [longB, List.any_eq_false] at h2
    exact h2 x hm (by simpa using hg)
  exact ⟨by omega, hx x hm⟩
/-- What was put is got. -/
theorem get_putL (next : Int) (l : List S27) (hn : 0 ≤ next ∧ next < 4294967296) (hx : ∀ x ∈ l, 0 ≤ x.f1.f0 ∧ x.f1.f0 < 4294967296 ∧ 0 ≤ x.f1.f1 ∧ x.f1.f1 < 65536) (h : (putL next l).2 = 0) : getL (putL next l).1 = (next, l, 0) := by
  by_cases hm : mayE l (8 + szE l) = 0
  · have e : putL next l = (pgF 2 l.length next (wrL l), 0) := by rw [putL, if_pos hm]
    have hw : (wrL l).length ≤ 504 := by
      have h1 := wrL_len l
      have h2 := (mayE_0 hm).2.2
      omega
    have hl : (l.length : Int) < 65536 := by
      have h1 := szE_len l
      have h2 := (mayE_0 hm).2.2
      omega
    rw [e]
    simp only
    rw [getL, dg_pg 2 _ _ _ hw ⟨by omega, hl⟩ hn, if_pos ⟨rfl, rfl⟩]
    simp only
    have e8 : (pgF 2 l.length next (wrL l)).drop 8 = wrL l ++ List.replicate (504 - (wrL l).length) 0 := by
      rw [pgF, List.append_assoc]
      rfl
    rw [e8, Int.toNat_natCast, gl_wr l [] _ (may_len hm hx), List.nil_append, fin, e, if_pos ⟨rfl, rfl⟩]
  · rw [putL, if_neg hm] at h
    exact absurd h hm
theorem getI_putL (next : Int) (l : List S27) (hn : 0 ≤ next ∧ next < 4294967296) (h : (putL next l).2 = 0) : getI (putL next l).1 = ([], [], 2) := by
  by_cases hm : mayE l (8 + szE l) = 0
  · have e : putL next l = (pgF 2 l.length next (wrL l), 0) := by rw [putL, if_pos hm]
    have hw : (wrL l).length ≤ 504 := by
      have h1 := wrL_len l
      have h2 := (mayE_0 hm).2.2
      omega
    have hl : (l.length : Int) < 65536 := by
      have h1 := szE_len l
      have h2 := (mayE_0 hm).2.2
      omega
    rw [e]
    simp only
    rw [getI, dg_pg 2 _ _ _ hw ⟨by omega, hl⟩ hn, if_neg (by simp)]
  · rw [putL, if_neg hm] at h
    exact absurd h hm
/-! ### inner pages -/
theorem rdT_cons (x : S27) (l : List S27) (i : Nat) : rd_T27 (x :: l) ((i + 1 : Nat) : Int) = rd_T27 l (i : Int) := rfl
theorem rd_cons (x : Int) (l : List Int) (i : Nat) : rd (x :: l) ((i + 1 : Nat) : Int) = rd l (i : Int) := rfl
/-- Entries' and children's writing, behind the first child. -/
def wrP : List Int → List S27 → List Int
  | c :: cs, x :: l => wrE x.f0 x.f1.f0 x.f1.f1 ++ Tk.be4 c ++ wrP cs l
  | _, _ => []
theorem flat_shift (l : List S27) (cs : List Int) : ∀ (n : Nat), n = l.length → cs.length = l.length → ((List.range n).flatMap fun (i : Nat) => wrE (rd_T27 l (i : Int)).f0 (rd_T27 l (i : Int)).f1.f0 (rd_T27 l (i : Int)).f1.f1 ++ Tk.be4 (rd cs (i : Int))) = wrP cs l := by
  induction l generalizing cs with
  | nil => intro n hn hc; subst hn; cases cs with | nil => rfl | cons c cs => cases hc
  | cons x l ih =>
    intro n hn hc
    subst hn
    cases cs with
    | nil => cases hc
    | cons c cs =>
      rw [List.length_cons, List.range_succ_eq_map, List.flatMap_cons, List.flatMap_map, wrP, ← ih cs _ rfl (by simpa using hc)]
      rfl
theorem wrI_eq (c : Int) (cs : List Int) (l : List S27) (h : cs.length = l.length) : wrI (c :: cs) l l.length = Tk.be4 c ++ wrP cs l := by
  rw [wrI, ← flat_shift l cs _ rfl h]
  rfl
theorem gi_wr : ∀ (l : List S27) (cs cs0 : List Int) (rows : List S27) (rest : List Int), cs.length = l.length → (∀ x ∈ l, okE x) → (∀ c ∈ cs, 0 ≤ c ∧ c < 4294967296) → gi l.length cs0 rows (wrP cs l ++ rest) = some (cs0 ++ cs, rows ++ l)
  | [], cs, cs0, rows, rest, hl, h, hc => by cases cs with | nil => simp [gi] | cons c cs => cases hl
  | x :: l, [], cs0, rows, rest, hl, h, hc => by cases hl
  | x :: l, c :: cs, cs0, rows, rest, hl, h, hc => by
    have e : wrP (c :: cs) (x :: l) ++ rest = wrE x.f0 x.f1.f0 x.f1.f1 ++ (Tk.be4 c ++ (wrP cs l ++ rest)) := by simp [wrP]
    rw [e, List.length_cons, gi, ent_wr x (h x (List.mem_cons_self ..))]
    simp only
    rw [tk_app _ _ _ 4 rfl, if_neg (by simp), mk_wr, nv4 c (hc c (List.mem_cons_self ..)), gi_wr l cs _ _ rest (by simpa using hl) (fun y hy => h y (List.mem_cons_of_mem _ hy)) (fun y hy => hc y (List.mem_cons_of_mem _ hy))]
    simp
theorem putI_0 {cs : List Int} {l : List S27} (h : (putI cs l).2 = 0) : l.length ≠ 0 ∧ cs.length = l.length + 1 ∧ mayE l (8 + szE l + 4 * ((l.length : Int) + 1)) = 0 ∧ putI cs l = (pgF 3 l.length 0 (wrI cs l l.length), 0) := by
  unfold putI at h ⊢
  split at h
  · cases h
  · rename_i h1
    split at h
    · rename_i h2
      exact ⟨fun e => h1 (.inl e), Decidable.of_not_not fun e => h1 (.inr e), h2, by rw [if_neg h1, if_pos h2]⟩
    · rename_i h2
      exact absurd h h2
theorem get_putI (cs : List Int) (l : List S27) (hcs : ∀ c ∈ cs, 0 ≤ c ∧ c < 4294967296) (hx : ∀ x ∈ l, 0 ≤ x.f1.f0 ∧ x.f1.f0 < 4294967296 ∧ 0 ≤ x.f1.f1 ∧ x.f1.f1 < 65536) (h : (putI cs l).2 = 0) : getI (putI cs l).1 = (cs, l, 0) := by
  obtain ⟨h0, h1, hm, e⟩ := putI_0 h
  have h2 := (mayE_0 hm).2.2
  have h3 := szE_len l
  have h4 := wrI_len cs l l.length (Nat.le_refl _)
  rw [List.take_length] at h4
  have hw : (wrI cs l l.length).length ≤ 504 := by omega
  rw [e]
  simp only
  rw [getI, dg_pg 3 _ _ _ hw ⟨by omega, by omega⟩ (by omega), if_pos ⟨rfl, rfl⟩]
  simp only
  have e8 : (pgF 3 l.length 0 (wrI cs l l.length)).drop 8 = wrI cs l l.length ++ List.replicate (504 - (wrI cs l l.length).length) 0 := by
    rw [pgF, List.append_assoc]
    rfl
  cases cs with
  | nil => cases h1
  | cons c cs =>
    have hl : cs.length = l.length := by simpa using h1
    rw [e8]
    generalize List.replicate (504 - (wrI (c :: cs) l l.length).length) (0 : Int) = zs
    rw [wrI_eq c cs l hl, List.append_assoc]
    have t4 : (Tk.be4 c ++ (wrP cs l ++ zs)).take 4 = Tk.be4 c := by simp [Tk.be4]
    have d4 : (Tk.be4 c ++ (wrP cs l ++ zs)).drop 4 = wrP cs l ++ zs := by simp [Tk.be4]
    rw [t4, d4, nv4 c (hcs c (List.mem_cons_self ..)), Int.toNat_natCast, gi_wr l cs _ _ _ hl (may_len hm hx) (fun y hy => hcs y (List.mem_cons_of_mem _ hy)), fini]
    simp only [List.nil_append, List.singleton_append]
    rw [e, if_pos ⟨rfl, by rw [← wrI_eq c cs l hl]⟩]
theorem getL_putI (cs : List Int) (l : List S27) (h : (putI cs l).2 = 0) : getL (putI cs l).1 = (0, [], 2) := by
  obtain ⟨h0, h1, hm, e⟩ := putI_0 h
  have h2 := (mayE_0 hm).2.2
  have h3 := szE_len l
  have h4 := wrI_len cs l l.length (Nat.le_refl _)
  rw [List.take_length] at h4
  have hw : (wrI cs l l.length).length ≤ 504 := by omega
  rw [e]
  simp only
  rw [getL, dg_pg 3 _ _ _ hw ⟨by omega, by omega⟩ (by omega), if_neg (by simp)]
end Go.Proofs.Ytihmkdjambdfjaa.PureL
namespace Go.Proofs.Ytihmkdjambdfjaa.PureL
open Go.RowKit Go.Proofs.YtihmkdjambdfjaaW.PrintWords Go.Proofs.Ytihmkdjambdfjaa.XLeaf Go.Proofs.Ytihmkdjambdfjaa.Lf Go.Proofs.Ytihmkdjambdfjaa.Byt
set_option linter.unusedVariables false
set_option linter.unusedSimpArgs false
theorem wrn (n : Int) (h : -9223372036854775808 ≤ n ∧ n ≤ 9223372036854775807) : wrap64 n = n := Lf.wr_in n h
theorem wrs (i n : Nat) (h : i < n) (hn : n ≤ 9223372036854775807) : wrap64 ((i : Int) + 1) = ((i + 1 : Nat) : Int) := Lf.wr_s i n h hn
theorem Ev.cat_ {A : Nat → Option ByteArray} {G : Nat → ByteArray → Option ByteArray} {S : ByteArray} {b : List Int} {r : ByteArray} (hA : Ev A (strOfNums b)) (hs : S.size + b.length ≤ 9223372036854775807) (h : Ev (fun k => G k (strOfNums b)) r) :
    Ev (fun k => (A k).bind fun t => if S.size + t.size ≤ 9223372036854775807 then G k t else none) r :=
  Ev.bind (f := fun k t => if S.size + t.size ≤ 9223372036854775807 then G k t else none) hA (Ev.congr (fun k => if_pos (by rw [str_size]; exact hs)) h)
theorem u64_in (n : Int) (h : 0 ≤ n ∧ n < 18446744073709551616) : IntKind.u64.wrap n = n := by rw [u64_eq]; omega
theorem num_round (x n : Int) (hx : 0 ≤ x ∧ x < 18446744073709551616) (acc : List Int) (i : Nat) (hi : (i : Int) < n) (hn : n ≤ 100) (ha : acc.length ≤ 1000) {r : ByteArray} (h : Ev (fun k => rowlockref06_Number.l0 k (x / 256) n (strOfNums ((x % 256) :: acc)) ((i + 1 : Nat) : Int)) r) :
    Ev (fun k => rowlockref06_Number.l0 k x n (strOfNums acc) (i : Int)) r := by
  refine Ev.step (fun k => ?_) h
  have e1 : Int.tmod x 256 = x % 256 := Int.tmod_eq_emod_of_nonneg hx.1
  have e2 : Int.tdiv x 256 = x / 256 := Int.tdiv_eq_ediv_of_nonneg hx.1
  have e3 : strOfNums [x % 256] ++ strOfNums acc = strOfNums ((x % 256) :: acc) := (str_append _ _).symm
  rw [rowlockref06_Number.l0, if_pos hi, Option.bind_some, e1, e2, show x % 256 % 256 = x % 256 by omega, if_pos (by rw [str_size, str_size]; simp; omega), e3, u64_in (x / 256) (by omega), wrn _ (by omega)]
  rfl
theorem num_end (x n : Int) (acc : List Int) (i : Nat) (hi : (i : Int) = n) : Ev (fun k => rowlockref06_Number.l0 k x n (strOfNums acc) (i : Int)) (strOfNums acc) :=
  Ev.step (f := fun _ => some (strOfNums acc)) (fun k => by rw [rowlockref06_Number.l0, if_neg (by omega)]) (Ev.now _)
theorem num2 (x : Int) (hx : 0 ≤ x ∧ x < 18446744073709551616) : Ev (fun k => rowlockref06_Number.f k x 2) (strOfNums (Tk.be2 x)) := by
  have h := num_round x 2 hx [] 0 (by omega) (by omega) (by simp) (num_round (x / 256) 2 (by omega) _ 1 (by omega) (by omega) (by simp) (num_end (x / 256 / 256) 2 _ 2 (by omega)))
  exact Ev.congr (fun k => by rw [rowlockref06_Number.f]; rfl) h
theorem num4 (x : Int) (hx : 0 ≤ x ∧ x < 18446744073709551616) : Ev (fun k => rowlockref06_Number.f k x 4) (strOfNums (Tk.be4 x)) := by
  have h := num_round x 4 hx [] 0 (by omega) (by omega) (by simp) (num_round (x / 256) 4 (by omega) _ 1 (by omega) (by omega) (by simp) (num_round (x / 256 / 256) 4 (by omega) _ 2 (by omega) (by omega) (by simp) (num_round (x / 256 / 256 / 256) 4 (by omega) _ 3 (by omega) (by omega) (by simp) (num_end (x / 256 / 256 / 256 / 256) 4 _ 4 (by omega)))))
  rw [show x / 256 / 256 / 256 = x / 16777216 by omega, show x / 256 / 256 = x / 65536 by omega] at h
  exact Ev.congr (fun k => by rw [rowlockref06_Number.f]; rfl) h
theorem be2_len (x : Int) : (Tk.be2 x).length = 2 := rfl
theorem be4_len (x : Int) : (Tk.be4 x).length = 4 := rfl
theorem eEntry (x : S27) (hx : okE x) : Ev (fun k => rowlockref10_entry.f k x.f0 x.f1.f0 x.f1.f1) (strOfNums (Tk.wrE x.f0 x.f1.f0 x.f1.f1)) := by
  obtain ⟨h0, h1, h2, h3, h4⟩ := hx
  have e : strOfNums (Tk.wrE x.f0 x.f1.f0 x.f1.f1) = ((strOfNums (Tk.be2 x.f0.size) ++ x.f0) ++ strOfNums (Tk.be4 x.f1.f0)) ++ strOfNums (Tk.be2 x.f1.f1) := by
    rw [Tk.wrE, str_append, str_append, str_append, str_bytes]
  rw [e]
  refine Ev.congr (fun k => by rw [rowlockref10_entry.f, u64_in _ (by omega), u64_in _ (by omega), u64_in _ (by omega)]) ?_
  refine bind_ev (num2 _ ⟨by omega, by omega⟩) ?_
  refine Ev.congr (fun k => if_pos (by rw [str_size, be2_len]; omega)) ?_
  refine Ev.cat_ (num4 _ ⟨by omega, by omega⟩) (by rw [ByteArray.size_append, str_size, be2_len, be4_len]; omega) ?_
  refine Ev.cat_ (num2 _ ⟨by omega, by omega⟩) (by rw [ByteArray.size_append, ByteArray.size_append, str_size, str_size, be2_len, be4_len, be2_len]; omega) ?_
  exact Ev.now _
theorem eHead (k c n : Int) (hc : 0 ≤ c ∧ c < 65536) (hn : 0 ≤ n ∧ n < 4294967296) : Ev (fun q => rowlockref06_Head.f q k c n) (strOfNums (Tk.hd k c n ++ List.replicate 504 0)) := by
  have e : strOfNums (Tk.hd k c n ++ List.replicate 504 0) = ((strOfNums [k, 0] ++ strOfNums (Tk.be2 c)) ++ strOfNums (Tk.be4 n)) ++ strOfNums (List.replicate 504 0) := by
    rw [← str_append, ← str_append, ← str_append]
    rfl
  have hz : Ev (fun _ : Nat => rowlockref06_zeros.f 504) (strOfNums (List.replicate 504 0)) := Ev.congr (fun k => by rw [rowlockref06_zeros.f, if_pos (by decide), if_pos (by decide)]; rfl) (Ev.now _)
  rw [e]
  refine Ev.congr (fun q => by rw [rowlockref06_Head.f, Option.bind_some, u64_in _ (by omega), u64_in _ (by omega)]) ?_
  refine Ev.cat_ (num2 _ ⟨by omega, by omega⟩) (by rw [str_size, be2_len]; simp) ?_
  refine Ev.cat_ (num4 _ ⟨by omega, by omega⟩) (by rw [ByteArray.size_append, str_size, str_size, be2_len, be4_len]; simp) ?_
  refine Ev.cat_ hz (by rw [ByteArray.size_append, ByteArray.size_append, str_size, str_size, str_size, be2_len, be4_len, List.length_replicate]; simp) ?_
  exact Ev.now _
theorem hd_len (k c n : Int) : (Tk.hd k c n).length = 8 := rfl
theorem ePage (k c n : Int) (bs : List Int) (hc : 0 ≤ c ∧ c < 65536) (hn : 0 ≤ n ∧ n < 4294967296) (hb : bs.length ≤ 504) : Ev (fun q => rowlockref10_page.f q k c n (strOfNums bs)) (strOfNums (pgF k c n bs)) := by
  refine Ev.congr (fun q => by rw [rowlockref10_page.f]) (bind_ev (eHead k c n hc hn) ?_)
  have e8 : (strOfNums (Tk.hd k c n ++ List.replicate 504 0)).extract 0 8 = strOfNums (Tk.hd k c n) := by rw [str_extract]; rfl
  have hs : ((strOfNums (Tk.hd k c n) ++ strOfNums bs).size : Int) = 8 + bs.length := by rw [ByteArray.size_append, str_size, str_size, hd_len]; omega
  have hw : wrap64 (512 - ((strOfNums (Tk.hd k c n) ++ strOfNums bs).size : Int)) = 504 - bs.length := by rw [hs, wrn _ (by omega)]; omega
  have hw2 : (504 - (bs.length : Int)).toNat = 504 - bs.length := by omega
  simp only [e8]
  refine Ev.congr (fun q => ?_) (Ev.now (strOfNums (pgF k c n bs)))
  rw [hw, hw2, if_pos (by decide), if_pos (by rw [str_size, List.length_append, hd_len, List.length_replicate]; decide), if_pos (by rw [str_size, str_size, hd_len]; omega), if_pos (by omega), if_pos (by omega), Option.bind_some, if_pos (by rw [ByteArray.size_append, str_size, str_size, str_size, hd_len, List.length_replicate]; omega), pgF, str_append, str_append]
/-! ### may they be? -/
theorem rRise (l : List S27) (hl : l.length ≤ 9223372036854775806) : Ev (fun k => rowlockref10_Rise.f k l) (riseB l) := by
  have hend : ∀ n : Nat, l.length ≤ n → EvB (fun k => rowlockref10_Rise.l0 k l (l.length : Int) (n : Int)) True := fun n hn => EvB.step (f := fun _ => some true) (fun k => by rw [rowlockref10_Rise.l0, if_neg (by omega)]) (EvB.yes trivial)
  have key : EvB (fun k => rowlockref10_Rise.f k l) (riseB l = true) := by
    have h := EvB.loop (g := fun i k => rowlockref10_Rise.l0 k l (l.length : Int) ((i + 1 : Nat) : Int)) (l.length - 1) (fun i => cmpE (rd_T27 l (i : Int)) (rd_T27 l ((i + 1 : Nat) : Int)) < 0) True (hend _ (by omega)) (fun i Q hi h => by
      have e1 : wrap64 (((i + 1 : Nat) : Int) - 1) = (i : Int) := by rw [wrn _ (by omega)]; omega
      have e2 : wrap64 (((i + 1 : Nat) : Int) + 1) = ((i + 1 + 1 : Nat) : Int) := by rw [wrn _ (by omega)]; omega
      have hr := cmp_rng (rd_T27 l (i : Int)) (rd_T27 l ((i + 1 : Nat) : Int))
      refine EvB.step (f := fun k => if ls (rd_T27 l (i : Int)) (rd_T27 l ((i + 1 : Nat) : Int)) = true then rowlockref10_Rise.l0 k l (l.length : Int) ((i + 1 + 1 : Nat) : Int) else some false) (fun k => by
        rw [rowlockref10_Rise.l0, if_pos (by omega), if_pos (by omega), e1, e2, if_pos (by omega), if_pos (by omega), if_pos (by omega), if_pos (by omega), eLess, Option.bind_some]) ?_
      refine EvB.iteT (fun hc => h.imp ?_) (fun hc => EvB.no ?_)
      · have : cmpE (rd_T27 l (i : Int)) (rd_T27 l ((i + 1 : Nat) : Int)) = -1 := by simpa [ls] using hc
        exact ⟨fun h => ⟨by omega, h⟩, fun h => h.2⟩
      · have : ¬ cmpE (rd_T27 l (i : Int)) (rd_T27 l ((i + 1 : Nat) : Int)) = -1 := by simpa [ls] using hc
        exact fun h => this (by have := h.1; omega)) (l.length - 1) 0 (by omega)
    have h1 : EvB (fun k => rowlockref10_Rise.l0 k l (l.length : Int) 0) ((∀ i, 0 ≤ i → i < l.length - 1 → cmpE (rd_T27 l (i : Int)) (rd_T27 l ((i + 1 : Nat) : Int)) < 0) ∧ True) := by
      by_cases h0 : 0 < l.length
      · exact EvB.step (fun k => by rw [rowlockref10_Rise.l0, if_pos (by omega), if_neg (by omega), wrn _ (by omega)]; rfl) h
      · exact (hend 0 (by omega)).imp ⟨fun _ => ⟨fun i _ hi => absurd hi (by omega), trivial⟩, fun _ => trivial⟩
    exact (EvB.congr (fun k => by rw [rowlockref10_Rise.f]) h1).imp ⟨fun h => (riseB_iff l).2 (fun i hi => h.1 i (Nat.zero_le _) (by omega)), fun h => ⟨fun i h1 hi => (riseB_iff l).1 h i (by omega), trivial⟩⟩
  obtain ⟨r, hr, he⟩ := key
  have : r = riseB l := by cases r <;> cases h : riseB l <;> simp_all
  rw [← this]
  exact hr
theorem rSizeL8 (l : List S27) (hl : l.length ≤ 1000000) (hx : ∀ x ∈ l, x.f0.size ≤ 70000) : ∀ (m i : Nat) (a : Int), i + m = l.length → 0 ≤ a → a ≤ 70012 * (i : Int) + 12 → Ev (fun k => rowlockref10_Size.l0 k l 8 a (l.length : Int) (i : Int)) (a + szE (l.drop i))
  | 0, i, a, h, h0, h1 => by
    rw [List.drop_of_length_le (by omega), szE, show a + 0 = a by omega]
    exact Ev.step (f := fun _ => some a) (fun k => by rw [rowlockref10_Size.l0, if_neg (by omega)]) (Ev.now _)
  | m + 1, i, a, h, h0, h1 => by
    have hm : (rd_T27 l (i : Int)).f0.size ≤ 70000 := by rw [rd_at l i (by omega)]; exact hx _ (List.getElem_mem _)
    have ih := rSizeL8 l hl hx m (i + 1) (a + (((rd_T27 l (i : Int)).f0.size : Int) + 8)) (by omega) (by omega) (by omega)
    rw [Lf.drop_rd l i (by omega), szE, show a + (8 + ((rd_T27 l (i : Int)).f0.size : Int) + szE (l.drop (i + 1))) = a + (((rd_T27 l (i : Int)).f0.size : Int) + 8) + szE (l.drop (i + 1)) by omega]
    exact Ev.step (fun k => by rw [rowlockref10_Size.l0, if_pos (by omega), if_pos (by omega), if_pos (by omega), wrn (((rd_T27 l (i : Int)).f0.size : Int) + 8) (by omega), wrn (a + _) (by omega), wrs i l.length (by omega) (by omega)]) ih
theorem rSizeL12 (l : List S27) (hl : l.length ≤ 1000000) (hx : ∀ x ∈ l, x.f0.size ≤ 70000) : ∀ (m i : Nat) (a : Int), i + m = l.length → 0 ≤ a → a ≤ 70012 * (i : Int) + 12 → Ev (fun k => rowlockref10_Size.l0 k l 12 a (l.length : Int) (i : Int)) (a + szE (l.drop i) + 4 * (m : Int))
  | 0, i, a, h, h0, h1 => by
    rw [List.drop_of_length_le (by omega), szE, show a + 0 + 4 * ((0 : Nat) : Int) = a by omega]
    exact Ev.step (f := fun _ => some a) (fun k => by rw [rowlockref10_Size.l0, if_neg (by omega)]) (Ev.now _)
  | m + 1, i, a, h, h0, h1 => by
    have hm : (rd_T27 l (i : Int)).f0.size ≤ 70000 := by rw [rd_at l i (by omega)]; exact hx _ (List.getElem_mem _)
    have ih := rSizeL12 l hl hx m (i + 1) (a + (((rd_T27 l (i : Int)).f0.size : Int) + 12)) (by omega) (by omega) (by omega)
    rw [Lf.drop_rd l i (by omega), szE, show a + (8 + ((rd_T27 l (i : Int)).f0.size : Int) + szE (l.drop (i + 1))) + 4 * ((m + 1 : Nat) : Int) = a + (((rd_T27 l (i : Int)).f0.size : Int) + 12) + szE (l.drop (i + 1)) + 4 * (m : Int) by omega]
    exact Ev.step (fun k => by rw [rowlockref10_Size.l0, if_pos (by omega), if_pos (by omega), if_pos (by omega), wrn (((rd_T27 l (i : Int)).f0.size : Int) + 12) (by omega), wrn (a + _) (by omega), wrs i l.length (by omega) (by omega)]) ih
theorem rSize8 (l : List S27) (hg : goodE l) : Ev (fun k => rowlockref10_Size.f k l 8 8) (8 + szE l) := by
  have h := rSizeL8 l (by have := hg.1; omega) (fun x hx => (hg.2 x hx).1) l.length 0 8 (by omega) (by omega) (by omega)
  rw [List.drop_zero] at h
  exact Ev.congr (fun k => by rw [rowlockref10_Size.f]; rfl) h
theorem rSize12 (l : List S27) (hg : goodE l) : Ev (fun k => rowlockref10_Size.f k l 12 12) (8 + szE l + 4 * ((l.length : Int) + 1)) := by
  have h := rSizeL12 l (by have := hg.1; omega) (fun x hx => (hg.2 x hx).1) l.length 0 12 (by omega) (by omega) (by omega)
  rw [List.drop_zero, show (12 : Int) + szE l + 4 * (l.length : Int) = 8 + szE l + 4 * ((l.length : Int) + 1) by omega] at h
  exact Ev.congr (fun k => by rw [rowlockref10_Size.f]; rfl) h
theorem rMayL (l : List S27) (n : Int) (hl : l.length ≤ 9223372036854775806) : ∀ (m i : Nat), i + m = l.length → Ev (fun k => rowlockref10_may.l0 k l n (l.length : Int) (i : Int)) (if longB (l.drop i) = true then 1 else if n > 512 then 7 else 0)
  | 0, i, h => by
    rw [List.drop_of_length_le (by omega), if_neg (by simp [longB])]
    refine Ev.step (f := fun _ => if n > 512 then some 7 else some 0) (fun k => by rw [rowlockref10_may.l0, if_neg (by omega)]) ?_
    by_cases c : n > 512
    · simp only [if_pos c]; exact Ev.now _
    · simp only [if_neg c]; exact Ev.now _
  | m + 1, i, h => by
    have ih := rMayL l n hl m (i + 1) (by omega)
    rw [Lf.drop_rd l i (by omega)]
    by_cases c : ((rd_T27 l (i : Int)).f0.size : Int) > 200
    · rw [if_pos (by simp only [longB, List.any_cons, Bool.or_eq_true, decide_eq_true_eq]; exact .inl (by omega))]
      exact Ev.step (f := fun _ => some 1) (fun k => by rw [rowlockref10_may.l0, if_pos (by omega), if_pos (by omega), if_pos (by omega), if_pos c]) (Ev.now _)
    · have e : longB (rd_T27 l (i : Int) :: l.drop (i + 1)) = longB (l.drop (i + 1)) := by
        simp only [longB, List.any_cons]
        rw [decide_eq_false (by omega), Bool.false_or]
      rw [e]
      exact Ev.step (fun k => by rw [rowlockref10_may.l0, if_pos (by omega), if_pos (by omega), if_pos (by omega), if_neg c, wrs i l.length (by omega) (by omega)]) ih
theorem rMay (l : List S27) (n : Int) (hl : l.length ≤ 9223372036854775806) : Ev (fun k => rowlockref10_may.f k l n) (mayE l n) := by
  refine Ev.congr (fun k => by rw [rowlockref10_may.f]) (bind_ev (rRise l hl) ?_)
  have h := rMayL l n hl l.length 0 (by omega)
  rw [List.drop_zero] at h
  unfold mayE
  cases hr : riseB l
  · rw [if_pos (.inl rfl)]
    exact Ev.congr (fun k => if_neg (by simp)) (Ev.now _)
  · refine Ev.congr (fun k => if_pos rfl) ?_
    cases hb : longB l
    · rw [hb, if_neg (by simp)] at h
      rw [if_neg (by simp)]
      exact h
    · rw [hb, if_pos rfl] at h
      rw [if_pos (.inr rfl)]
      exact h
/-! ### the leaf's page -/
theorem rLeafL (next : Int) (l : List S27) (hn : 0 ≤ next ∧ next < 4294967296) (hx : ∀ x ∈ l, okE x) (hm : mayE l (8 + szE l) = 0) : ∀ (m i : Nat), i + m = l.length → Ev (fun k => rowlockref10_Leaf.l0 k next l (strOfNums (wrL (l.take i))) (l.length : Int) (i : Int)) (strOfNums (pgF 2 l.length next (wrL l)), 0)
  | 0, i, h => by
    have h1 := wrL_len l
    have h2 := (mayE_0 hm).2.2
    have h3 := szE_len l
    rw [List.take_of_length_le (by omega)]
    refine Ev.step (f := fun k => (rowlockref10_page.f k 2 (l.length : Int) next (strOfNums (wrL l))).bind fun t => some (t, 0)) (fun k => by
      rw [rowlockref10_Leaf.l0, if_neg (by omega), u16_eq, show (l.length : Int) % 65536 = l.length by omega]) ?_
    exact bind_ev (ePage 2 _ next _ ⟨by omega, by omega⟩ hn (by omega)) (Ev.now _)
  | m + 1, i, h => by
    have ih := rLeafL next l hn hx hm m (i + 1) (by omega)
    have h1 := wrL_len (l.take i)
    have h2 := szE_take l i
    have h3 := (mayE_0 hm).2.2
    have h4 := szE_len l
    rw [wrL_take l i (by omega), str_append] at ih
    have hxi : okE (rd_T27 l (i : Int)) := by rw [rd_at l i (by omega)]; exact hx _ (List.getElem_mem _)
    refine Ev.step (fun k => by rw [rowlockref10_Leaf.l0, if_pos (by omega), if_pos (by omega), if_pos (by omega)]) (bind_ev (eEntry _ hxi) ?_)
    refine Ev.congr (fun k => if_pos (by rw [str_size, str_size, wrE_len]; have := hxi.1; omega)) ?_
    exact Ev.congr (fun k => by rw [wrs i l.length (by omega) (by omega)]) ih
theorem eLeaf (next : Int) (l : List S27) (hn : 0 ≤ next ∧ next < 4294967296) (hg : goodE l) : Ev (fun k => rowlockref10_Leaf.f k next l) (strOfNums (putL next l).1, (putL next l).2) := by
  refine Ev.congr (fun k => by rw [rowlockref10_Leaf.f]) (bind_ev (rSize8 l hg) (bind_ev (rMay l _ (by have := hg.1; omega)) ?_))
  by_cases hm : mayE l (8 + szE l) = 0
  · refine Ev.congr (fun k => if_pos hm) ?_
    have h := rLeafL next l hn (may_len hm (fun x hx => (hg.2 x hx).2)) hm l.length 0 (by omega)
    rw [putL, if_pos hm]
    exact h
  · rw [putL, if_neg hm]
    exact Ev.congr (fun k => if_neg hm) (Ev.now _)
/-! ### the same entries -/
theorem eSame (l : List S27) (hl : l.length ≤ 9223372036854775806) : Ev (fun k => rowlockref10_Same.f k l l) true := by
  have key : ∀ (m i : Nat), i + m = l.length → Ev (fun k => rowlockref10_Same.l0 k l l (l.length : Int) (i : Int)) true := by
    intro m
    induction m with
    | zero => exact fun i h => Ev.step (f := fun _ => some true) (fun k => by rw [rowlockref10_Same.l0, if_neg (by omega)]) (Ev.now _)
    | succ m ih =>
      intro i h
      refine Ev.step (fun k => ?_) (ih (i + 1) (by omega))
      rw [rowlockref10_Same.l0, if_pos (by omega), if_pos (by omega), if_pos (by omega), if_pos (by omega), if_neg (by simp), wrs i l.length (by omega) (by omega)]
  exact Ev.congr (fun k => by rw [rowlockref10_Same.f, if_pos rfl]; rfl) (key l.length 0 (by omega))
/-! ### not more than is gone through -/
theorem eGreatS (l : List S27) (hl : l.length ≤ 9223372036854775807) : ∀ (m i : Nat) (a : Int), i + m = l.length → 0 ≤ a → a ≤ 9000 → ∃ r, Ev (fun k => rowlockref10_Great.l0 k l a (l.length : Int) (i : Int)) r ∧ (r = false → a + m ≤ 9000 ∧ ∀ x ∈ l.drop i, x.f0.size ≤ 9000)
  | 0, i, a, h, h0, h1 => ⟨false, Ev.step (f := fun _ => some false) (fun k => by rw [rowlockref10_Great.l0, if_neg (by omega)]) (Ev.now _), fun _ => ⟨by omega, fun x hx => by rw [List.drop_of_length_le (by omega)] at hx; cases hx⟩⟩
  | m + 1, i, a, h, h0, h1 => by
    obtain ⟨y, hy⟩ : ∃ y, y = a + (1 + (mn (((rd_T27 l (i : Int)).f0).size : Int) 9000)) := ⟨_, rfl⟩
    have hm : 0 ≤ mn (((rd_T27 l (i : Int)).f0).size : Int) 9000 ∧ mn (((rd_T27 l (i : Int)).f0).size : Int) 9000 ≤ 9000 := by
      unfold mn
      split <;> omega
    have hm2 : mn (((rd_T27 l (i : Int)).f0).size : Int) 9000 < 9000 → (rd_T27 l (i : Int)).f0.size ≤ 9000 := by
      unfold mn
      split <;> omega
    have hw : wrap64 y = y := wrn y (by omega)
    by_cases hg : y > 9000
    · exact ⟨true, Ev.step (f := fun _ => some true) (fun k => by rw [rowlockref10_Great.l0, if_pos (by omega), if_pos (by omega), if_pos (by omega), ← hy, hw, if_pos hg]) (Ev.now _), fun h => by cases h⟩
    · obtain ⟨r, hr, hp⟩ := eGreatS l hl m (i + 1) y (by omega) (by omega) (by omega)
      refine ⟨r, Ev.step (fun k => by rw [rowlockref10_Great.l0, if_pos (by omega), if_pos (by omega), if_pos (by omega), ← hy, hw, if_neg hg, wrs i l.length (by omega) (by omega)]) hr, fun h => ?_⟩
      obtain ⟨p1, p2⟩ := hp h
      refine ⟨by omega, fun x hx => ?_⟩
      rw [Lf.drop_rd l i (by omega)] at hx
      rcases List.mem_cons.1 hx with rfl | hx
      · exact hm2 (by omega)
      · exact p2 x hx
theorem eGreat' (l : List S27) (hl : l.length ≤ 9223372036854775807) : ∃ r, Ev (fun k => rowlockref10_Great.f k l) r ∧ (r = false → l.length ≤ 9000 ∧ ∀ x ∈ l, x.f0.size ≤ 9000) := by
  obtain ⟨r, hr, hp⟩ := eGreatS l hl l.length 0 0 (by omega) (by omega) (by omega)
  refine ⟨r, Ev.congr (fun k => by rw [rowlockref10_Great.f]; rfl) hr, fun h => ?_⟩
  obtain ⟨p1, p2⟩ := hp h
  rw [List.drop_zero] at p2
  exact ⟨by omega, p2⟩
end Go.Proofs.Ytihmkdjambdfjaa.PureL
namespace Go.Proofs.Ytihmkdjambdfjaa.PureL
open Go.RowKit Go.Proofs.YtihmkdjambdfjaaW.PrintWords Go.Proofs.YtihmkdjambdfjaaW.PrintLast Go.Proofs.YtihmkdjambdfjaaW.PrintMore Go.Proofs.Ytihmkdjambdfjaa.XLeaf Go.Proofs.Ytihmkdjambdfjaa.Lf
set_option linter.unusedVariables false
set_option linter.unusedSimpArgs false
set_option maxRecDepth 100000
theorem ba_self (x : ByteArray) : (x != x) = false := by
  have : (x == x) = true := by
    show x.beq x = true
    cases x
    simp [ByteArray.beq]
  show (!(x == x)) = false
  rw [this]; rfl
theorem bytes_str {l : List Int} (h : Tk.By l) : bytesOf (strOfNums l) = l := Byt.str_inj (fun x hx => Lf.bytesOf_by _ x hx) h (str_bytes _)
theorem conv_C (W : World) (xs : List Int) (hy : Tk.By xs) (hl : xs.length ≤ 9223372036854775807) : Kd.C (Kd.int .u8) (Lib.bytesWorld W 5 (strOfNums xs)) (some ⟨W.heap.size, 0, none⟩) xs.length xs := by
  have h := bytes_reads W 5 (strOfNums xs) (by rw [Byt.str_size]; exact hl)
  rw [Byt.str_size, bytes_str hy] at h
  exact Kd.C_of_reads (enc := Value.int .u8) (d := (0 : Int)) (h1 := fun _ => rfl) h
theorem clear_pg {W : World} {base : Nat} {ok : Nat → Prop} {A : Option Addr} {n c : Nat} {xs : List Int} (h : Kd.R (Kd.int .u8) 5 W base ok (.slice A n c) xs) : ∃ w1, (Builtin.clear_ #[36] 0 #[.slice A n c]).run Try.prog W = .ok (.tuple #[]) w1 ∧ W.grownBy w1 (Value.slice A n c).ownBlock :=
  Clr.clear_own Try.underlying36 (fun w => by obtain ⟨i0, hi0, hz, _⟩ := info_parts Tk.info5; simp [zeroValue, typeInfo, hi0, hz]) h 0
theorem put_is {next : Int} {l : List S27} {p : List Int} {e : Int} (h1 : (putL next l).1 = p) (h2 : (putL next l).2 = e) (w : World) (A : Option Addr) (c : Nat) (hg : goodE l) (hC : Kd.C k27 w A l.length l) (hc : l.length ≤ c) :
    Calls Try.prog 14 #[.int .u32 next, .slice A l.length c] w fun en w' => ∃ v, en = .returned (.tuple #[v, .int .i64 e]) ∧ Kd.R (Kd.int .u8) 5 w' w.heap.size (fun _ => True) v p ∧ Below w.heap.size w w' := by
  subst h1 h2
  exact putLeaf_ok w next A c l hg hC hc
theorem get_is {b : List Int} {n : Int} {l : List S27} {e : Int} (h : getL b = (n, l, e)) (w : World) (A : Option Addr) (c : Nat) (hC : Kd.C (Kd.int .u8) w A b.length b) (hc : b.length ≤ c) (hb : Tk.By b) :
    Calls Try.prog 20 #[.slice A b.length c] w fun en w' => ∃ v, en = .returned (.tuple #[.int .u32 n, v, .int .i64 e]) ∧ Kd.R k27 27 w' w.heap.size (fun _ => True) v l ∧ Below w.heap.size w w' := by
  have := getLeaf_ok w A c b hC hc hb
  rw [h] at this
  exact this
theorem geti_is {b : List Int} {cs : List Int} {l : List S27} {e : Int} (h : getI b = (cs, l, e)) (w : World) (A : Option Addr) (c : Nat) (hC : Kd.C (Kd.int .u8) w A b.length b) (hc : b.length ≤ c) (hb : Tk.By b) :
    Calls Try.prog 21 #[.slice A b.length c] w fun en w' => ∃ v1 v2, en = .returned (.tuple #[v1, v2, .int .i64 e]) ∧ Below w.heap.size w w' := by
  have := getInner_ok w A c b hC hc hb
  rw [h] at this
  refine this.mono ?_
  rintro en w' ⟨v1, v2, rfl, _, _, hb⟩
  exact ⟨v1, v2, rfl, hb⟩
theorem size_is {l : List S27} {n : Int} (h : 8 + szE l = n) (A : Option Addr) (c : Nat) (w : World) (hC : Kd.C k27 w A l.length l) (hc : l.length ≤ c) (hg : goodE l) : Calls Try.prog 18 #[.slice A l.length c] w fun e w' => e = .returned (.int .i64 n) ∧ Below w.heap.size w w' := by
  subst h
  exact size_ok A c l w hC hc hg
theorem le_cap (W : World) (p : List Int) : p.length ≤ grownCap W p.length 0 5 := grownCap_ge W p.length 0 5
theorem putL_len (next : Int) (l : List S27) : (putL next l).1.length ≤ 512 := by
  unfold putL
  split
  · rename_i hm
    have h1 := wrL_len l
    have h2 := (mayE_0 hm).2.2
    show (pgF 2 l.length next (wrL l)).length ≤ 512
    rw [pgF, List.length_append, List.length_append, List.length_replicate, hd_len]
    omega
  · simp
theorem bne_self' (b : Bool) : (b != b) = false := by cases b <;> rfl
theorem ibne_self (n : Int) : (n != n) = false := by simp
theorem ba_self2 (x : ByteArray) : (x == x) = true := by
  show x.beq x = true
  cases x
  simp [ByteArray.beq]
theorem clr_step {w w1 w8 w9 : World} {A A2 A9 : Option Addr} {l : List S27} {p : List Int} {c2 c9 n2 : Nat} (h1 : Below w.heap.size w w1) (h9 : Below w.heap.size w w9) (hC : Kd.C k27 w A l.length l) (hO : Kd.R (Kd.int .u8) 5 w9 w1.heap.size (fun _ => True) (.slice A2 n2 c2) p) (ho : Kd.R k27 27 w9 w8.heap.size (fun _ => True) (.slice A9 l.length c9) l) :
    ∃ wc, (Builtin.clear_ #[36] 0 #[.slice A2 n2 c2]).run Try.prog w9 = .ok (.tuple #[]) wc ∧ Below w.heap.size w wc ∧ Kd.C k27 wc A l.length l ∧ l.length ≤ c9 ∧ Kd.C k27 wc A9 l.length l := by
  obtain ⟨wc, hcl, hgc⟩ := clear_pg hO
  have hB := Below.grown h9 hgc h9.size (fun k hk => Nat.le_trans h1.size (Kd.R_base hO k hk))
  have hR := Kd.R_over' ho (Kd.R_typed hO) (by decide) hgc
  have h3 := Kd.R_reads' hR
  exact ⟨wc, hcl, hB, Kd.C_below hC hB, h3.2.1, h3.2.2⟩
set_option maxHeartbeats 8000000 in
theorem LeafPuts_ok (next : Int) (A : Option Addr) (c : Nat) (l : List S27) (w : World) (hC : Kd.C k27 w A l.length l) (hc : l.length ≤ c) (hl : l.length ≤ 9223372036854775807) (hn : 0 ≤ next ∧ next < 4294967296) (hx : ∀ x ∈ l, 0 ≤ x.f1.f0 ∧ x.f1.f0 < 4294967296 ∧ 0 ≤ x.f1.f1 ∧ x.f1.f1 < 65536) :
    Calls Try.prog 5 #[.int .u32 next, .slice A l.length c] w fun e w' => e = .returned (.bool true) ∧ Below w.heap.size w w' := by
  obtain ⟨r, hr, hp⟩ := eGreat' l (by omega)
  obtain ⟨kg, hkg⟩ := hr.rounds
  have HC := Aside0.mk (And.intro hC hc)
  cases r
  · obtain ⟨p1, p2⟩ := hp rfl
    have hg : goodE l := ⟨by omega, fun x hm => ⟨by have := p2 x hm; omega, hx x hm⟩⟩
    obtain ⟨kl, hkl⟩ := (eLeaf next l hn hg).rounds
    obtain ⟨ks, hks⟩ := (rSize8 l hg).rounds
    obtain ⟨kr, hkr⟩ := (rRise l (by omega)).rounds
    obtain ⟨kq, hkq⟩ := (eSame l (by omega)).rounds
    have hby := putL_by next l
    have hpl := putL_len next l
    have hgt := fun h => get_putL next l hn hx h
    have hgi := fun h => getI_putL next l hn h
    obtain ⟨p, hp1⟩ : ∃ p, p = (putL next l).1 := ⟨_, rfl⟩
    obtain ⟨e, hp2⟩ : ∃ e, e = (putL next l).2 := ⟨_, rfl⟩
    obtain ⟨rb, hrb⟩ : ∃ rb, rb = riseB l := ⟨_, rfl⟩
    obtain ⟨sz, hsz⟩ : ∃ sz, sz = 8 + szE l := ⟨_, rfl⟩
    rw [← hp1, ← hp2] at hkl
    rw [← hp1] at hby hgt hgi hpl
    replace hpl : p.length ≤ 9223372036854775807 := by omega
    rw [← hp2] at hgt hgi
    rw [← hrb] at hkr
    rw [← hsz] at hks
    have HG := Aside0.mk hg
    have HGR := Aside0.mk hkg
    have HP := Aside0.mk (And.intro hp1.symm (And.intro hp2.symm (And.intro hby hpl)))
    have HR := Aside0.mk (And.intro hrb.symm hsz.symm)
    have HK := Aside0.mk (And.intro hkl (And.intro hks (And.intro hkr hkq)))
    have b1 := bne_self' rb
    have b2 := ibne_self sz
    have b3 := ba_self (strOfNums p)
    have b4 := ibne_self e
    have kb := fun W => print_bytes (P := Try.prog) 9 36 5 Try.underlying9 Try.underlying36 Try.underlying5 (strOfNums p) W
    have hss : (strOfNums p).size = p.length := Byt.str_size p
    by_cases he : e = 0
    · have b5 : (e != 0) = false := by simp [he]
      have hgt' := Aside0.mk (hgt he)
      have hgi' := Aside0.mk (hgi he)
      clear hC hc hl hn hx hp p1 p2 hg hkg hkl hks hkr hkq hby hgt hgi hp1 hp2 hrb hsz hpl he
      go_enter Try.func5, Try.ntmps5
      go_wp2_with (first
        | (go_at_call 9; (with_reducible refine (rowlockref10_Great.calls kg A c l false w HC.out.1 HC.out.2 HGR.out).mono ?_); rintro en w1 ⟨rfl, hb⟩; have HB1 := Aside0.mk hb; have HC1 := Aside0.mk (Kd.C_below HC.out.1 hb); clear hb)
        | (go_at_call 14; (with_reducible refine (put_is HP.out.1 HP.out.2.1 w1 A c HG.out HC1.out HC.out.2).mono ?_); rintro en w2 ⟨v, rfl, ho, hb⟩; obtain ⟨A2, c2, e2⟩ := Kd.R_slice ho; subst e2; have HO2 := Aside0.mk ho; have HB2 := Aside0.mk (below_then HB1.out HB1.out.size hb); have HC2 := Aside0.mk (Kd.C_below HC1.out hb); clear ho hb)
        | (go_at_call 15; (with_reducible refine (rowlockref10_Leaf.calls kl next A c l (strOfNums p) e w2 HC2.out HC.out.2 HK.out.1).mono ?_); rintro en w3 ⟨rfl, hb⟩; have HO3 := Aside0.mk (Kd.R_below HO2.out hb); have HB3 := Aside0.mk (below_then HB2.out HB2.out.size hb); have HC3 := Aside0.mk (Kd.C_below HC2.out hb); clear hb)
        | (go_at_call 10; (with_reducible refine (fixed_ok w3).mono ?_); rintro en w4 ⟨rfl, hb⟩; have HO4 := Aside0.mk (Kd.R_below HO3.out hb); have HB4 := Aside0.mk (below_then HB3.out HB3.out.size hb); have HC4 := Aside0.mk (Kd.C_below HC3.out hb); have hcv4 := own_string (P := Try.prog) Try.underlying36 Try.underlying5 Try.underlying9 (Kd.own_of_R HO4.out); clear hb)
        | (go_at_call 16; (with_reducible refine (rise_is HR.out.1 w4 HC4.out HC.out.2 HG.out.len).mono ?_); rintro en w5 ⟨rfl, hb⟩; have HO5 := Aside0.mk (Kd.R_below HO4.out hb); have HB5 := Aside0.mk (below_then HB4.out HB4.out.size hb); have HC5 := Aside0.mk (Kd.C_below HC4.out hb); clear hb hcv4)
        | (go_at_call 17; (with_reducible refine (rowlockref10_Rise.calls kr A c l rb w5 HC5.out HC.out.2 HK.out.2.2.1).mono ?_); rintro en w6 ⟨rfl, hb⟩; have HO6 := Aside0.mk (Kd.R_below HO5.out hb); have HB6 := Aside0.mk (below_then HB5.out HB5.out.size hb); have HC6 := Aside0.mk (Kd.C_below HC5.out hb); clear hb)
        | (go_at_call 18; (with_reducible refine (size_is HR.out.2 A c w6 HC6.out HC.out.2 HG.out).mono ?_); rintro en w7 ⟨rfl, hb⟩; have HO7 := Aside0.mk (Kd.R_below HO6.out hb); have HB7 := Aside0.mk (below_then HB6.out HB6.out.size hb); have HC7 := Aside0.mk (Kd.C_below HC6.out hb); clear hb)
        | (go_at_call 19; (with_reducible refine (rowlockref10_Size.calls ks A c l 8 8 sz w7 HC7.out HC.out.2 HK.out.2.1).mono ?_); rintro en w8 ⟨rfl, hd⟩; have hb := hd.below; have HO8 := Aside0.mk (Kd.R_below HO7.out hb); have HB8 := Aside0.mk (below_then HB7.out HB7.out.size hb); have HC8 := Aside0.mk (Kd.C_below HC7.out hb); clear hb hd)
        | (go_at_call 20; (with_reducible refine (get_is hgt'.out w8 A2 c2 (Kd.R_reads' HO8.out).2.2 (Kd.R_reads' HO8.out).2.1 HP.out.2.2.1).mono ?_); rintro en w9 ⟨v9, rfl, ho, hb⟩; obtain ⟨A9, c9, e9⟩ := Kd.R_slice ho; subst e9; obtain ⟨wc, hcl, hq⟩ := clr_step HB1.out (below_then HB8.out HB8.out.size hb) HC.out.1 (Kd.R_below HO8.out hb) ho; have HQ := Aside0.mk hq; clear ho hb hq)
        | (go_at_call 21; (with_reducible refine (geti_is hgi'.out _ _ _ (conv_C wc p HP.out.2.2.1 HP.out.2.2.2) (le_cap wc p) HP.out.2.2.1).mono ?_); rintro en w11 ⟨v1, v2, rfl, hb⟩; have hbc := bytes_below HQ.out.1 HQ.out.1.size 5 (strOfNums p); have hbd := below_then hbc hbc.size hb; have HB11 := Aside0.mk hbd; have HC11 := Aside0.mk (Kd.C_below HC.out.1 hbd); have HD11 := Aside0.mk (Kd.C_below HQ.out.2.2.2 (below_then (bytes_below (Below.refl _ _) (Nat.le_refl _) 5 (strOfNums p)) (by rw [Lib.bytesWorld_size]; omega) hb)); clear hb hbc hbd)
        | (go_at_call 22; (with_reducible refine (rowlockref10_Same.calls kq A c l A9 c9 l true w11 HC11.out HC.out.2 HD11.out HQ.out.2.2.1 HK.out.2.2.2).mono ?_); rintro en w12 ⟨rfl, hd⟩; have HB12 := Aside0.mk (below_then HB11.out HB11.out.size hd.below); clear hd))
      go_ret
      exact ⟨rfl, HB12.out⟩
    · have b5 : (e != 0) = true := by simpa using he
      clear hC hc hl hn hx hp p1 p2 hg hkg hkl hks hkr hkq hby hgt hgi hp1 hp2 hrb hsz hpl he
      go_enter Try.func5, Try.ntmps5
      go_wp2_with (first
        | (go_at_call 9; (with_reducible refine (rowlockref10_Great.calls kg A c l false w HC.out.1 HC.out.2 HGR.out).mono ?_); rintro en w1 ⟨rfl, hb⟩; have HB1 := Aside0.mk hb; have HC1 := Aside0.mk (Kd.C_below HC.out.1 hb); clear hb)
        | (go_at_call 14; (with_reducible refine (put_is HP.out.1 HP.out.2.1 w1 A c HG.out HC1.out HC.out.2).mono ?_); rintro en w2 ⟨v, rfl, ho, hb⟩; obtain ⟨A2, c2, e2⟩ := Kd.R_slice ho; subst e2; have HO2 := Aside0.mk ho; have HB2 := Aside0.mk (below_then HB1.out HB1.out.size hb); have HC2 := Aside0.mk (Kd.C_below HC1.out hb); clear ho hb)
        | (go_at_call 15; (with_reducible refine (rowlockref10_Leaf.calls kl next A c l (strOfNums p) e w2 HC2.out HC.out.2 HK.out.1).mono ?_); rintro en w3 ⟨rfl, hb⟩; have HO3 := Aside0.mk (Kd.R_below HO2.out hb); have HB3 := Aside0.mk (below_then HB2.out HB2.out.size hb); have HC3 := Aside0.mk (Kd.C_below HC2.out hb); clear hb)
        | (go_at_call 10; (with_reducible refine (fixed_ok w3).mono ?_); rintro en w4 ⟨rfl, hb⟩; have HO4 := Aside0.mk (Kd.R_below HO3.out hb); have HB4 := Aside0.mk (below_then HB3.out HB3.out.size hb); have HC4 := Aside0.mk (Kd.C_below HC3.out hb); have hcv4 := own_string (P := Try.prog) Try.underlying36 Try.underlying5 Try.underlying9 (Kd.own_of_R HO4.out); clear hb)
        | (go_at_call 16; (with_reducible refine (rise_is HR.out.1 w4 HC4.out HC.out.2 HG.out.len).mono ?_); rintro en w5 ⟨rfl, hb⟩; have HO5 := Aside0.mk (Kd.R_below HO4.out hb); have HB5 := Aside0.mk (below_then HB4.out HB4.out.size hb); have HC5 := Aside0.mk (Kd.C_below HC4.out hb); clear hb hcv4)
        | (go_at_call 17; (with_reducible refine (rowlockref10_Rise.calls kr A c l rb w5 HC5.out HC.out.2 HK.out.2.2.1).mono ?_); rintro en w6 ⟨rfl, hb⟩; have HO6 := Aside0.mk (Kd.R_below HO5.out hb); have HB6 := Aside0.mk (below_then HB5.out HB5.out.size hb); have HC6 := Aside0.mk (Kd.C_below HC5.out hb); clear hb)
        | (go_at_call 18; (with_reducible refine (size_is HR.out.2 A c w6 HC6.out HC.out.2 HG.out).mono ?_); rintro en w7 ⟨rfl, hb⟩; have HO7 := Aside0.mk (Kd.R_below HO6.out hb); have HB7 := Aside0.mk (below_then HB6.out HB6.out.size hb); have HC7 := Aside0.mk (Kd.C_below HC6.out hb); clear hb)
        | (go_at_call 19; (with_reducible refine (rowlockref10_Size.calls ks A c l 8 8 sz w7 HC7.out HC.out.2 HK.out.2.1).mono ?_); rintro en w8 ⟨rfl, hd⟩; have hb := hd.below; have HO8 := Aside0.mk (Kd.R_below HO7.out hb); have HB8 := Aside0.mk (below_then HB7.out HB7.out.size hb); have HC8 := Aside0.mk (Kd.C_below HC7.out hb); clear hb hd))
      go_ret
      exact ⟨rfl, HB8.out⟩
  · clear hp
    have HGR := Aside0.mk hkg
    clear hC hc hl hn hx hkg
    go_enter Try.func5, Try.ntmps5
    go_wp2_with (first
      | (go_at_call 9; (with_reducible refine (rowlockref10_Great.calls kg A c l true w HC.out.1 HC.out.2 HGR.out).mono ?_); rintro en w1 ⟨rfl, hb⟩; have HB1 := Aside0.mk hb; clear hb)
      | (go_at_call 10; (with_reducible refine (fixed_ok w1).mono ?_); rintro en w4 ⟨rfl, hb⟩; have HB4 := Aside0.mk (below_then HB1.out HB1.out.size hb); clear hb))
    go_ret
    exact ⟨rfl, HB4.out⟩
end Go.Proofs.Ytihmkdjambdfjaa.PureL
namespace Go.Proofs.Ytihmkdjambdfjaa.PureL
open Go.RowKit Go.Proofs.YtihmkdjambdfjaaW.PrintWords Go.Proofs.Ytihmkdjambdfjaa.XLeaf Go.Proofs.Ytihmkdjambdfjaa.Lf Go.Proofs.Ytihmkdjambdfjaa.Byt
set_option linter.unusedVariables false
set_option linter.unusedSimpArgs false
theorem rd_in {cs : List Int} (h : ∀ c ∈ cs, 0 ≤ c ∧ c < 4294967296) (i : Nat) (hi : i < cs.length) : 0 ≤ rd cs (i : Int) ∧ rd cs (i : Int) < 4294967296 := by
  have e : rd cs (i : Int) = cs[i] := by
    rw [rd, List.getD_eq_getElem?_getD, Int.toNat_natCast, List.getElem?_eq_getElem hi]
    rfl
  rw [e]
  exact h _ (List.getElem_mem _)
theorem rInnerL (cs : List Int) (l : List S27) (hcs : ∀ c ∈ cs, 0 ≤ c ∧ c < 4294967296) (hlen : cs.length = l.length + 1) (hx : ∀ x ∈ l, okE x) (hm : mayE l (8 + szE l + 4 * ((l.length : Int) + 1)) = 0) : ∀ (m i : Nat), i + m = l.length → Ev (fun k => rowlockref10_Inner.l0 k cs l (strOfNums (wrI cs l i)) (l.length : Int) (i : Int)) (strOfNums (pgF 3 l.length 0 (wrI cs l l.length)), 0)
  | 0, i, h => by
    have h1 := wrI_len cs l l.length (Nat.le_refl _)
    rw [List.take_length] at h1
    have h2 := (mayE_0 hm).2.2
    have h3 := szE_len l
    obtain rfl : i = l.length := by omega
    refine Ev.step (f := fun k => (rowlockref10_page.f k 3 (l.length : Int) 0 (strOfNums (wrI cs l l.length))).bind fun t => some (t, 0)) (fun k => by
      rw [rowlockref10_Inner.l0, if_neg (by omega), u16_eq, show (l.length : Int) % 65536 = l.length by omega]) ?_
    exact bind_ev (ePage 3 _ 0 _ ⟨by omega, by omega⟩ (by omega) (by omega)) (Ev.now _)
  | m + 1, i, h => by
    have ih := rInnerL cs l hcs hlen hx hm m (i + 1) (by omega)
    have h1 := wrI_len cs l i (by omega)
    have h2 := szE_take l i
    have h3 := (mayE_0 hm).2.2
    have h4 := szE_len l
    have hc := rd_in hcs (i + 1) (by omega)
    rw [wrI_step, str_append, str_append] at ih
    have hxi : okE (rd_T27 l (i : Int)) := by rw [rd_at l i (by omega)]; exact hx _ (List.getElem_mem _)
    refine Ev.step (fun k => by rw [rowlockref10_Inner.l0, if_pos (by omega), if_pos (by omega), if_pos (by omega), wrs i l.length (by omega) (by omega)]) (bind_ev (eEntry _ hxi) ?_)
    refine Ev.congr (fun k => by rw [if_pos (by rw [str_size, str_size, wrE_len]; have := hxi.1; omega), if_pos (by omega), if_pos (by omega), u64_in (rd cs ((i + 1 : Nat) : Int)) (by omega)]) ?_
    refine bind_ev (num4 (rd cs ((i + 1 : Nat) : Int)) ⟨by omega, by omega⟩) (Ev.congr (fun k => if_pos ?_) ?_)
    · rw [str_size, ByteArray.size_append, str_size, str_size, wrE_len, be4_len]
      have := hxi.1
      omega
    · exact ih
theorem eInner (cs : List Int) (l : List S27) (hcs : ∀ c ∈ cs, 0 ≤ c ∧ c < 4294967296) (hg : goodE l) : Ev (fun k => rowlockref10_Inner.f k cs l) (strOfNums (putI cs l).1, (putI cs l).2) := by
  have hno : ∀ x : Bool, x = true → Ev (fun k => rowlockref10_Inner.j0 k cs l x) (strOfNums [], 1) := fun x hx => Ev.step (f := fun _ => some (strOfNums [], 1)) (fun k => by rw [rowlockref10_Inner.j0, if_pos hx]; rfl) (Ev.now _)
  by_cases h0 : l.length = 0
  · rw [putI, if_pos (.inl h0)]
    exact Ev.congr (fun k => by rw [rowlockref10_Inner.f, if_pos (by omega)]) (hno _ rfl)
  · have hw : wrap64 ((l.length : Int) + 1) = ((l.length + 1 : Nat) : Int) := by rw [wrn _ (by have := hg.1; omega)]; omega
    refine Ev.congr (g := fun k => rowlockref10_Inner.f k cs l) (f := fun k => rowlockref10_Inner.j0 k cs l ((cs.length : Int) != ((l.length + 1 : Nat) : Int))) (fun k => by rw [rowlockref10_Inner.f, if_neg (by omega), hw]) ?_
    by_cases h1 : cs.length = l.length + 1
    · have hb : ((cs.length : Int) != ((l.length + 1 : Nat) : Int)) = false := by simp [h1]
      rw [hb]
      refine Ev.step (fun k => by rw [rowlockref10_Inner.j0, if_neg (by decide)]) (bind_ev (rSize12 l hg) (bind_ev (rMay l _ (by have := hg.1; omega)) ?_))
      by_cases hm : mayE l (8 + szE l + 4 * ((l.length : Int) + 1)) = 0
      · rw [putI, if_neg (by omega), if_pos hm]
        have hc : 0 ≤ rd cs 0 ∧ rd cs 0 < 4294967296 := rd_in hcs 0 (by omega)
        refine Ev.congr (fun k => by rw [if_pos hm, if_pos (by omega), u64_in (rd cs 0) (by omega)]) (bind_ev (num4 (rd cs 0) ⟨by omega, by omega⟩) ?_)
        have h := rInnerL cs l hcs h1 (may_len hm (fun x hx => (hg.2 x hx).2)) hm l.length 0 (by omega)
        have e0 : wrI cs l 0 = Tk.be4 (rd cs ((0 : Nat) : Int)) := by simp [wrI]
        rw [e0] at h
        exact h
      · rw [putI, if_neg (by omega), if_neg hm]
        exact Ev.congr (fun k => if_neg hm) (Ev.now _)
    · rw [putI, if_pos (.inr h1)]
      exact hno _ (by simp; omega)
/-! ### the same children -/
theorem eSm (l : List Int) (hl : l.length ≤ 9223372036854775806) : Ev (fun k => rowlocklaw10_same.f k l l) true := by
  have key : ∀ (m i : Nat), i + m = l.length → Ev (fun k => rowlocklaw10_same.l0 k l l (l.length : Int) (i : Int)) true := by
    intro m
    induction m with
    | zero => exact fun i h => Ev.step (f := fun _ => some true) (fun k => by rw [rowlocklaw10_same.l0, if_neg (by omega)]) (Ev.now _)
    | succ m ih =>
      intro i h
      refine Ev.step (fun k => ?_) (ih (i + 1) (by omega))
      rw [rowlocklaw10_same.l0, if_pos (by omega), if_pos (by omega), if_pos (by omega), if_pos (by omega), if_pos rfl, wrs i l.length (by omega) (by omega)]
  exact Ev.congr (fun k => by rw [rowlocklaw10_same.f, if_pos rfl]; rfl) (key l.length 0 (by omega))
end Go.Proofs.Ytihmkdjambdfjaa.PureL
namespace Go.Proofs.Ytihmkdjambdfjaa.PureL
open Go.RowKit Go.Proofs.YtihmkdjambdfjaaW.PrintWords Go.Proofs.YtihmkdjambdfjaaW.PrintLast Go.Proofs.YtihmkdjambdfjaaW.PrintMore Go.Proofs.Ytihmkdjambdfjaa.XLeaf Go.Proofs.Ytihmkdjambdfjaa.Lf
set_option linter.unusedVariables false
set_option linter.unusedSimpArgs false
set_option maxRecDepth 100000
theorem geti_is2 {b : List Int} {cs : List Int} {l : List S27} {e : Int} (h : getI b = (cs, l, e)) (w : World) (A : Option Addr) (c : Nat) (hC : Kd.C (Kd.int .u8) w A b.length b) (hc : b.length ≤ c) (hb : Tk.By b) :
    Calls Try.prog 21 #[.slice A b.length c] w fun en w' => ∃ v1 v2, en = .returned (.tuple #[v1, v2, .int .i64 e]) ∧ Kd.R (Kd.int .u32) 22 w' w.heap.size (fun _ => True) v1 cs ∧ Kd.R k27 27 w' w.heap.size (fun _ => True) v2 l ∧ Below w.heap.size w w' := by
  have := getInner_ok w A c b hC hc hb
  rw [h] at this
  exact this
theorem getl_is {b : List Int} {n : Int} {l : List S27} {e : Int} (h : getL b = (n, l, e)) (w : World) (A : Option Addr) (c : Nat) (hC : Kd.C (Kd.int .u8) w A b.length b) (hc : b.length ≤ c) (hb : Tk.By b) :
    Calls Try.prog 20 #[.slice A b.length c] w fun en w' => ∃ v, en = .returned (.tuple #[.int .u32 n, v, .int .i64 e]) ∧ Below w.heap.size w w' := by
  refine (get_is h w A c hC hc hb).mono ?_
  rintro en w' ⟨v, rfl, _, hb⟩
  exact ⟨v, rfl, hb⟩
theorem isize_is {l : List S27} {n : Int} (h : 8 + szE l + 4 * ((l.length : Int) + 1) = n) (A : Option Addr) (c : Nat) (w : World) (hC : Kd.C k27 w A l.length l) (hc : l.length ≤ c) (hg : goodE l) : Calls Try.prog 25 #[.slice A l.length c] w fun e w' => e = .returned (.int .i64 n) ∧ Below w.heap.size w w' := by
  subst h
  exact isize_ok A c l w hC hc hg
theorem cut_in {n : Nat} {cs ds : List Int} (hds : (([] ++ cs) ++ List.replicate ((n : Int) + 1).toNat (0 : Int)).take ((n : Int) + 1).toNat = ds) {w1 : World} {base : Nat} {ok : Nat → Prop} {v : Value} (h : Kd.R (Kd.int .u32) 22 w1 base ok v (([] ++ cs) ++ List.replicate ((n : Int) + 1).toNat (0 : Int))) :
    ∃ B d N, v = .slice B N d ∧ (∀ W, (Instr.slice 46 (.slice B N d) none (some (.int .i64 ((n : Int) + 1))) none).run Try.prog W = .ok (.slice B ds.length d) W) ∧ ds.length ≤ d ∧ Kd.C (Kd.int .u32) w1 B ds.length ds := by
  subst hds
  obtain ⟨A, c, rfl⟩ := Kd.R_slice h
  obtain ⟨_, h2, h3⟩ := Kd.R_reads' h
  obtain ⟨i0, hi0, _, hsz, _⟩ := info_parts info22
  have p := print_take_of (P := Try.prog) (Value.int .u32) 0 46 22 .i64 Try.underlying46 hi0 hsz A c (([] ++ cs) ++ List.replicate ((n : Int) + 1).toNat (0 : Int)) ((n : Int) + 1) (by omega) (by simp; omega) h2
  exact ⟨A, c, _, rfl, p.1, p.2.2, Kd.C_of_reads (h1 := fun _ => rfl) (p.2.1 w1 (Kd.reads_of_C h3))⟩
set_option maxHeartbeats 8000000 in
theorem LeafInner_ok (B : Option Addr) (d : Nat) (cs : List Int) (A : Option Addr) (c : Nat) (l : List S27) (one : Bool) (w : World) (hD : Kd.C (Kd.int .u32) w B cs.length cs) (hd : cs.length ≤ d) (hC : Kd.C k27 w A l.length l) (hc : l.length ≤ c) (hl : l.length ≤ 9223372036854775807) (hcs : ∀ x ∈ cs, 0 ≤ x ∧ x < 4294967296) (hx : ∀ x ∈ l, 0 ≤ x.f1.f0 ∧ x.f1.f0 < 4294967296 ∧ 0 ≤ x.f1.f1 ∧ x.f1.f1 < 65536) :
    Calls Try.prog 6 #[.slice B cs.length d, .slice A l.length c, .bool one] w fun e w' => e = .returned (.bool true) ∧ Below w.heap.size w w' := by
  obtain ⟨r, hr, hp⟩ := eGreat' l (by omega)
  obtain ⟨kg, hkg⟩ := hr.rounds
  have HC := Aside0.mk (And.intro hC hc)
  have HGR := Aside0.mk hkg
  cases r
  · by_cases hbig : 3000 < cs.length
    · have cb : decide (3000 < (cs.length : Int)) = true := decide_eq_true (by omega)
      clear hC hc hl hx hcs hkg hp hbig hD hd
      go_enter Try.func6, Try.ntmps6
      go_wp2_with (first
        | (go_at_call 9; (with_reducible refine (rowlockref10_Great.calls kg A c l false w HC.out.1 HC.out.2 HGR.out).mono ?_); rintro en w1 ⟨rfl, hb⟩; have HB1 := Aside0.mk hb; clear hb)
        | (go_at_call 10; (with_reducible refine (fixed_ok w1).mono ?_); rintro en w4 ⟨rfl, hb⟩; have HB4 := Aside0.mk (below_then HB1.out HB1.out.size hb); clear hb))
      go_ret
      exact ⟨rfl, HB4.out⟩
    · have cb : decide (3000 < (cs.length : Int)) = false := decide_eq_false (by omega)
      obtain ⟨p1, p2⟩ := hp rfl
      have hg : goodE l := ⟨by omega, fun x hm => ⟨by have := p2 x hm; omega, hx x hm⟩⟩
      have HG := Aside0.mk hg
      cases one
      · obtain ⟨kl, hkl⟩ := (eInner cs l hcs hg).rounds
        obtain ⟨ks, hks⟩ := (rSize12 l hg).rounds
        obtain ⟨km, hkm⟩ := (eSm cs (by omega)).rounds
        obtain ⟨kq, hkq⟩ := (eSame l (by omega)).rounds
        have hby := putI_by cs l
        have hgi := fun h => get_putI cs l hcs hx h
        have hgt := fun h => getL_putI cs l h
        obtain ⟨p, hp1⟩ : ∃ p, p = (putI cs l).1 := ⟨_, rfl⟩
        obtain ⟨e, hp2⟩ : ∃ e, e = (putI cs l).2 := ⟨_, rfl⟩
        obtain ⟨sz, hsz⟩ : ∃ sz, sz = 8 + szE l + 4 * ((l.length : Int) + 1) := ⟨_, rfl⟩
        rw [← hp1, ← hp2] at hkl
        rw [← hp1] at hby hgt hgi
        rw [← hp2] at hgt hgi
        rw [← hsz] at hks
        have HD := Aside0.mk (And.intro hd (show cs.length ≤ 1000000 by omega))
        have HC0 := Aside0.mk hC
        have HD0 := Aside0.mk hD
        have HB0 := Aside0.mk (Below.refl w.heap.size w)
        have HP := Aside0.mk (And.intro hp1.symm (And.intro hp2.symm (And.intro hby trivial)))
        have HR := Aside0.mk hsz.symm
        have HK := Aside0.mk (And.intro hkl (And.intro hks (And.intro hkm hkq)))
        have b2 := ibne_self sz
        have b3 := ba_self (strOfNums p)
        have b4 := ibne_self e
        by_cases he : e = 0
        · have b5 : (e != 0) = false := by simp [he]
          have HGL := Aside0.mk (hgt he)
          have HGI := Aside0.mk (hgi he)
          clear hC hc hl hcs hx hp p1 p2 hg hkg hkl hks hkm hkq hby hgt hgi hp1 hp2 hsz he hD hd hbig
          go_enter Try.func6, Try.ntmps6
          go_wp2_with (first
        | (go_at_call 9; (with_reducible refine (rowlockref10_Great.calls kg A c l false w HC0.out HC.out.2 HGR.out).mono ?_); rintro en w1 ⟨rfl, hb⟩; have HB1 := Aside0.mk (below_then HB0.out HB0.out.size hb); have HC1 := Aside0.mk (Kd.C_below HC0.out hb); have HD1 := Aside0.mk (Kd.C_below HD0.out hb); clear hb)
        | (go_at_call 23; (with_reducible refine (putInner_is HP.out.1 HP.out.2.1 _ B d A c HG.out HC1.out HC.out.2 HD1.out HD.out.2).mono ?_); rintro en w2 ⟨A2, c2, rfl, hcap, hC2, hb⟩; have HQ := Aside0.mk hcap; have HO2 := Aside0.mk hC2; have HB2 := Aside0.mk (below_then HB1.out HB1.out.size hb); have HC2 := Aside0.mk (Kd.C_below HC1.out hb); have HD2 := Aside0.mk (Kd.C_below HD1.out hb); clear hcap hC2 hb)
        | (go_at_call 24; (with_reducible refine (rowlockref10_Inner.calls kl B d cs A c l (strOfNums p) e w2 HD2.out HD.out.1 HC2.out HC.out.2 HK.out.1).mono ?_); rintro en w3 ⟨rfl, hb⟩; have HB3 := Aside0.mk (below_then HB2.out HB2.out.size hb); have HC3 := Aside0.mk (Kd.C_below HC2.out hb); have HD3 := Aside0.mk (Kd.C_below HD2.out hb); have HO3 := Aside0.mk (Kd.C_below HO2.out hb); clear hb)
        | (go_at_call 10; (with_reducible refine (fixed_ok w3).mono ?_); rintro en w4 ⟨rfl, hb⟩; have HB4 := Aside0.mk (below_then HB3.out HB3.out.size hb); have HC4 := Aside0.mk (Kd.C_below HC3.out hb); have HD4 := Aside0.mk (Kd.C_below HD3.out hb); have HO4 := Aside0.mk (Kd.C_below HO3.out hb); have hcv4 := Kd.C_string (P := Try.prog) (c := c2) Try.underlying36 Try.underlying5 Try.underlying9 HO4.out; clear hb)
        | (go_at_call 25; (with_reducible refine (isize_is HR.out A c w4 HC4.out HC.out.2 HG.out).mono ?_); rintro en w5 ⟨rfl, hb⟩; have HB5 := Aside0.mk (below_then HB4.out HB4.out.size hb); have HC5 := Aside0.mk (Kd.C_below HC4.out hb); have HD5 := Aside0.mk (Kd.C_below HD4.out hb); have HO5 := Aside0.mk (Kd.C_below HO4.out hb); clear hcv4; clear hb)
        | (go_at_call 19; (with_reducible refine (rowlockref10_Size.calls ks A c l 12 12 sz w5 HC5.out HC.out.2 HK.out.2.1).mono ?_); rintro en w6 ⟨rfl, hd⟩; have hb := hd.below; have HB6 := Aside0.mk (below_then HB5.out HB5.out.size hb); have HC6 := Aside0.mk (Kd.C_below HC5.out hb); have HD6 := Aside0.mk (Kd.C_below HD5.out hb); have HO6 := Aside0.mk (Kd.C_below HO5.out hb); clear hb hd)
        | (go_at_call 21; (with_reducible refine (geti_is2 HGI.out w6 A2 c2 HO6.out HQ.out HP.out.2.2.1).mono ?_); rintro en w7 ⟨v1, v2, rfl, ho1, ho2, hb⟩; obtain ⟨B7, d7, e7⟩ := Kd.R_slice ho1; subst e7; obtain ⟨A7, c7, f7⟩ := Kd.R_slice ho2; subst f7; have HX7 := Aside0.mk ho1; have HY7 := Aside0.mk ho2; have HO7 := Aside0.mk (Kd.C_below HO6.out hb); have HB7 := Aside0.mk (below_then HB6.out HB6.out.size hb); have HC7 := Aside0.mk (Kd.C_below HC6.out hb); have HD7 := Aside0.mk (Kd.C_below HD6.out hb); clear ho1 ho2 hb)
        | (go_at_call 20; (with_reducible refine (getl_is HGL.out w7 A2 c2 HO7.out HQ.out HP.out.2.2.1).mono ?_); rintro en w8 ⟨v8, rfl, hb⟩; have HB8 := Aside0.mk (below_then HB7.out HB7.out.size hb); have HC8 := Aside0.mk (Kd.C_below HC7.out hb); have HD8 := Aside0.mk (Kd.C_below HD7.out hb); have HX8 := Aside0.mk (Kd.R_below HX7.out hb); have HY8 := Aside0.mk (Kd.R_below HY7.out hb); clear hb)
        | (go_at_call 26; (with_reducible refine (rowlocklaw10_same.calls km B7 d7 cs B d cs true w8 (Kd.R_reads' HX8.out).2.2 (Kd.R_reads' HX8.out).2.1 HD8.out HD.out.1 HK.out.2.2.1).mono ?_); rintro en w9 ⟨rfl, hd⟩; have hb := hd.below; have HB9 := Aside0.mk (below_then HB8.out HB8.out.size hb); have HC9 := Aside0.mk (Kd.C_below HC8.out hb); have HD9 := Aside0.mk (Kd.C_below HD8.out hb); have HX9 := Aside0.mk (Kd.R_below HX8.out hb); have HY9 := Aside0.mk (Kd.R_below HY8.out hb); clear hb hd)
        | (go_at_call 22; (with_reducible refine (rowlockref10_Same.calls kq A c l A7 c7 l true w9 HC9.out HC.out.2 (Kd.R_reads' HY9.out).2.2 (Kd.R_reads' HY9.out).2.1 HK.out.2.2.2).mono ?_); rintro en w10 ⟨rfl, hd⟩; have hb := hd.below; have HB10 := Aside0.mk (below_then HB9.out HB9.out.size hb); have HC10 := Aside0.mk (Kd.C_below HC9.out hb); have HD10 := Aside0.mk (Kd.C_below HD9.out hb); clear hb hd))
          go_ret
          exact ⟨rfl, HB10.out⟩
        · have b5 : (e != 0) = true := by simpa using he
          clear hC hc hl hcs hx hp p1 p2 hg hkg hkl hks hkm hkq hby hgt hgi hp1 hp2 hsz he hD hd hbig
          go_enter Try.func6, Try.ntmps6
          go_wp2_with (first
        | (go_at_call 9; (with_reducible refine (rowlockref10_Great.calls kg A c l false w HC0.out HC.out.2 HGR.out).mono ?_); rintro en w1 ⟨rfl, hb⟩; have HB1 := Aside0.mk (below_then HB0.out HB0.out.size hb); have HC1 := Aside0.mk (Kd.C_below HC0.out hb); have HD1 := Aside0.mk (Kd.C_below HD0.out hb); clear hb)
        | (go_at_call 23; (with_reducible refine (putInner_is HP.out.1 HP.out.2.1 _ B d A c HG.out HC1.out HC.out.2 HD1.out HD.out.2).mono ?_); rintro en w2 ⟨A2, c2, rfl, hcap, hC2, hb⟩; have HQ := Aside0.mk hcap; have HO2 := Aside0.mk hC2; have HB2 := Aside0.mk (below_then HB1.out HB1.out.size hb); have HC2 := Aside0.mk (Kd.C_below HC1.out hb); have HD2 := Aside0.mk (Kd.C_below HD1.out hb); clear hcap hC2 hb)
        | (go_at_call 24; (with_reducible refine (rowlockref10_Inner.calls kl B d cs A c l (strOfNums p) e w2 HD2.out HD.out.1 HC2.out HC.out.2 HK.out.1).mono ?_); rintro en w3 ⟨rfl, hb⟩; have HB3 := Aside0.mk (below_then HB2.out HB2.out.size hb); have HC3 := Aside0.mk (Kd.C_below HC2.out hb); have HD3 := Aside0.mk (Kd.C_below HD2.out hb); have HO3 := Aside0.mk (Kd.C_below HO2.out hb); clear hb)
        | (go_at_call 10; (with_reducible refine (fixed_ok w3).mono ?_); rintro en w4 ⟨rfl, hb⟩; have HB4 := Aside0.mk (below_then HB3.out HB3.out.size hb); have HC4 := Aside0.mk (Kd.C_below HC3.out hb); have HD4 := Aside0.mk (Kd.C_below HD3.out hb); have HO4 := Aside0.mk (Kd.C_below HO3.out hb); have hcv4 := Kd.C_string (P := Try.prog) (c := c2) Try.underlying36 Try.underlying5 Try.underlying9 HO4.out; clear hb)
        | (go_at_call 25; (with_reducible refine (isize_is HR.out A c w4 HC4.out HC.out.2 HG.out).mono ?_); rintro en w5 ⟨rfl, hb⟩; have HB5 := Aside0.mk (below_then HB4.out HB4.out.size hb); have HC5 := Aside0.mk (Kd.C_below HC4.out hb); have HD5 := Aside0.mk (Kd.C_below HD4.out hb); have HO5 := Aside0.mk (Kd.C_below HO4.out hb); clear hcv4; clear hb)
        | (go_at_call 19; (with_reducible refine (rowlockref10_Size.calls ks A c l 12 12 sz w5 HC5.out HC.out.2 HK.out.2.1).mono ?_); rintro en w6 ⟨rfl, hd⟩; have hb := hd.below; have HB6 := Aside0.mk (below_then HB5.out HB5.out.size hb); have HC6 := Aside0.mk (Kd.C_below HC5.out hb); have HD6 := Aside0.mk (Kd.C_below HD5.out hb); have HO6 := Aside0.mk (Kd.C_below HO5.out hb); clear hb hd))
          go_ret
          exact ⟨rfl, HB6.out⟩
      · obtain ⟨ds, hds⟩ : ∃ ds, (([] ++ cs) ++ List.replicate ((l.length : Int) + 1).toNat (0 : Int)).take ((l.length : Int) + 1).toNat = ds := ⟨_, rfl⟩
        have hdl : ds.length ≤ 1000000 := by rw [← hds, List.length_take]; omega
        have hdc : ∀ x ∈ ds, 0 ≤ x ∧ x < 4294967296 := fun x hx => by
          rw [← hds] at hx
          rcases List.mem_append.1 (List.mem_of_mem_take hx) with h | h
          · exact hcs x (by simpa using h)
          · rw [List.eq_of_mem_replicate h]; omega
        have HL := Aside0.mk (show (([] : List Int).length + cs.length) * 4 ≤ 140737488355328 ∧ (([] ++ cs : List Int).length + ((l.length : Int) + 1).toNat) * 4 ≤ 140737488355328 by constructor <;> simp <;> omega)
        have HL2 := Aside0.mk hds
        have HL3 := Aside0.mk hdl
        have h9 : l.length ≤ 9000 := p1
        obtain ⟨kl, hkl⟩ := (eInner ds l hdc hg).rounds
        obtain ⟨ks, hks⟩ := (rSize12 l hg).rounds
        obtain ⟨km, hkm⟩ := (eSm ds (by omega)).rounds
        obtain ⟨kq, hkq⟩ := (eSame l (by omega)).rounds
        have hby := putI_by ds l
        have hgi := fun h => get_putI ds l hdc hx h
        have hgt := fun h => getL_putI ds l h
        obtain ⟨p, hp1⟩ : ∃ p, p = (putI ds l).1 := ⟨_, rfl⟩
        obtain ⟨e, hp2⟩ : ∃ e, e = (putI ds l).2 := ⟨_, rfl⟩
        obtain ⟨sz, hsz⟩ : ∃ sz, sz = 8 + szE l + 4 * ((l.length : Int) + 1) := ⟨_, rfl⟩
        rw [← hp1, ← hp2] at hkl
        rw [← hp1] at hby hgt hgi
        rw [← hp2] at hgt hgi
        rw [← hsz] at hks
        have HC0 := Aside0.mk hC
        have HD0 := Aside0.mk hD
        have HB0 := Aside0.mk (Below.refl w.heap.size w)
        have HP := Aside0.mk (And.intro hp1.symm (And.intro hp2.symm (And.intro hby trivial)))
        have HR := Aside0.mk hsz.symm
        have HK := Aside0.mk (And.intro hkl (And.intro hks (And.intro hkm hkq)))
        have b2 := ibne_self sz
        have b3 := ba_self (strOfNums p)
        have b4 := ibne_self e
        by_cases he : e = 0
        · have b5 : (e != 0) = false := by simp [he]
          have HGL := Aside0.mk (hgt he)
          have HGI := Aside0.mk (hgi he)
          clear hds hdl hdc hC hc hl hcs hx hp p1 p2 hg hkg hkl hks hkm hkq hby hgt hgi hp1 hp2 hsz he hD hd hbig
          go_enter Try.func6, Try.ntmps6
          go_wp2_with (first
        | (go_at_call 9; (with_reducible refine (rowlockref10_Great.calls kg A c l false w HC0.out HC.out.2 HGR.out).mono ?_); rintro en wx ⟨rfl, hb⟩; have HBx := Aside0.mk hb; have HCx := Aside0.mk (Kd.C_below HC0.out hb); have HDx := Aside0.mk (Kd.C_below HD0.out hb); clear hb)
        | ((with_reducible refine gate_dst (N := 26) rfl ?_); refine Kd.R_lit (Kd.int .u32) (w0 := w) w.heap.size 22 ?hg (N := 26) ?hd (xs := ([] : List Int)) (inner := []) (ok := fun _ => True) (okp := fun _ => True) ?hr ?hp (fun _ hk => hk) trivial HBx.out HBx.out.size (by simp) ?_; (case hd => rfl); (case hg => rfl); (case hr => first | (go_simp; done) | (go_simp; rfl)); (case hp => exact Reps.none _ _); intro v26 wy ho26 hb26 hg26 hn26; (obtain ⟨A26, c26, e26⟩ := Kd.R_slice ho26; subst e26); have hbx := Below.grown (Below.refl _ _) hg26 (Nat.le_refl _) (fun k hk => by cases hk); have HOy := Aside0.mk ho26; have HBy := Aside0.mk hb26; have HCy := Aside0.mk (Kd.C_below HCx.out hbx); have HDy := Aside0.mk (Kd.C_below HDx.out hbx); clear ho26 hb26 hg26 hn26 hbx)
        | ((with_reducible refine gate_builtin (b := .append) (xs := #[.tmp 26, .tmp 27]) rfl ?_); at_builtin; refine Kd.R_append_row (Value.int .u32) (0 : Int) (w0 := w) w.heap.size rfl (.tmp 26) (.tmp 27) 46 22 (.int .u32 0) 4 rfl Try.underlying46 info22 rfl (by decide) _ [] cs B cs.length d (fun _ => True) rfl rfl (fun _ _ => trivial) HOy.out HDy.out HBy.out HBy.out.size HL.out.1 ?_; intro v28 wz ho28 hb28 hg28 hat28; (obtain ⟨A28, c28, e28⟩ := Kd.R_slice ho28; subst e28); have HOz := Aside0.mk ho28; have HBz := Aside0.mk hb28; have HCz := Aside0.mk (Kd.C_below HC.out.1 hb28); clear ho28 hb28 hg28 hat28)
        | ((with_reducible refine gate_builtin (b := .append) (xs := #[.tmp 28, .tmp 31]) rfl ?_); at_builtin; refine Kd.R_append_zeros (kx := .i64) (k := .i64) (Kd.int .u32) (w0 := w) w.heap.size rfl (.tmp 28) (.tmp 31) 46 3 22 (.int .u32 0) 4 rfl Try.underlying46 Try.underlying3 info22 rfl (by decide) (by decide) _ ([] ++ cs) (0 : Int) ((l.length : Int) + 1) (fun _ => True) rfl ?ex ?ez (fun _ _ => trivial) HOz.out ?e0 HBz.out HBz.out.size ?eL ?_; (case ex => first | rfl | (go_simp; done) | (go_simp; rfl)); (case ez => exact rfl); (case e0 => omega); (case eL => exact HL.out.2); intro v32 w1 ho32 hb32 hg32 hat32; obtain ⟨B9, d9, N9, e9, hcut, hd9, hD9⟩ := cut_in HL2.out ho32; subst e9; have HB1 := Aside0.mk hb32; have HC1 := Aside0.mk (Kd.C_below HC.out.1 hb32); have HD1 := Aside0.mk hD9; have HD := Aside0.mk (And.intro hd9 HL3.out); clear ho32 hb32 hg32 hat32 hd9 hD9)
        | (go_at_call 23; (with_reducible refine (putInner_is HP.out.1 HP.out.2.1 _ B9 d9 A c HG.out HC1.out HC.out.2 HD1.out HD.out.2).mono ?_); rintro en w2 ⟨A2, c2, rfl, hcap, hC2, hb⟩; have HQ := Aside0.mk hcap; have HO2 := Aside0.mk hC2; have HB2 := Aside0.mk (below_then HB1.out HB1.out.size hb); have HC2 := Aside0.mk (Kd.C_below HC1.out hb); have HD2 := Aside0.mk (Kd.C_below HD1.out hb); clear hcap hC2 hb)
        | (go_at_call 24; (with_reducible refine (rowlockref10_Inner.calls kl B9 d9 ds A c l (strOfNums p) e w2 HD2.out HD.out.1 HC2.out HC.out.2 HK.out.1).mono ?_); rintro en w3 ⟨rfl, hb⟩; have HB3 := Aside0.mk (below_then HB2.out HB2.out.size hb); have HC3 := Aside0.mk (Kd.C_below HC2.out hb); have HD3 := Aside0.mk (Kd.C_below HD2.out hb); have HO3 := Aside0.mk (Kd.C_below HO2.out hb); clear hb)
        | (go_at_call 10; (with_reducible refine (fixed_ok w3).mono ?_); rintro en w4 ⟨rfl, hb⟩; have HB4 := Aside0.mk (below_then HB3.out HB3.out.size hb); have HC4 := Aside0.mk (Kd.C_below HC3.out hb); have HD4 := Aside0.mk (Kd.C_below HD3.out hb); have HO4 := Aside0.mk (Kd.C_below HO3.out hb); have hcv4 := Kd.C_string (P := Try.prog) (c := c2) Try.underlying36 Try.underlying5 Try.underlying9 HO4.out; clear hb)
        | (go_at_call 25; (with_reducible refine (isize_is HR.out A c w4 HC4.out HC.out.2 HG.out).mono ?_); rintro en w5 ⟨rfl, hb⟩; have HB5 := Aside0.mk (below_then HB4.out HB4.out.size hb); have HC5 := Aside0.mk (Kd.C_below HC4.out hb); have HD5 := Aside0.mk (Kd.C_below HD4.out hb); have HO5 := Aside0.mk (Kd.C_below HO4.out hb); clear hcv4; clear hb)
        | (go_at_call 19; (with_reducible refine (rowlockref10_Size.calls ks A c l 12 12 sz w5 HC5.out HC.out.2 HK.out.2.1).mono ?_); rintro en w6 ⟨rfl, hd⟩; have hb := hd.below; have HB6 := Aside0.mk (below_then HB5.out HB5.out.size hb); have HC6 := Aside0.mk (Kd.C_below HC5.out hb); have HD6 := Aside0.mk (Kd.C_below HD5.out hb); have HO6 := Aside0.mk (Kd.C_below HO5.out hb); clear hb hd)
        | (go_at_call 21; (with_reducible refine (geti_is2 HGI.out w6 A2 c2 HO6.out HQ.out HP.out.2.2.1).mono ?_); rintro en w7 ⟨v1, v2, rfl, ho1, ho2, hb⟩; obtain ⟨B7, d7, e7⟩ := Kd.R_slice ho1; subst e7; obtain ⟨A7, c7, f7⟩ := Kd.R_slice ho2; subst f7; have HX7 := Aside0.mk ho1; have HY7 := Aside0.mk ho2; have HO7 := Aside0.mk (Kd.C_below HO6.out hb); have HB7 := Aside0.mk (below_then HB6.out HB6.out.size hb); have HC7 := Aside0.mk (Kd.C_below HC6.out hb); have HD7 := Aside0.mk (Kd.C_below HD6.out hb); clear ho1 ho2 hb)
        | (go_at_call 20; (with_reducible refine (getl_is HGL.out w7 A2 c2 HO7.out HQ.out HP.out.2.2.1).mono ?_); rintro en w8 ⟨v8, rfl, hb⟩; have HB8 := Aside0.mk (below_then HB7.out HB7.out.size hb); have HC8 := Aside0.mk (Kd.C_below HC7.out hb); have HD8 := Aside0.mk (Kd.C_below HD7.out hb); have HX8 := Aside0.mk (Kd.R_below HX7.out hb); have HY8 := Aside0.mk (Kd.R_below HY7.out hb); clear hb)
        | (go_at_call 26; (with_reducible refine (rowlocklaw10_same.calls km B7 d7 ds B9 d9 ds true w8 (Kd.R_reads' HX8.out).2.2 (Kd.R_reads' HX8.out).2.1 HD8.out HD.out.1 HK.out.2.2.1).mono ?_); rintro en w9 ⟨rfl, hd⟩; have hb := hd.below; have HB9 := Aside0.mk (below_then HB8.out HB8.out.size hb); have HC9 := Aside0.mk (Kd.C_below HC8.out hb); have HD9 := Aside0.mk (Kd.C_below HD8.out hb); have HX9 := Aside0.mk (Kd.R_below HX8.out hb); have HY9 := Aside0.mk (Kd.R_below HY8.out hb); clear hb hd)
        | (go_at_call 22; (with_reducible refine (rowlockref10_Same.calls kq A c l A7 c7 l true w9 HC9.out HC.out.2 (Kd.R_reads' HY9.out).2.2 (Kd.R_reads' HY9.out).2.1 HK.out.2.2.2).mono ?_); rintro en w10 ⟨rfl, hd⟩; have hb := hd.below; have HB10 := Aside0.mk (below_then HB9.out HB9.out.size hb); have HC10 := Aside0.mk (Kd.C_below HC9.out hb); have HD10 := Aside0.mk (Kd.C_below HD9.out hb); clear hb hd))
          go_ret
          exact ⟨rfl, HB10.out⟩
        · have b5 : (e != 0) = true := by simpa using he
          clear hds hdl hdc hC hc hl hcs hx hp p1 p2 hg hkg hkl hks hkm hkq hby hgt hgi hp1 hp2 hsz he hD hd hbig
          go_enter Try.func6, Try.ntmps6
          go_wp2_with (first
        | (go_at_call 9; (with_reducible refine (rowlockref10_Great.calls kg A c l false w HC0.out HC.out.2 HGR.out).mono ?_); rintro en wx ⟨rfl, hb⟩; have HBx := Aside0.mk hb; have HCx := Aside0.mk (Kd.C_below HC0.out hb); have HDx := Aside0.mk (Kd.C_below HD0.out hb); clear hb)
        | ((with_reducible refine gate_dst (N := 26) rfl ?_); refine Kd.R_lit (Kd.int .u32) (w0 := w) w.heap.size 22 ?hg (N := 26) ?hd (xs := ([] : List Int)) (inner := []) (ok := fun _ => True) (okp := fun _ => True) ?hr ?hp (fun _ hk => hk) trivial HBx.out HBx.out.size (by simp) ?_; (case hd => rfl); (case hg => rfl); (case hr => first | (go_simp; done) | (go_simp; rfl)); (case hp => exact Reps.none _ _); intro v26 wy ho26 hb26 hg26 hn26; (obtain ⟨A26, c26, e26⟩ := Kd.R_slice ho26; subst e26); have hbx := Below.grown (Below.refl _ _) hg26 (Nat.le_refl _) (fun k hk => by cases hk); have HOy := Aside0.mk ho26; have HBy := Aside0.mk hb26; have HCy := Aside0.mk (Kd.C_below HCx.out hbx); have HDy := Aside0.mk (Kd.C_below HDx.out hbx); clear ho26 hb26 hg26 hn26 hbx)
        | ((with_reducible refine gate_builtin (b := .append) (xs := #[.tmp 26, .tmp 27]) rfl ?_); at_builtin; refine Kd.R_append_row (Value.int .u32) (0 : Int) (w0 := w) w.heap.size rfl (.tmp 26) (.tmp 27) 46 22 (.int .u32 0) 4 rfl Try.underlying46 info22 rfl (by decide) _ [] cs B cs.length d (fun _ => True) rfl rfl (fun _ _ => trivial) HOy.out HDy.out HBy.out HBy.out.size HL.out.1 ?_; intro v28 wz ho28 hb28 hg28 hat28; (obtain ⟨A28, c28, e28⟩ := Kd.R_slice ho28; subst e28); have HOz := Aside0.mk ho28; have HBz := Aside0.mk hb28; have HCz := Aside0.mk (Kd.C_below HC.out.1 hb28); clear ho28 hb28 hg28 hat28)
        | ((with_reducible refine gate_builtin (b := .append) (xs := #[.tmp 28, .tmp 31]) rfl ?_); at_builtin; refine Kd.R_append_zeros (kx := .i64) (k := .i64) (Kd.int .u32) (w0 := w) w.heap.size rfl (.tmp 28) (.tmp 31) 46 3 22 (.int .u32 0) 4 rfl Try.underlying46 Try.underlying3 info22 rfl (by decide) (by decide) _ ([] ++ cs) (0 : Int) ((l.length : Int) + 1) (fun _ => True) rfl ?ex ?ez (fun _ _ => trivial) HOz.out ?e0 HBz.out HBz.out.size ?eL ?_; (case ex => first | rfl | (go_simp; done) | (go_simp; rfl)); (case ez => exact rfl); (case e0 => omega); (case eL => exact HL.out.2); intro v32 w1 ho32 hb32 hg32 hat32; obtain ⟨B9, d9, N9, e9, hcut, hd9, hD9⟩ := cut_in HL2.out ho32; subst e9; have HB1 := Aside0.mk hb32; have HC1 := Aside0.mk (Kd.C_below HC.out.1 hb32); have HD1 := Aside0.mk hD9; have HD := Aside0.mk (And.intro hd9 HL3.out); clear ho32 hb32 hg32 hat32 hd9 hD9)
        | (go_at_call 23; (with_reducible refine (putInner_is HP.out.1 HP.out.2.1 _ B9 d9 A c HG.out HC1.out HC.out.2 HD1.out HD.out.2).mono ?_); rintro en w2 ⟨A2, c2, rfl, hcap, hC2, hb⟩; have HQ := Aside0.mk hcap; have HO2 := Aside0.mk hC2; have HB2 := Aside0.mk (below_then HB1.out HB1.out.size hb); have HC2 := Aside0.mk (Kd.C_below HC1.out hb); have HD2 := Aside0.mk (Kd.C_below HD1.out hb); clear hcap hC2 hb)
        | (go_at_call 24; (with_reducible refine (rowlockref10_Inner.calls kl B9 d9 ds A c l (strOfNums p) e w2 HD2.out HD.out.1 HC2.out HC.out.2 HK.out.1).mono ?_); rintro en w3 ⟨rfl, hb⟩; have HB3 := Aside0.mk (below_then HB2.out HB2.out.size hb); have HC3 := Aside0.mk (Kd.C_below HC2.out hb); have HD3 := Aside0.mk (Kd.C_below HD2.out hb); have HO3 := Aside0.mk (Kd.C_below HO2.out hb); clear hb)
        | (go_at_call 10; (with_reducible refine (fixed_ok w3).mono ?_); rintro en w4 ⟨rfl, hb⟩; have HB4 := Aside0.mk (below_then HB3.out HB3.out.size hb); have HC4 := Aside0.mk (Kd.C_below HC3.out hb); have HD4 := Aside0.mk (Kd.C_below HD3.out hb); have HO4 := Aside0.mk (Kd.C_below HO3.out hb); have hcv4 := Kd.C_string (P := Try.prog) (c := c2) Try.underlying36 Try.underlying5 Try.underlying9 HO4.out; clear hb)
        | (go_at_call 25; (with_reducible refine (isize_is HR.out A c w4 HC4.out HC.out.2 HG.out).mono ?_); rintro en w5 ⟨rfl, hb⟩; have HB5 := Aside0.mk (below_then HB4.out HB4.out.size hb); have HC5 := Aside0.mk (Kd.C_below HC4.out hb); have HD5 := Aside0.mk (Kd.C_below HD4.out hb); have HO5 := Aside0.mk (Kd.C_below HO4.out hb); clear hcv4; clear hb)
        | (go_at_call 19; (with_reducible refine (rowlockref10_Size.calls ks A c l 12 12 sz w5 HC5.out HC.out.2 HK.out.2.1).mono ?_); rintro en w6 ⟨rfl, hd⟩; have hb := hd.below; have HB6 := Aside0.mk (below_then HB5.out HB5.out.size hb); have HC6 := Aside0.mk (Kd.C_below HC5.out hb); have HD6 := Aside0.mk (Kd.C_below HD5.out hb); have HO6 := Aside0.mk (Kd.C_below HO5.out hb); clear hb hd))
          go_ret
          exact ⟨rfl, HB6.out⟩
  · clear hC hc hl hx hcs hkg hp hD hd
    go_enter Try.func6, Try.ntmps6
    go_wp2_with (first
      | (go_at_call 9; (with_reducible refine (rowlockref10_Great.calls kg A c l true w HC.out.1 HC.out.2 HGR.out).mono ?_); rintro en w1 ⟨rfl, hb⟩; have HB1 := Aside0.mk hb; clear hb)
      | (go_at_call 10; (with_reducible refine (fixed_ok w1).mono ?_); rintro en w4 ⟨rfl, hb⟩; have HB4 := Aside0.mk (below_then HB1.out HB1.out.size hb); clear hb))
    go_ret
    exact ⟨rfl, HB4.out⟩
end Go.Proofs.Ytihmkdjambdfjaa.PureL
