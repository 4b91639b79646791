/- SlotsPlays: the plain law of the printed function. -/
import Derived.Test.YtolgcohmmghehaaPureSlotsC
import Derived.Test.YtolgcohmmghehaaXSlotsPlaysx7
namespace Go.Proofs.Ytolgcohmmghehaa.PureS
open Go.RowKit Go.Proofs.YtolgcohmmghehaaW.PrintWords Go.Proofs.YtolgcohmmghehaaW.PrintLast Go.Proofs.YtolgcohmmghehaaW.PrintMore Go.Proofs.Ytolgcohmmghehaa.XSlotsPlays Go.Proofs.Ytolgcohmmghehaa.Byt Go.Proofs.Ytolgcohmmghehaa.Slb
set_option linter.unusedVariables false
set_option linter.unusedSimpArgs false
theorem fixed_n {n : Nat} (h : 200 ≤ n) : rowlocklaw08_fixed.f n = some true := by
  have := fixed_f (n - 200)
  rwa [show n - 200 + 200 = n by omega] at this
theorem Ok.other {nx : Int} {rs : List (List Int)} (h : Ok nx rs) (o : Int) (ho : 0 ≤ o ∧ o < 4294967296) : Ok o rs := ⟨h.sz, h.pos, h.by_, ho⟩
theorem law_end (a1 next : Int) (ha : 0 ≤ a1 ∧ a1 < 4294967296) (l : List (List Int)) (rs : List (List Int)) (h : Ok next rs) (q : Nat) (x : Int) (hx : ¬ x < (l.length : Int)) :
    rowlocklaw08_SlotsPlays.l0 (q + 201) a1 (pg next rs) l (l.length : Int) x next (txt rs) = some true := by
  have ho := h.other a1 ha
  have hs := same_f ho q
  rw [rowlocklaw08_SlotsPlays.l0, if_neg hx, h.link ho q, Option.bind_some, fixed_f q, Option.bind_some, if_pos rfl, if_pos rfl, ho.lay q, Option.bind_some, if_pos rfl]
  show (rowlocklaw08_same.f (q + 200) (pg a1 rs) a1 (txt rs)).bind _ = _
  rw [hs]
  rfl
theorem law_j2 (a1 next : Int) (l rs : List (List Int)) (h : Ok next rs) (q : Nat) (x : Int) (hx : 0 ≤ x ∧ x ≤ 1000) (hr : rowlocklaw08_SlotsPlays.l0 (q + 200) a1 (pg next rs) l (l.length : Int) (x + 1) next (txt rs) = some true) :
    rowlocklaw08_SlotsPlays.j2 (q + 201) a1 (pg next rs) l (l.length : Int) x next (txt rs) = some true := by
  have hc := h.count
  rw [rowlocklaw08_SlotsPlays.j2, h.count_ q, Option.bind_some, txt_len, if_pos rfl, h.room_ q, Option.bind_some, ref_room next rs (q + 200) h.sz (by omega), Option.bind_some, if_pos rfl, w64_in (x + 1) (by omega)]
  exact hr
theorem rd_mid (pre : List (List Int)) (r : List Int) (todo : List (List Int)) : rd_L2 (pre ++ r :: todo) (pre.length : Int) = r := by simp [rd_L2]
theorem law_loop (a1 next : Int) (ha : 0 ≤ a1 ∧ a1 < 4294967296) (l : List (List Int)) (hl : l.length ≤ 200) (hy : ∀ r ∈ l, By r) : ∀ (todo pre rs : List (List Int)) (n : Nat), l = pre ++ todo → Ok next rs → 3 * todo.length + 403 ≤ n →
    rowlocklaw08_SlotsPlays.l0 n a1 (pg next rs) l (l.length : Int) (pre.length : Int) next (txt rs) = some true
  | [], pre, rs, n, he, h, hn => by
    obtain ⟨q, rfl⟩ : ∃ q, n = q + 201 := ⟨n - 201, by omega⟩
    exact law_end a1 next ha l rs h q _ (by rw [he, List.append_nil]; omega)
  | r :: todo, pre, rs, n, he, h, hn => by
    rw [List.length_cons] at hn
    obtain ⟨q, rfl⟩ : ∃ q, n = q + 203 := ⟨n - 203, by omega⟩
    have hlen : l.length = pre.length + (todo.length + 1) := by rw [he, List.length_append, List.length_cons]
    have hrd : rd_L2 l (pre.length : Int) = r := by rw [he]; exact rd_mid pre r todo
    have hry : By r := hy r (by rw [he]; exact List.mem_append_right _ List.mem_cons_self)
    have hrec := fun rs' (h' : Ok next rs') m hm => law_loop a1 next ha l hl hy todo (pre ++ [r]) rs' m (by rw [he]; simp) h' hm
    have hl1 : ((pre ++ [r]).length : Int) = (pre.length : Int) + 1 := by simp
    rw [hl1] at hrec
    have hc := h.count
    have c1 : (pre.length : Int) < (l.length : Int) := by omega
    have c2 : (0 : Int) ≤ (pre.length : Int) := by omega
    have c0 : (0 : Int) ≤ (pre.length : Int) ∧ (pre.length : Int) ≤ 1000 := by omega
    have q2 : q + 2 + 200 = q + 202 := by omega
    rw [rowlocklaw08_SlotsPlays.l0, if_pos c1, if_pos c2, if_pos c1, hrd]
    by_cases c3 : (r.length : Int) > 600
    · rw [if_pos c3, fixed_n (by omega)]
      rfl
    rw [if_neg c3, Option.bind_some, if_pos (by rw [List.length_nil]; omega), List.nil_append]
    by_cases c4 : (r.length : Int) = 0
    · have hr0 : r = [] := List.eq_nil_of_length_eq_zero (by omega)
      have hadd := h.add_empty (q + 2)
      rw [q2] at hadd
      rw [hr0, hadd, Option.bind_some, if_pos rfl, if_pos rfl, if_pos (show ((([] : List Int).length : Nat) : Int) = 0 from rfl), if_pos (show ((((([] : List Int), (0 : Int), (1 : Int)).1).length : Nat) : Int) = 0 from rfl)]
      exact law_j2 a1 next l rs h (q + 1) _ c0 (hrec rs h _ (by omega))
    have hr0 : 0 < r.length := by omega
    by_cases c5 : room rs < r.length
    · have hadd := h.add_full (q + 2) r hr0 c5
      rw [q2] at hadd
      rw [hadd, Option.bind_some, if_neg c4, ref_room next rs (q + 202) h.sz (by omega), Option.bind_some, if_pos (by omega), if_pos rfl, if_pos (show ((((([] : List Int), (0 : Int), (7 : Int)).1).length : Nat) : Int) = 0 from rfl), if_pos rfl]
      exact law_j2 a1 next l rs h (q + 1) _ c0 (hrec rs h _ (by omega))
    · have hm := h.more r hr0 hry (by omega)
      have hadd := h.add (q + 2) r hr0 hry (by omega)
      rw [q2] at hadd
      rw [hadd, Option.bind_some, if_neg c4, ref_room next rs (q + 202) h.sz (by omega), Option.bind_some, if_neg (by omega), if_pos rfl, txt_len, show ((rs.length : Int) != (rs.length : Int)) = false from bne_self_eq_false' _]
      have hlay := hm.lay (q + 1)
      rw [show q + 1 + 200 = q + 201 by omega, txt_more] at hlay
      rw [rowlocklaw08_SlotsPlays.j1, if_neg (by decide), if_pos (by rw [txt_len]; omega), Option.bind_some, if_pos rfl, hlay, Option.bind_some, if_pos rfl, ← txt_more]
      exact law_j2 a1 next l (rs ++ [r]) hm q _ c0 (hrec (rs ++ [r]) hm _ (by omega))
theorem law (a0 a1 : Int) (h0 : 0 ≤ a0 ∧ a0 < 4294967296) (h1 : 0 ≤ a1 ∧ a1 < 4294967296) (l : List (List Int)) (hy : ∀ r ∈ l, By r) : ∃ k, rowlocklaw08_SlotsPlays.f k a0 a1 l = some true := by
  refine ⟨3 * l.length + 403, ?_⟩
  rw [rowlocklaw08_SlotsPlays.f]
  by_cases c : (l.length : Int) > 200
  · rw [if_pos c, fixed_n (by omega)]
    rfl
  · rw [if_neg c, new_f a0 h0, Option.bind_some]
    exact law_loop a1 a0 h1 l (by omega) hy l [] [] _ rfl (ok_nil a0 h0) (by omega)
theorem by_wf {l : List Int} (h : ∀ x ∈ l, (Lit.int .u8 x).wf = true) : By l := fun x hx => by
  have := h x hx
  simp [Lit.wf, IntKind.min, IntKind.max, IntKind.signed, IntKind.bits] at this
  omega
theorem SlotsPlays_ok (a0 a1 : Int) (A : Option Addr) (c : Nat) (l : List (List Int)) (w : World) (hC : Kd.C (Kd.slice 5 (Kd.int .u8)) w A l.length l) (hc : l.length ≤ c) (hG : ∀ r ∈ l, r.length ≤ maxLen ∧ ∀ x ∈ r, (Lit.int .u8 x).wf = true) (h0 : (Lit.int .u32 a0).wf = true) (h1 : (Lit.int .u32 a1).wf = true) :
    Calls Try.prog 13 #[.int .u32 a0, .int .u32 a1, .slice A l.length c] w fun e w' => e = .returned (.bool true) ∧ Below w.heap.size w w' := by
  simp [Lit.wf, IntKind.min, IntKind.max, IntKind.signed, IntKind.bits] at h0 h1
  obtain ⟨k, hk⟩ := law a0 a1 (by omega) (by omega) l (fun r hr => by_wf (hG r hr).2)
  exact rowlocklaw08_SlotsPlays.calls k a0 a1 A c l true w hC hc hk
end Go.Proofs.Ytolgcohmmghehaa.PureS
