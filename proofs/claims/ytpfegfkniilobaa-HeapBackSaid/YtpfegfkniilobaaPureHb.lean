/- Law 09, HeapBack in plain Lean: what fillF leaves is a way through pages that has all records, in order; it has as many pages as heap.Pages says. Conditions: the records are bytes, and were all put. -/
import Derived.Test.YtpfegfkniilobaaHpI
import Derived.Test.YtpfegfkniilobaaHpQm
namespace Go.Proofs.Ytpfegfkniilobaa.Hp
open Go.RowKit Go.Proofs.YtpfegfkniilobaaW.PrintWords Go.Proofs.YtpfegfkniilobaaW.PrintLast Go.Proofs.YtpfegfkniilobaaW.PrintMore Go.Proofs.Ytpfegfkniilobaa.Byt Go.Proofs.Ytpfegfkniilobaa.Dsk Go.Proofs.Ytpfegfkniilobaa.XHeap
open Go.Proofs.Ytpfegfkniilobaa.PureSl (room Ok txt)
open Go.Proofs.Ytpfegfkniilobaa.Slb (tot)
set_option linter.unusedVariables false
set_option linter.unusedSimpArgs false
/-- How many pages are taken. -/
def tr : List Bool → Nat
  | [] => 0
  | b :: t => (if b then 1 else 0) + tr t
theorem tr_le : ∀ t : List Bool, tr t ≤ t.length
  | [] => Nat.le_refl _
  | b :: t => by
    have := tr_le t
    rw [tr, List.length_cons]
    split <;> omega
theorem tr_set : ∀ (t : List Bool) (i : Nat), t[i]? = some false → tr (t.set i true) = tr t + 1
  | [], i, h => by simp at h
  | b :: t, 0, h => by
    rw [List.getElem?_cons_zero] at h
    injection h with h
    subst h
    simp [tr]
    omega
  | b :: t, i + 1, h => by
    rw [List.getElem?_cons_succ] at h
    rw [List.set_cons_succ, tr, tr, tr_set t i h]
    omega
theorem tr_same : ∀ (t : List Bool) (i : Nat), t[i]? = some true → t.set i true = t
  | [], i, h => rfl
  | b :: t, 0, h => by
    rw [List.getElem?_cons_zero] at h
    injection h with h
    subst h
    rfl
  | b :: t, i + 1, h => by
    rw [List.getElem?_cons_succ] at h
    rw [List.set_cons_succ, tr_same t i h]
theorem ix_at : ∀ (t : List Bool) (i : Int), 0 ≤ i → ix t i ≠ -1 → t[(ix t i - i).toNat]? = some false
  | [], i, h0, h => absurd rfl h
  | true :: t, i, h0, h => by
    rw [ix, if_pos rfl] at h ⊢
    have h1 := ix_at t (i + 1) (by omega) h
    have h2 : i + 1 ≤ ix t (i + 1) := (ix_in t (i + 1)).elim (fun e => absurd e h) (fun e => e.1)
    rw [show (ix t (i + 1) - i).toNat = (ix t (i + 1) - (i + 1)).toNat + 1 by omega, List.getElem?_cons_succ]
    exact h1
  | false :: t, i, h0, h => by
    rw [ix, if_neg (by simp)] at h ⊢
    simp
theorem tk_new {t : List Bool} (h : (tkF t).2.1 = 0) : ∃ n, tkF t = (n, 0, t.set n.toNat true) ∧ 0 ≤ n ∧ n < t.length ∧ t[n.toNat]? = some false := by
  rcases tkF_cases t with e | ⟨n, e, h0, h1⟩
  · rw [e] at h
    cases h
  · refine ⟨n, e, h0, h1, ?_⟩
    unfold tkF at e
    split at e
    · injection e with _ e
      injection e with e _
      cases e
    · rename_i hx
      injection e with e _
      have h2 := ix_at t 0 (by omega) hx
      rw [e, Int.sub_zero] at h2
      exact h2
/-- Page 0 stays taken. -/
theorem set_t {t : List Bool} {i j : Nat} (h : t[i]? = some true) : (t.set j true)[i]? = some true := by
  rw [List.getElem?_set]
  split
  · have : j < t.length := by
      rename_i e
      subst e
      exact (List.getElem?_eq_some_iff.mp h).1
    rw [if_pos this]
  · exact h
theorem tkF_t {t : List Bool} {i : Nat} (h : t[i]? = some true) : (tkF t).2.2[i]? = some true := by
  rcases tkF_cases t with e | ⟨n, e, _⟩
  · rw [e]; exact h
  · rw [e]; exact set_t h
theorem wrG_t {d bs : List Int} {t : List Bool} {p : Int} {i : Nat} (h : t[i]? = some true) : (wrG d t p bs).2.1[i]? = some true := by
  unfold wrG
  split
  · split
    · exact set_t h
    · exact h
  · exact h
theorem nextS_t {s : St} {i : Nat} (h : s.t[i]? = some true) : (nextS s).2.t[i]? = some true := by
  unfold nextS
  split
  · split
    · exact wrG_t (tkF_t h)
    · exact tkF_t h
  · split
    · exact wrG_t (tkF_t h)
    · exact h
theorem addS_t {s : St} {r : List Int} {i : Nat} (h : s.t[i]? = some true) : (addS s r).2.1.t[i]? = some true := by
  unfold addS
  split
  · split
    · exact nextS_t h
    · exact nextS_t h
  · exact h
theorem fillS_t {i : Nat} : ∀ (l : List (List Int)) (s : St) (o : List S50), s.t[i]? = some true → (fillS l s o).2.1.t[i]? = some true
  | [], s, o, h => h
  | r :: l, s, o, h => by
    rw [fillS]
    split
    · exact fillS_t l _ _ (addS_t h)
    · exact addS_t h
theorem fillF_t {d : List Int} {t : List Bool} {l : List (List Int)} {i : Nat} (h : t[i]? = some true) : (fillF d t l).2.1.t[i]? = some true := by
  unfold fillF
  split
  · exact h
  · split
    · have h1 := fillS_t (i := i) l (nextS ⟨d, t, 0, [], false, 0⟩).2 [] (nextS_t h)
      have hx : ∀ x, fillS l (nextS ⟨d, t, 0, [], false, 0⟩).2 [] = x → x.2.1.t[i]? = some true := fun x e => by rw [← e]; exact h1
      split
      rename_i e s o heq
      have h4 := hx _ heq
      split
      · exact wrG_t h4
      · exact h4
    · exact nextS_t h
/-- Pages that were written and lead on, each to the next, the last one to q. -/
def Chain (d : List Int) (n : Nat) : Int → List (Int × List (List Int)) → Int → Prop
  | p, [], q => p = q
  | p, x :: ps, q => x.1 = p ∧ 0 ≤ p ∧ p < (n : Int) ∧ ∃ r, r ≠ 0 ∧ Ok r x.2 ∧ pg d p.toNat = hp r x.2 ∧ Chain d n r ps q
theorem Chain.snoc {d : List Int} {n : Nat} {q r : Int} {rs : List (List Int)} : ∀ {ps : List (Int × List (List Int))} {p : Int}, Chain d n p ps q → 0 ≤ q → q < (n : Int) → r ≠ 0 → Ok r rs → pg d q.toNat = hp r rs → Chain d n p (ps ++ [(q, rs)]) r
  | [], p, h, h0, h1, hr, ho, hb => by
    have e : p = q := h
    subst e
    exact ⟨rfl, h0, h1, r, hr, ho, hb, rfl⟩
  | x :: ps, p, h, h0, h1, hr, ho, hb => by
    obtain ⟨e, h2, h3, r', h4, h5, h6, h7⟩ := h
    exact ⟨e, h2, h3, r', h4, h5, h6, h7.snoc h0 h1 hr ho hb⟩
theorem Chain.write {d bs : List Int} {n : Nat} {q x : Int} (hd : d.length = 512 * n) (hb : bs.length = 512) (hx0 : 0 ≤ x) (hx : x < (n : Int)) : ∀ {ps : List (Int × List (List Int))} {p : Int}, Chain d n p ps q → x ∉ ps.map Prod.fst → Chain (splice d (512 * x.toNat) bs) n p ps q
  | [], p, h, hn => h
  | y :: ps, p, h, hn => by
    obtain ⟨e, h2, h3, r', h4, h5, h6, h7⟩ := h
    rw [List.map_cons, List.mem_cons, not_or] at hn
    refine ⟨e, h2, h3, r', h4, h5, ?_, h7.write hd hb hx0 hx hn.2⟩
    rw [pg_splice d bs x.toNat p.toNat n hd (by omega) (by omega) hb, if_neg (fun e2 => hn.1 (by rw [e]; omega))]
    exact h6
def items : List (Int × List (List Int)) → List S66
  | [] => []
  | x :: ps => itemsOf x.1 x.2 0 ++ items ps
theorem items_snoc (y : Int × List (List Int)) : ∀ ps : List (Int × List (List Int)), items (ps ++ [y]) = items ps ++ itemsOf y.1 y.2 0
  | [] => by simp [items]
  | x :: ps => by rw [List.cons_append, items, items_snoc y ps, items, List.append_assoc]
theorem itemsOf_snoc (p : Int) (r : List Int) : ∀ (rs : List (List Int)) (i : Nat), itemsOf p (rs ++ [r]) i = itemsOf p rs i ++ [⟨⟨p, ((i + rs.length : Nat) : Int) % 65536⟩, r⟩]
  | [], i => by simp [itemsOf]
  | x :: rs, i => by
    rw [List.cons_append, itemsOf, itemsOf_snoc p r rs (i + 1), itemsOf, List.cons_append, List.length_cons, show i + 1 + rs.length = i + (rs.length + 1) by omega]
theorem chain_way {d : List Int} {t : List Bool} {q : Int} {rs : List (List Int)} (hc : Cls d t q 0 0 rs) : ∀ {ps : List (Int × List (List Int))} {p : Int}, Chain d t.length p ps q → ∀ (m n : Nat) (its : List S66), Way d t (m + 1 + ps.length) p n its ((n + ps.length : Nat) : Int) 0 (its ++ items ps ++ itemsOf q rs 0)
  | [], p, h, m, n, its => by
    have e : p = q := h
    subst e
    rw [items, List.append_nil]
    exact Way.last hc
  | x :: ps, p, h, m, n, its => by
    obtain ⟨e, h2, h3, r', h4, h5, h6, h7⟩ := h
    rw [List.length_cons, show m + 1 + (ps.length + 1) = m + 1 + ps.length + 1 by omega]
    refine Way.more (rs := x.2) (.good r' x.2 h3 h5 h6) h4 ?_
    have ih := chain_way hc h7 m (n + 1) (its ++ itemsOf p x.2 0)
    rw [items, e, show n + (ps.length + 1) = n + 1 + ps.length by omega, ← List.append_assoc its]
    exact ih
/-- A heap that is being filled: pages ps stand behind it, done is what it has, o is where. -/
structure Bk (s : St) (ps : List (Int × List (List Int))) (dn : List (List Int)) (o : List S50) : Prop where
  ok : SOk s
  beg : s.beg = true
  ch : Chain s.d s.t.length s.first ps s.pg
  lt : s.pg < (s.t.length : Int)
  nd : s.pg ∉ ps.map Prod.fst
  tk : ∀ x ∈ ps.map Prod.fst, s.t[x.toNat]? = some true
  tp : s.t[s.pg.toNat]? = some true
  t0 : s.t[0]? = some true
  io : (items ps ++ itemsOf s.pg s.rs 0).map S66.f0 = o
  ir : (items ps ++ itemsOf s.pg s.rs 0).map S66.f1 = dn
  ct : ps.length + 1 ≤ tr s.t
  f0 : 0 ≤ s.first ∧ s.first < 4294967296
/-- The page is full: another one. -/
theorem Bk.next {s : St} {ps : List (Int × List (List Int))} {dn : List (List Int)} {o : List S50} (h : Bk s ps dn o) (hz : (nextS s).1 = 0) : Bk (nextS s).2 (ps ++ [(s.pg, s.rs)]) dn o := by
  have hok := nextS_ok h.ok
  have hzz := nextS_zero hz
  have h4 := h.ok.n4
  have hp0 := h.ok.pg
  have hx : (tkF s.t).2.1 = 0 := by
    unfold nextS at hz
    split at hz
    · assumption
    · exact hz
  obtain ⟨n, e, hn0, hn1, hnf⟩ := tk_new hx
  have hnz : n ≠ 0 := by
    intro hn
    rw [hn] at hnf
    have := h.t0
    rw [show (0 : Int).toNat = 0 from rfl] at hnf
    rw [hnf] at this
    cases this
  have hlt := h.lt
  have hon : Ok n s.rs := ok_link h.ok.rs ⟨hn0, by omega⟩
  have hst : (nextS s).2 = ⟨splice s.d (512 * s.pg.toNat) (hp n s.rs), (s.t.set n.toNat true).set s.pg.toNat true, n, [], true, s.first⟩ := by
    unfold nextS
    rw [if_pos hx, e, if_pos h.beg]
    simp only
    unfold wrG
    rw [if_pos (by rw [List.length_set]; exact hlt), if_pos hon.len]
  have htt : (s.t.set n.toNat true).set s.pg.toNat true = s.t.set n.toNat true := tr_same _ _ (set_t h.tp)
  rw [htt] at hst
  rw [hst] at hok ⊢
  have hne : ∀ x : Int, s.t[x.toNat]? = some true → x ≠ n := by
    intro x hx he
    rw [he, hnf] at hx
    cases hx
  refine ⟨hok, rfl, ?_, by show n < _; rw [List.length_set]; exact hn1, ?_, ?_, ?_, set_t h.t0, ?_, ?_, ?_, h.f0⟩
  · show Chain _ (s.t.set n.toNat true).length _ _ _
    rw [List.length_set]
    refine (h.ch.write h.ok.len hon.len hp0.1 hlt h.nd).snoc hp0.1 hlt hnz hon ?_
    rw [pg_splice s.d _ s.pg.toNat s.pg.toNat s.t.length h.ok.len (by omega) (by omega) hon.len, if_pos rfl]
  · rw [List.map_append, List.mem_append]
    rintro (hm | hm)
    · exact hne n (h.tk n hm) rfl
    · rw [List.map_cons, List.map_nil, List.mem_singleton] at hm
      exact hne s.pg h.tp hm.symm
  · intro x hx
    rw [List.map_append, List.mem_append] at hx
    rcases hx with hm | hm
    · exact set_t (h.tk x hm)
    · rw [List.map_cons, List.map_nil, List.mem_singleton] at hm
      rw [hm]
      exact set_t h.tp
  · show (s.t.set n.toNat true)[n.toNat]? = some true
    rw [List.getElem?_set_self (by omega)]
  · rw [items_snoc]
    show (items ps ++ itemsOf s.pg s.rs 0 ++ []).map S66.f0 = o
    rw [List.append_nil]
    exact h.io
  · rw [items_snoc]
    show (items ps ++ itemsOf s.pg s.rs 0 ++ []).map S66.f1 = dn
    rw [List.append_nil]
    exact h.ir
  · have := h.ct
    have h5 := tr_set s.t n.toNat hnf
    rw [List.length_append, List.length_singleton]
    show _ ≤ tr (s.t.set n.toNat true)
    omega
/-- There is room: a record more. -/
theorem Bk.add {s : St} {ps : List (Int × List (List Int))} {dn : List (List Int)} {o : List S50} (h : Bk s ps dn o) (r : List Int) (hok : SOk { s with rs := s.rs ++ [r] }) : Bk { s with rs := s.rs ++ [r] } ps (dn ++ [r]) (o ++ [⟨s.pg, (s.rs.length : Int) % 65536⟩]) := by
  refine ⟨hok, h.beg, h.ch, h.lt, h.nd, h.tk, h.tp, h.t0, ?_, ?_, h.ct, h.f0⟩
  · show (items ps ++ itemsOf s.pg (s.rs ++ [r]) 0).map S66.f0 = _
    rw [itemsOf_snoc, ← List.append_assoc, List.map_append, h.io, Nat.zero_add]
    rfl
  · show (items ps ++ itemsOf s.pg (s.rs ++ [r]) 0).map S66.f1 = _
    rw [itemsOf_snoc, ← List.append_assoc, List.map_append, h.ir]
    rfl
theorem tot_snoc (r : List Int) : ∀ rs : List (List Int), tot (rs ++ [r]) = tot rs + r.length
  | [] => by simp [tot]
  | x :: rs => by rw [List.cons_append, tot, tot_snoc r rs, tot]; omega
/-- A row's lengths. -/
def szs (l : List (List Int)) : List Int := l.map fun r => (r.length : Int)
theorem szs_at (pre : List (List Int)) (r : List Int) (todo : List (List Int)) : rd (szs (pre ++ r :: todo)) (pre.length : Int) = (r.length : Int) := by
  simp [rd, szs]
/-- fillS and heap.Pages go side by side. -/
theorem fill_bk : ∀ (todo pre : List (List Int)) (s : St) (ps : List (Int × List (List Int))) (o O : List S50) (S : St), Bk s ps pre o → (∀ r ∈ todo, By r) → todo.any badR = false → pre.length + todo.length ≤ 100000 → fillS todo s o = (0, S, O) →
    ∃ ps', Bk S ps' (pre ++ todo) O ∧ Ev (fun k => heap_Pages.l0 k ((ps.length + 1 : Nat) : Int) (504 - 4 * (s.rs.length : Int) - (tot s.rs : Int)) (szs (pre ++ todo)) ((pre ++ todo).length : Int) (pre.length : Int)) ((ps'.length + 1 : Nat) : Int)
  | [], pre, s, ps, o, O, S, h, hy, hg, hl, hf => by
    rw [fillS] at hf
    injection hf with _ hf
    injection hf with e1 e2
    subst e1 e2
    refine ⟨ps, by rw [List.append_nil]; exact h, Ev.step (f := fun _ => some ((ps.length + 1 : Nat) : Int)) (fun k => ?_) (Ev.now _)⟩
    rw [heap_Pages.l0, if_neg (by rw [List.append_nil]; omega)]
  | r :: todo, pre, s, ps, o, O, S, h, hy, hg, hl, hf => by
    have hr : badR r = false := by
      rw [List.any_cons, Bool.or_eq_false_iff] at hg
      exact hg.1
    have hg2 : todo.any badR = false := by
      rw [List.any_cons, Bool.or_eq_false_iff] at hg
      exact hg.2
    have hr2 := badR_false.mp hr
    have hry := hy r (List.mem_cons_self ..)
    have hy2 := fun x hx => hy x (List.mem_cons_of_mem _ hx)
    have hok := addS_ok h.ok r hr2.1 hr2.2 hry
    have hct := h.ct
    have hct2 := tr_le s.t
    have h4 := h.ok.n4
    rw [fillS] at hf
    rw [List.length_cons] at hl
    have hall : pre ++ r :: todo = (pre ++ [r]) ++ todo := by simp
    have hlen : (pre ++ [r]).length = pre.length + 1 := by simp
    have hL : (pre ++ r :: todo).length = pre.length + todo.length + 1 := by rw [List.length_append, List.length_cons]; omega
    have hSl : (szs (pre ++ r :: todo)).length = pre.length + todo.length + 1 := by rw [szs, List.length_map, hL]
    have hstep : ∀ (k : Nat), heap_Pages.l0 (k + 2) ((ps.length + 1 : Nat) : Int) (504 - 4 * (s.rs.length : Int) - (tot s.rs : Int)) (szs (pre ++ r :: todo)) ((pre ++ r :: todo).length : Int) (pre.length : Int) =
        (if (r.length : Int) + 4 > 504 - 4 * (s.rs.length : Int) - (tot s.rs : Int) then heap_Pages.l0 k ((ps.length + 1 + 1 : Nat) : Int) (504 - ((r.length : Int) + 4)) (szs (pre ++ r :: todo)) ((pre ++ r :: todo).length : Int) ((pre.length + 1 : Nat) : Int)
        else heap_Pages.l0 k ((ps.length + 1 : Nat) : Int) (504 - 4 * (s.rs.length : Int) - (tot s.rs : Int) - ((r.length : Int) + 4)) (szs (pre ++ r :: todo)) ((pre ++ r :: todo).length : Int) ((pre.length + 1 : Nat) : Int)) := by
      intro k
      have hsz := h.ok.rs.sz
      have q1 : ((pre.length : Nat) : Int) < ((pre ++ r :: todo).length : Int) := by omega
      have q2 : ((pre.length : Nat) : Int) < ((szs (pre ++ r :: todo)).length : Int) := by omega
      have q3 : ¬ decide ((r.length : Int) > 500) = true := by simp; omega
      have b1 : (-9223372036854775808 : Int) ≤ (r.length : Int) + 4 ∧ (r.length : Int) + 4 ≤ 9223372036854775807 := by omega
      have b2 : (-9223372036854775808 : Int) ≤ (pre.length : Int) + 1 ∧ (pre.length : Int) + 1 ≤ 9223372036854775807 := by omega
      have b3 : (-9223372036854775808 : Int) ≤ ((ps.length + 1 : Nat) : Int) + 1 ∧ ((ps.length + 1 : Nat) : Int) + 1 ≤ 9223372036854775807 := by omega
      have b4 : (-9223372036854775808 : Int) ≤ 504 - ((r.length : Int) + 4) ∧ 504 - ((r.length : Int) + 4) ≤ 9223372036854775807 := by omega
      have b5 : (-9223372036854775808 : Int) ≤ 504 - 4 * (s.rs.length : Int) - (tot s.rs : Int) - ((r.length : Int) + 4) ∧ 504 - 4 * (s.rs.length : Int) - (tot s.rs : Int) - ((r.length : Int) + 4) ≤ 9223372036854775807 := by omega
      have q4 : ¬ (r.length : Int) < 1 := by omega
      rw [heap_Pages.l0, if_pos q1, if_pos (Int.natCast_nonneg _), if_pos q2, szs_at, if_neg q4, heap_Pages.j1, if_neg q3, wr_in _ b1, wr_in _ b2, wr_in _ b3, wr_in _ b4, wr_in _ b5]
      rfl
    have hroom : room s.rs < r.length ↔ (r.length : Int) + 4 > 504 - 4 * (s.rs.length : Int) - (tot s.rs : Int) := by
      have hsz := h.ok.rs.sz
      unfold room
      omega
    by_cases hz : (addS s r).1 = 0
    · rw [if_pos hz] at hf
      by_cases hm : room s.rs < r.length
      · have hn : (nextS s).1 = 0 := by
          unfold addS at hz
          rw [if_pos hm] at hz
          split at hz
          · assumption
          · exact hz
        have ha : addS s r = (0, { (nextS s).2 with rs := (nextS s).2.rs ++ [r] }, ⟨(nextS s).2.pg, ((nextS s).2.rs.length : Int) % 65536⟩) := by
          unfold addS
          rw [if_pos hm, if_pos hn]
        rw [ha] at hf hok
        have hb := (h.next hn).add r hok
        obtain ⟨ps', hb2, hev⟩ := fill_bk todo (pre ++ [r]) _ _ _ O S hb hy2 hg2 (by rw [hlen]; omega) hf
        refine ⟨ps', by rw [hall]; exact hb2, ?_⟩
        have hze := (nextS_zero hn).1
        dsimp only at hev
        rw [hze, ← hall, hlen, show (ps ++ [(s.pg, s.rs)]).length = ps.length + 1 by simp] at hev
        refine Ev.step (fun k => rfl) (Ev.step (f := fun k => heap_Pages.l0 k ((ps.length + 1 + 1 : Nat) : Int) (504 - ((r.length : Int) + 4)) (szs (pre ++ r :: todo)) ((pre ++ r :: todo).length : Int) ((pre.length + 1 : Nat) : Int)) (fun k => ?_) ?_)
        · rw [hstep, if_pos (hroom.mp hm)]
        · have hE : 504 - 4 * ((([] : List (List Int)) ++ [r]).length : Int) - (tot (([] : List (List Int)) ++ [r]) : Int) = 504 - ((r.length : Int) + 4) := by simp [tot]; omega
          rw [hE] at hev
          exact hev
      · have ha : addS s r = (0, { s with rs := s.rs ++ [r] }, ⟨s.pg, (s.rs.length : Int) % 65536⟩) := by
          unfold addS
          rw [if_neg hm]
        rw [ha] at hf hok
        have hb := h.add r hok
        obtain ⟨ps', hb2, hev⟩ := fill_bk todo (pre ++ [r]) _ _ _ O S hb hy2 hg2 (by rw [hlen]; omega) hf
        refine ⟨ps', by rw [hall]; exact hb2, ?_⟩
        dsimp only at hev
        rw [← hall, hlen] at hev
        refine Ev.step (fun k => rfl) (Ev.step (f := fun k => heap_Pages.l0 k ((ps.length + 1 : Nat) : Int) (504 - 4 * (s.rs.length : Int) - (tot s.rs : Int) - ((r.length : Int) + 4)) (szs (pre ++ r :: todo)) ((pre ++ r :: todo).length : Int) ((pre.length + 1 : Nat) : Int)) (fun k => ?_) ?_)
        · rw [hstep, if_neg (fun h2 => hm (hroom.mpr h2))]
        · have hE : 504 - 4 * ((s.rs ++ [r]).length : Int) - (tot (s.rs ++ [r]) : Int) = 504 - 4 * (s.rs.length : Int) - (tot s.rs : Int) - ((r.length : Int) + 4) := by rw [tot_snoc]; simp; omega
          rw [hE] at hev
          exact hev
    · rw [if_neg hz] at hf
      injection hf with e _
      exact absurd e hz
/-- An item stands where it says. -/
def At (d : List Int) (t : List Bool) (x : S66) : Prop := ∃ nx rs, 0 ≤ x.f0.f0 ∧ Cls d t x.f0.f0 0 nx rs ∧ 0 ≤ x.f0.f1 ∧ x.f0.f1 < (rs.length : Int) ∧ x.f0.f1 < 65536 ∧ Slb.rd_L rs x.f0.f1 = x.f1
theorem items_at {d : List Int} {t : List Bool} {p nx : Int} {all : List (List Int)} (h : Cls d t p 0 nx all) (h0 : 0 ≤ p) (hc : all.length ≤ 126) : ∀ (rs pre : List (List Int)), all = pre ++ rs → ∀ x ∈ itemsOf p rs pre.length, At d t x
  | [], pre, ha, x, hx => by cases hx
  | r :: rs, pre, ha, x, hx => by
    have hl : all.length = pre.length + rs.length + 1 := by rw [ha, List.length_append, List.length_cons]; omega
    rw [itemsOf] at hx
    rcases List.mem_cons.1 hx with e | hx
    · rw [e]
      have e2 : ((pre.length : Nat) : Int) % 65536 = (pre.length : Int) := by omega
      refine ⟨nx, all, h0, h, ?_, ?_, ?_, ?_⟩
      · show 0 ≤ ((pre.length : Nat) : Int) % 65536; omega
      · show ((pre.length : Nat) : Int) % 65536 < _; omega
      · show ((pre.length : Nat) : Int) % 65536 < 65536; omega
      · show Slb.rd_L all (((pre.length : Nat) : Int) % 65536) = r
        rw [e2, ha]
        simp [Slb.rd_L]
    · have ih := items_at h h0 hc rs (pre ++ [r]) (by rw [ha]; simp) x
      rw [List.length_append, List.length_singleton] at ih
      exact ih hx
theorem way_at {d : List Int} {t : List Bool} {m : Nat} {p : Int} {n : Nat} {its : List S66} {k e : Int} {o : List S66} (h : Way d t m p n its k e o) : 0 ≤ p → (∀ x ∈ its, At d t x) → ∀ x ∈ o, At d t x := by
  induction h with
  | over p n its => exact fun _ h => h
  | err h he => exact fun _ h => h
  | @last m p n its rs h =>
    intro h0 hi x hx
    rcases List.mem_append.1 hx with hx | hx
    · exact hi x hx
    · have ho : Ok 0 rs := by
        cases h with
        | good nx rs hin h hb => exact h
      exact items_at h h0 ho.count _ [] rfl x hx
  | @more m p n its nx k e rs o h hn hw ih =>
    intro h0 hi
    have ho : Ok nx rs := by
      cases h with
      | good nx rs hin h hb => exact h
    refine ih ho.nx_.1 (fun x hx => ?_)
    rcases List.mem_append.1 hx with hx | hx
    · exact hi x hx
    · exact items_at h h0 ho.count _ [] rfl x hx
theorem back {d : List Int} {t : List Bool} {l : List (List Int)} {S : St} {O : List S50} (h : d.length = 512 * t.length ∧ 0 < t.length ∧ t.length ≤ 4096 ∧ By d) (h0 : t[0]? = some true) (hby : ∀ r ∈ l, By r) (hl : l.length ≤ 100000) (hf : fillF d t l = (0, S, O)) :
    ∃ (k : Nat) (o : List S66), Way S.d S.t S.t.length S.first 1 [] (k : Int) 0 o ∧ o.map S66.f0 = O ∧ o.map S66.f1 = l ∧ (0 ≤ S.first ∧ S.first < 4294967296) ∧ Ev (fun q => heap_Pages.f q (szs l)) (k : Int) ∧ (∀ x ∈ o, At S.d S.t x) ∧ S.t.length = t.length ∧ By S.d := by
  unfold fillF at hf
  split at hf
  · injection hf with e _
    cases e
  rename_i hg
  have hg2 : l.any badR = false := by simpa using hg
  split at hf
  case isFalse hz =>
    injection hf with e _
    exact absurd e hz
  rename_i hz
  have hx : (tkF t).2.1 = 0 := by
    unfold nextS at hz
    split at hz
    · assumption
    · exact hz
  obtain ⟨n, e, hn0, hn1, hnf⟩ := tk_new hx
  have hs1 : (nextS ⟨d, t, 0, [], false, 0⟩).2 = ⟨d, t.set n.toNat true, n, [], true, n⟩ := by
    unfold nextS
    simp only
    rw [if_pos hx, e]
    rfl
  have hok1 := nextS_ok (s0_okr h)
  have hB : Bk (nextS ⟨d, t, 0, [], false, 0⟩).2 [] [] [] := by
    rw [show s0_ d t = ⟨d, t, 0, [], false, 0⟩ from rfl] at hok1
    rw [hs1] at hok1 ⊢
    refine ⟨hok1, rfl, rfl, by show n < _; rw [List.length_set]; exact hn1, by simp, (fun x hx => by cases hx), ?_, set_t h0, rfl, rfl, ?_, ⟨hn0, by show n < 4294967296; omega⟩⟩
    · show (t.set n.toNat true)[n.toNat]? = some true
      rw [List.getElem?_set_self (by omega)]
    · show 0 + 1 ≤ tr (t.set n.toNat true)
      rw [tr_set t n.toNat hnf]
      omega
  split at hf
  rename_i e' s o heq
  split at hf
  case isFalse he =>
    injection hf with e _
    exact absurd e he
  rename_i he
  subst he
  injection hf with _ hf
  injection hf with e1 e2
  subst e2
  obtain ⟨ps, hb, hev⟩ := fill_bk l [] _ [] [] o s hB hby hg2 (by simpa using hl) heq
  rw [List.nil_append] at hb hev
  have hr0 : Ok 0 s.rs := hb.ok.rs
  have hp0 := hb.ok.pg
  have hlt := hb.lt
  have hw : wrG s.d s.t s.pg (hp 0 s.rs) = (splice s.d (512 * s.pg.toNat) (hp 0 s.rs), s.t, 0) := by
    unfold wrG
    rw [if_pos hlt, if_pos hr0.len, tr_same _ _ hb.tp]
  rw [hw] at e1
  subst e1
  dsimp only
  have hch := hb.ch.write hb.ok.len hr0.len hp0.1 hlt hb.nd
  have hcl : Cls (splice s.d (512 * s.pg.toNat) (hp 0 s.rs)) s.t s.pg 0 0 s.rs := .good 0 s.rs hlt hr0 (by
    rw [pg_splice s.d _ s.pg.toNat s.pg.toNat s.t.length hb.ok.len (by omega) (by omega) hr0.len, if_pos rfl])
  have hct := hb.ct
  have hct2 := tr_le s.t
  have hway := chain_way hcl hch (s.t.length - 1 - ps.length) 1 []
  rw [show s.t.length - 1 - ps.length + 1 + ps.length = s.t.length by omega, List.nil_append] at hway
  have hlen : s.t.length = t.length := by
    have h1 := nextS_len ⟨d, t, 0, [], false, 0⟩
    have h2 : ∀ (l : List (List Int)) (s : St) (o : List S50), (fillS l s o).2.1.t.length = s.t.length := by
      intro l
      induction l with
      | nil => intro s o; rfl
      | cons r l ih =>
        intro s o
        rw [fillS]
        split
        · rw [ih, addS_len]
        · exact addS_len s r
    have h3 := h2 l (nextS ⟨d, t, 0, [], false, 0⟩).2 []
    rw [heq, h1] at h3
    exact h3
  refine ⟨1 + ps.length, _, hway, hb.io, hb.ir, hb.f0, ?_, way_at hway hb.f0.1 (fun x hx => by cases hx), hlen, By.splice (d := s.d) hb.ok.by_ (PureSl.pg_by 0 s.rs hr0.by_) _⟩
  rw [Nat.add_comm 1]
  have hze := (nextS_zero hz).1
  rw [hze] at hev
  have e4 : 504 - 4 * (([] : List (List Int)).length : Int) - (tot ([] : List (List Int)) : Int) = 504 := by simp [tot]
  rw [e4] at hev
  have e5 : (szs l).length = l.length := by rw [szs, List.length_map]
  refine Ev.congr (fun q => ?_) hev
  rw [heap_Pages.f, e5]
  rfl
end Go.Proofs.Ytpfegfkniilobaa.Hp
