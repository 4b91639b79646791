/- The law PoolSizes: two pools over one disk. Conditions: the numbers are of their kinds. -/
import Derived.Test.YtolgcohmmghehaaPoolF
namespace Go.Proofs.Ytolgcohmmghehaa.Pool
open Go.Proofs.YtolgcohmmghehaaW
open Go.RowKit Go.Proofs.YtolgcohmmghehaaW.PrintWords Go.Proofs.YtolgcohmmghehaaW.PrintLast Go.Proofs.YtolgcohmmghehaaW.PrintMore Go.Proofs.Ytolgcohmmghehaa.Byt Go.Proofs.Ytolgcohmmghehaa.Dsk
set_option linter.unusedVariables false
set_option linter.unusedSimpArgs false
set_option maxRecDepth 100000
theorem lru_mem (size : Int) (order : List Int) (p q : Int) (h : q ∈ lru size order p) : q ∈ order ∨ q = p := by
  unfold lru at h
  split at h
  · rcases List.mem_append.1 h with h | h
    · exact .inl (List.mem_of_mem_erase h)
    · exact .inr (List.mem_singleton.1 h)
  · rcases List.mem_append.1 h with h | h
    · split at h
      · exact .inl (List.mem_of_mem_drop h)
      · exact .inl h
    · exact .inr (List.mem_singleton.1 h)
theorem ba_self (x : ByteArray) : (x != x) = false := by
  have : (x == x) = true := by
    show x.beq x = true
    cases x
    simp [ByteArray.beq]
  show (!(x == x)) = false
  rw [this]; rfl
/-- The order of a small pool is the end of a greater one's. -/
structure Two (s1 s2 : Int) (a b : List Int) : Prop where
  suf : a <:+ b
  nod : b.Nodup
  la : (a.length : Int) ≤ s1
  lb : (b.length : Int) ≤ s2
  or_ : a = b ∨ (a.length : Int) = s1
theorem Two.step {s1 s2 : Int} (h1 : 1 ≤ s1) (h2 : s1 ≤ s2) {a b : List Int} (h : Two s1 s2 a b) (p : Int) (hn : (lru s2 b p).Nodup) (hla : ((lru s1 a p).length : Int) ≤ s1) (hlb : ((lru s2 b p).length : Int) ≤ s2) : Two s1 s2 (lru s1 a p) (lru s2 b p) ∧ (p ∈ a → p ∈ b) := by
  obtain ⟨pre, rfl⟩ := h.suf
  have hsub : p ∈ a → p ∈ pre ++ a := fun hp => List.mem_append_right _ hp
  refine ⟨?_, hsub⟩
  by_cases ha : p ∈ a
  · have hpre : p ∉ pre := fun hp => (List.nodup_append.1 h.nod).2.2 p hp p ha rfl
    have e1 : lru s1 a p = a.erase p ++ [p] := by rw [lru, if_pos ha]
    have e2 : lru s2 (pre ++ a) p = pre ++ (a.erase p ++ [p]) := by rw [lru, if_pos (hsub ha), List.erase_append_right _ hpre, List.append_assoc]
    refine ⟨by rw [e1, e2]; exact List.suffix_append _ _, hn, hla, hlb, ?_⟩
    rcases h.or_ with e | e
    · have hp0 : pre = [] := by
        have := congrArg List.length e
        rw [List.length_append] at this
        exact List.eq_nil_of_length_eq_zero (by omega)
      left
      rw [e1, e2, hp0, List.nil_append]
    · right
      have := List.length_erase_of_mem ha
      have hpos : 0 < a.length := List.length_pos_of_mem ha
      rw [e1, List.length_append, List.length_singleton, this]
      omega
  · by_cases hb : p ∈ pre ++ a
    · have hpp : p ∈ pre := (List.mem_append.1 hb).resolve_right ha
      have hfull : (a.length : Int) = s1 := by
        rcases h.or_ with e | e
        · have := congrArg List.length e
          rw [List.length_append] at this
          have hpos : 0 < pre.length := List.length_pos_of_mem hpp
          omega
        · exact e
      have e1 : lru s1 a p = a.drop 1 ++ [p] := by rw [lru, if_neg ha, if_pos hfull]
      have e2 : lru s2 (pre ++ a) p = pre.erase p ++ a ++ [p] := by rw [lru, if_pos hb, List.erase_append_left _ hpp]
      refine ⟨?_, hn, hla, hlb, .inr ?_⟩
      · rw [e1, e2]
        obtain ⟨x, hx⟩ := List.drop_suffix 1 a
        exact ⟨pre.erase p ++ x, by rw [← List.append_assoc, List.append_assoc (pre.erase p), hx]⟩
      · rw [e1, List.length_append, List.length_drop, List.length_singleton]
        omega
    · have e2 : lru s2 (pre ++ a) p = (if ((pre ++ a).length : Int) = s2 then (pre ++ a).drop 1 else pre ++ a) ++ [p] := by rw [lru, if_neg hb]
      by_cases hf : (a.length : Int) = s1
      · have e1 : lru s1 a p = a.drop 1 ++ [p] := by rw [lru, if_neg ha, if_pos hf]
        refine ⟨?_, hn, hla, hlb, .inr ?_⟩
        · rw [e1, e2]
          obtain ⟨x, hx⟩ := List.drop_suffix 1 a
          split
          · cases pre with
            | nil => exact List.suffix_refl _
            | cons y pre =>
              show a.drop 1 ++ [p] <:+ (pre ++ a) ++ [p]
              exact ⟨pre ++ x, by rw [← List.append_assoc, List.append_assoc pre, hx]⟩
          · exact ⟨pre ++ x, by rw [← List.append_assoc, List.append_assoc pre, hx]⟩
        · rw [e1, List.length_append, List.length_drop, List.length_singleton]
          omega
      · have e := h.or_.resolve_right hf
        have hp0 : pre = [] := by
          have := congrArg List.length e
          rw [List.length_append] at this
          exact List.eq_nil_of_length_eq_zero (by omega)
        subst hp0
        have hla2 := h.la
        have e1 : lru s1 a p = a ++ [p] := by rw [lru, if_neg ha, if_neg hf]
        have e3 : lru s2 ([] ++ a) p = a ++ [p] := by
          rw [e2, List.nil_append, if_neg (by omega)]
        exact ⟨by rw [e1, e3]; exact List.suffix_refl _, hn, hla, hlb, .inl (by rw [e1, e3])⟩
theorem PoolSizes_big (pages sz more : Int) (A : Option Addr) (n c : Nat) (w : World) (h : pages < 1 ∨ 20 < pages ∨ 300 < n) : Calls Try.prog 8 #[.int .i64 pages, .int .u8 sz, .int .u8 more, .slice A n c] w fun e w' => e = .returned (.bool true) ∧ Below w.heap.size w w' := by
  by_cases h1 : pages < 1
  · have c1 : decide (pages < 1) = true := decide_eq_true h1
    clear h h1
    go_enter Try.func8, Try.ntmps8
    go_wp2_with (go_at_call 35; (with_reducible refine (fixed_ok _).mono ?_); rintro en w1 ⟨rfl, hb⟩; have HB := Aside0.mk hb; clear hb)
    go_ret
    exact ⟨rfl, HB.out⟩
  have c1 : decide (pages < 1) = false := decide_eq_false h1
  by_cases h2 : 20 < pages
  · have c2 : decide (20 < pages) = true := decide_eq_true h2
    clear h h1 h2
    go_enter Try.func8, Try.ntmps8
    go_wp2_with (go_at_call 35; (with_reducible refine (fixed_ok _).mono ?_); rintro en w1 ⟨rfl, hb⟩; have HB := Aside0.mk hb; clear hb)
    go_ret
    exact ⟨rfl, HB.out⟩
  have c2 : decide (20 < pages) = false := decide_eq_false h2
  have c3 : decide (300 < (n : Int)) = true := decide_eq_true (by omega)
  have c3b : decide (300 < n) = true := decide_eq_true (by omega)
  clear h h1 h2
  go_enter Try.func8, Try.ntmps8
  go_wp2_with (go_at_call 35; (with_reducible refine (fixed_ok _).mono ?_); rintro en w1 ⟨rfl, hb⟩; have HB := Aside0.mk hb; clear hb)
  go_ret
  exact ⟨rfl, HB.out⟩
set_option maxHeartbeats 8000000 in
theorem PoolSizes_walk (pages : Nat) (sz more : Int) (A : Option Addr) (c : Nat) (l : List Int) (w : World) (hp : 1 ≤ pages ∧ pages ≤ 20) (hs : 0 ≤ sz ∧ sz ≤ 255) (hm : 0 ≤ more ∧ more ≤ 255) (hl : l.length ≤ 300) (hC : Kd.C (Kd.int .u32) w A l.length l) (hy : ∀ x ∈ l, 0 ≤ x ∧ x < 4294967296) :
    Calls Try.prog 8 #[.int .i64 (pages : Int), .int .u8 sz, .int .u8 more, .slice A l.length c] w fun e w' => e = .returned (.bool true) ∧ Below w.heap.size w w' := by
  have c1 : decide ((pages : Int) < 1) = false := decide_eq_false (by omega)
  have c2 : decide (20 < (pages : Int)) = false := decide_eq_false (by omega)
  have c3 : decide (300 < (l.length : Int)) = false := decide_eq_false (by omega)
  have c3b : decide (300 < l.length) = false := decide_eq_false (by omega)
  have k1 : wrap64 sz = sz := wr_in _ (by omega)
  have k2 : wrap64 more = more := wr_in _ (by omega)
  have k3 : wrap64 (1 + sz) = 1 + sz := wr_in _ (by omega)
  have k4 : wrap64 (1 + sz + more) = 1 + sz + more := wr_in _ (by omega)
  have HL := Aside0.mk (And.intro hp (And.intro hs (And.intro hm hl)))
  have HC := Aside0.mk (And.intro hC hy)
  clear hp hs hm hl hC hy
  go_enter Try.func8, Try.ntmps8
  go_wp2_with (first
    | (go_at_call 36; (with_reducible refine (begin_ok _ pages HL.out.1).mono ?_); rintro en w1 ⟨gd, d, t, rfl, hd, ht, hy, hb⟩; have HD1 := Aside0.mk hd.bound; have HB1 := Aside0.mk hb; have HT := Aside0.mk ht; clear hd hb ht hy)
    | (go_at_call 37; (with_reducible refine (new_ok' _ gd (1 + sz) (by have := HL.out; omega) (fun q => pg d q.toNat)).mono ?_); rintro en w2 ⟨ga, gma, rfl, hp, hb⟩; have HPA2 := Aside0.mk hp.bound; have HD2 := Aside0.mk (HD1.out.below hb); have HB2 := Aside0.mk (below_then HB1.out HB1.out.size hb); have HS2 := Aside0.mk (And.intro HB1.out.size hb.size); clear hp hb HD1 HB1)
    | (go_at_call 37; (with_reducible refine (new_ok' _ gd (1 + sz + more) (by have := HL.out; omega) (fun q => pg d q.toNat)).mono ?_); rintro en w3 ⟨gb, gmb, rfl, hp, hb⟩; have HPB3 := Aside0.mk hp.bound; have HPA3 := Aside0.mk (HPA2.out.below hb); have HD3 := Aside0.mk (HD2.out.below hb); have HB3 := Aside0.mk (below_then HB2.out HB2.out.size hb); have HS3 := Aside0.mk hb.size; clear hp hb HD2 HB2 HPA2))
  clear k1 k2 k3 k4
  obtain ⟨s1, hs1⟩ : ∃ s1, s1 = 1 + sz := ⟨_, rfl⟩
  obtain ⟨s2, hs2⟩ : ∃ s2, s2 = 1 + sz + more := ⟨_, rfl⟩
  rw [← hs1] at HPA3
  rw [← hs2] at HPB3
  have HSZ := Aside0.mk (show 1 ≤ s1 ∧ s1 ≤ s2 ∧ s2 ≤ 1000 by have := HL.out; omega)
  clear hs1 hs2
  go_loopg [69] l.length (fun kq v69 w' => ∃ (i : Nat) (okA okB : Nat → Prop) (a b : List Int) (ra ha rb hb : Int), v69 = .int .i64 (i : Int) ∧ Aside0 (kq + i = l.length) ∧ Aside0 (Pw w' okA ga gd s1 a ra ha (fun q => pg d q.toNat) i ∧ Pw w' okB gb gd s2 b rb hb (fun q => pg d q.toNat) i ∧ (∀ k, okA k → w1.heap.size ≤ k ∧ ¬ okB k) ∧ (∀ k, okB k → w1.heap.size ≤ k)) ∧ Aside0 (Two s1 s2 a b ∧ ∀ q ∈ b, q < t.length) ∧ Aside0 (0 ≤ rb ∧ rb ≤ ra ∧ ra ≤ i ∧ 0 ≤ ha ∧ ha ≤ i ∧ 0 ≤ hb ∧ hb ≤ i ∧ ra + ha = rb + hb) ∧ Aside0 (Dk w' (fun k => w.heap.size ≤ k ∧ k < w1.heap.size) gd d t) ∧ Aside0 (Below w.heap.size w w') ∧ Aside0 (w1.heap.size ≤ w'.heap.size))
  case atStart => exact ⟨0, _, _, [], [], 0, 0, 0, 0, rfl, ⟨by omega⟩, ⟨⟨_, _, _, _, HPA3.out⟩, ⟨_, _, _, _, HPB3.out⟩, fun k hk => ⟨hk.1, fun h => by have := hk.2; have := h.1; omega⟩, fun k hk => by have := hk.1; have := HS2.out.2; omega⟩, ⟨⟨List.suffix_refl _, List.Pairwise.nil, by have := HSZ.out; simp; omega, by have := HSZ.out; simp; omega, .inl rfl⟩, fun q hq => nomatch hq⟩, ⟨by simp⟩, HD3, HB3, ⟨by have h1 := HS2.out.2; have h2 := HS3.out; omega⟩⟩
  case round =>
    clear HPA3 HPB3 HD3 HB3
    obtain ⟨i, okA, okB, a, b, ra, ha, rb, hb, rfl, HI, HP, HW, HN, HD, HB, HW1⟩ := hrel
    by_cases c5 : i < l.length
    · have c5b : decide ((i : Int) < (l.length : Int)) = true := decide_eq_true (by omega)
      have c5c : decide (i < l.length) = true := decide_eq_true c5
      obtain ⟨ad, e1, hx0⟩ := Kd.at_int HC.out.1 (i : Int) (by omega) (by omega)
      subst e1
      replace hx0 := (HB.out.cell (World.block_lt_of_cell? w _ hx0)).trans hx0
      have hpr : 0 ≤ rd l (i : Int) ∧ rd l (i : Int) < 4294967296 := HC.out.2 _ (by
        rw [PrintWords.rd, Int.toNat_natCast, List.getD_eq_getElem?_getD, List.getElem?_eq_getElem c5]
        exact List.getElem_mem c5)
      obtain ⟨p, hp⟩ : ∃ p, p = rd l (i : Int) := ⟨_, rfl⟩
      rw [← hp] at hx0 hpr
      rw [Int.toNat_natCast] at hx0
      have p9 : (0 ≤ (i : Int)) = True := eq_true (by omega)
      have q9 : ((i : Int) < (l.length : Int)) = True := eq_true (by omega)
      have q9b : (i < l.length) = True := eq_true c5
      have HQ := Aside0.mk (And.intro c5 hpr)
      clear c5 hp hpr
      by_cases hin : p < t.length
      · have HIN := Aside0.mk hin
        clear hin
        have hsub : p ∈ a → p ∈ b := fun h => HW.out.1.suf.subset h
        obtain ⟨ra2, hra2⟩ : ∃ x, x = if p ∈ a then ra else ra + 1 := ⟨_, rfl⟩
        obtain ⟨ha2, hha2⟩ : ∃ x, x = if p ∈ a then ha + 1 else ha := ⟨_, rfl⟩
        obtain ⟨rb2, hrb2⟩ : ∃ x, x = if p ∈ b then rb else rb + 1 := ⟨_, rfl⟩
        obtain ⟨hb2, hhb2⟩ : ∃ x, x = if p ∈ b then hb + 1 else hb := ⟨_, rfl⟩
        have hnum : 0 ≤ rb2 ∧ rb2 ≤ ra2 ∧ ra2 ≤ i + 1 ∧ 0 ≤ ha2 ∧ ha2 ≤ i + 1 ∧ 0 ≤ hb2 ∧ hb2 ≤ i + 1 ∧ ra2 + ha2 = rb2 + hb2 := by
          have h0 := HN.out
          by_cases h1 : p ∈ a
          · have h2 := hsub h1
            rw [if_pos h1] at hra2 hha2
            rw [if_pos h2] at hrb2 hhb2
            omega
          · rw [if_neg h1] at hra2 hha2
            by_cases h2 : p ∈ b
            · rw [if_pos h2] at hrb2 hhb2
              omega
            · rw [if_neg h2] at hrb2 hhb2
              omega
        have cg : decide (ra2 < rb2) = false := decide_eq_false (by omega)
        have HNUM := Aside0.mk hnum
        have HEQ := Aside0.mk (And.intro hra2 (And.intro hha2 (And.intro hrb2 hhb2)))
        have hpl : (pg d p.toNat).length = 512 := pg_len HD.out.2.1 (by have := HQ.out.2; have := HIN.out; omega)
        have HPL := Aside0.mk hpl
        have HPB := Aside0.mk HP.out.2.1.bound
        have hne : (strOfNums (pg d p.toNat) != strOfNums (pg d p.toNat)) = false := ba_self _
        clear hra2 hha2 hrb2 hhb2 hnum hpl hsub
        go_wp2_with (first
          | (go_at_call 38; (with_reducible refine (get_ok HP.out.1 HD.out HSZ.out.1 (by have h1 := HI.out; have h2 := HL.out.2.2.2; omega) p HQ.out.2.1 HIN.out (fun _ => rfl) (by have h1 := HW.out.1.la; have h2 := HSZ.out; omega) (by have h1 := HN.out; have h2 := HI.out; have h3 := HL.out.2.2.2; omega)).mono ?_); rintro en w4 ⟨v, rfl, ho, hp4, hk4⟩; rw [← HEQ.out.1, ← HEQ.out.2.1] at hp4; obtain ⟨gx, cx, ex, _⟩ := Kd.R_form ho (by rw [HPL.out]; decide); rw [HPL.out] at ex; subst ex; have HX4 := Aside0.mk ho; have HA4 := Aside0.mk hp4.bound; have HK4 := Aside0.mk hk4; have HB4 := Aside0.mk (HPB.out.kept hk4.kept (fun k hk h => (HP.out.2.2.1 k h).2 hk.1)); have HD4 := Aside0.mk (HD.out.kept hk4.kept (fun k hk h => by have := (HP.out.2.2.1 k h).1; omega)); have HZ4 := Aside0.mk (HB.out.trans (hk4.to_below w.heap.size (fun k hk => Nat.le_trans HS2.out.1 (HP.out.2.2.1 k hk).1) HB.out.size)); clear ho hp4 hk4)
          | (go_at_call 38; (with_reducible refine (get_ok HB4.out HD4.out (by have := HSZ.out; omega) (by have h1 := HI.out; have h2 := HL.out.2.2.2; omega) p HQ.out.2.1 HIN.out (fun _ => rfl) (by have h1 := HW.out.1.lb; have h2 := HSZ.out; omega) (by have h1 := HN.out; have h2 := HI.out; have h3 := HL.out.2.2.2; omega)).mono ?_); rintro en w5 ⟨v, rfl, ho, hp5, hk5⟩; rw [← HEQ.out.2.2.1, ← HEQ.out.2.2.2] at hp5; obtain ⟨gy, cy, ey, _⟩ := Kd.R_form ho (by rw [HPL.out]; decide); rw [HPL.out] at ey; subst ey; have hx5 := Kd.R_kept (Kd.R_bound HX4.out) hk5.kept (fun k hk h => by have h1 := hk.2.1; have h2 := h.2; omega); have hcvx := own_string (P := Try.prog) Try.underlying26 Try.underlying5 Try.underlying9 (Kd.own_of_R hx5); have hcvy := own_string (P := Try.prog) Try.underlying26 Try.underlying5 Try.underlying9 (Kd.own_of_R ho); have HA5 := Aside0.mk (HA4.out.kept hk5.kept (fun k hk h => hk.1.1.elim (fun h1 => (HP.out.2.2.1 k h1).2 h.1) (fun h1 => by have := h.2; omega))); have HB5 := Aside0.mk hp5; have HD5 := Aside0.mk (HD4.out.kept hk5.kept (fun k hk h => by have := HP.out.2.2.2 k h.1; omega)); have HZ5 := Aside0.mk (HZ4.out.trans (hk5.to_below w.heap.size (fun k hk => Nat.le_trans HS2.out.1 (HP.out.2.2.2 k hk.1)) HZ4.out.size)); have HSZ4 := Aside0.mk HK4.out.size; have HK5S := Aside0.mk hk5.size; obtain ⟨gm5, n5, D5, v5, hb5⟩ := hp5; obtain ⟨gm6, n6, D6, v6, ha6⟩ := HA5.out; have HLB := Aside0.mk hb5; have HLA := Aside0.mk ha6; clear ho hk5 hx5 hb5 ha6)
          | (go_at_call 39; (with_reducible refine (reads_ok HLB.out).mono ?_); rintro en w6 ⟨rfl, rfl⟩)
          | (go_at_call 39; (with_reducible refine (reads_ok HLA.out).mono ?_); rintro en w7 ⟨rfl, rfl⟩))
        go_roundg (gk - 1)
        case measure => have h1 := HI.out; have h2 := HQ.out.1; omega
        case rel =>
          have h1 := HI.out
          have h2 := HQ.out.1
          have h3 := HL.out.2.2.2
          have h4 := (HW.out.1.step HSZ.out.1 HSZ.out.2.1 p HB5.out.nod HA5.out.len HB5.out.len).1
          exact ⟨i + 1, _, _, _, _, ra2, ha2, rb2, hb2, by first | rfl | (rw [wr_in ((i : Int) + 1) (by omega)]; rfl), ⟨by omega⟩, ⟨HA5.out, HB5.out, fun k hk => ⟨hk.1.1.elim (fun h => (HP.out.2.2.1 k h).1) (fun h => by have h6 := HW1.out; omega), fun h => h.1.elim (fun h5 => hk.1.1.elim (fun h6 => (HP.out.2.2.1 k h6).2 h5.1) (fun h6 => by have := h5.2; omega)) (fun h5 => by have := hk.2; omega)⟩, fun k hk => hk.1.elim (fun h => HP.out.2.2.2 k h.1) (fun h => by have h6 := HW1.out; have h7 := HSZ4.out; omega)⟩, ⟨h4, fun q hq => (lru_mem _ _ _ _ hq).elim (fun h => HW.out.2 q h) (fun h => by rw [h]; exact HIN.out)⟩, ⟨by have := HNUM.out; omega⟩, HD5, HZ5, ⟨by have h6 := HW1.out; have h7 := HSZ4.out; have h8 := HK5S.out; omega⟩⟩
      · skip
        have hnb : p ∉ b := fun h => hin (HW.out.2 p h)
        have hna : p ∉ a := fun h => hnb (HW.out.1.suf.subset h)
        obtain ⟨gm1, n1, D1, v1, ha1⟩ := HP.out.1
        obtain ⟨gm2, n2, D2, v2, hb1⟩ := HP.out.2.1
        have HLA := Aside0.mk ha1
        have HLB := Aside0.mk hb1
        have HIN := Aside0.mk (And.intro (show (t.length : Int) ≤ p by omega) (And.intro hna hnb))
        have hcv := fun W : World => own_string (P := Try.prog) Try.underlying26 Try.underlying5 Try.underlying9 (Kd.own_of_R (Kd.R_nil (Kd.int .u8) 5 W 0 (fun _ => True)))
        have cg : decide (ra < rb) = false := decide_eq_false (by have := HN.out; omega)
        clear hin hna hnb ha1 hb1
        go_wp2_with (first
          | (go_at_call 38; (with_reducible refine (get_out HLA.out HD.out p HQ.out.2.1 HQ.out.2.2 HIN.out.1 HIN.out.2.1).mono ?_); rintro en w4 ⟨rfl, hb⟩; have HA4 := Aside0.mk (HLA.out.below hb); have HB4 := Aside0.mk (HLB.out.below hb); have HD4 := Aside0.mk (HD.out.below hb); have HZ4 := Aside0.mk (below_then HB.out HB.out.size hb); have HSO4 := Aside0.mk hb.size; clear hb)
          | (go_at_call 38; (with_reducible refine (get_out HB4.out HD4.out p HQ.out.2.1 HQ.out.2.2 HIN.out.1 HIN.out.2.2).mono ?_); rintro en w5 ⟨rfl, hb⟩; have HA5 := Aside0.mk (HA4.out.below hb); have HB5 := Aside0.mk (HB4.out.below hb); have HD5 := Aside0.mk (HD4.out.below hb); have HZ5 := Aside0.mk (below_then HZ4.out HZ4.out.size hb); have HSO := Aside0.mk (Nat.le_trans HSO4.out hb.size); clear hb)
          | (go_at_call 39; (with_reducible refine (reads_ok HB5.out).mono ?_); rintro en w6 ⟨rfl, rfl⟩)
          | (go_at_call 39; (with_reducible refine (reads_ok HA5.out).mono ?_); rintro en w7 ⟨rfl, rfl⟩))
        go_roundg (gk - 1)
        case measure => have h1 := HI.out; have h2 := HQ.out.1; omega
        case rel =>
          have h1 := HI.out
          have h2 := HQ.out.1
          have h3 := HL.out.2.2.2
          exact ⟨i + 1, okA, okB, a, b, ra, ha, rb, hb, by first | rfl | (rw [wr_in ((i : Int) + 1) (by omega)]; rfl), ⟨by omega⟩, ⟨⟨_, _, _, _, HA5.out.more⟩, ⟨_, _, _, _, HB5.out.more⟩, HP.out.2.2.1, HP.out.2.2.2⟩, HW, ⟨by have := HN.out; omega⟩, HD5, HZ5, ⟨by have h6 := HW1.out; have h7 := HSO.out; omega⟩⟩
    · have c5b : decide ((i : Int) < (l.length : Int)) = false := decide_eq_false (by omega)
      have c5c : decide (i < l.length) = false := decide_eq_false c5
      clear c5
      obtain ⟨gm1, n1, D1, v1, ha1⟩ := HP.out.1
      obtain ⟨gm2, n2, D2, v2, hb1⟩ := HP.out.2.1
      have HA1 := Aside0.mk ha1
      have HB1 := Aside0.mk hb1
      have hq : (IntKind.u64.wrap (ra + ha) == IntKind.u64.wrap (rb + hb)) = true := by rw [HN.out.2.2.2.2.2.2.2]; exact beq_self_eq_true _
      clear ha1 hb1
      go_wp2_with (first
        | (go_at_call 35; (with_reducible refine (fixed_ok _).mono ?_); rintro en w5 ⟨rfl, hb⟩; have HA5 := Aside0.mk (HA1.out.below hb); have HB5 := Aside0.mk (HB1.out.below hb); have HZ5 := Aside0.mk (below_then HB.out HB.out.size hb); clear hb)
        | (go_at_call 39; (with_reducible refine (reads_ok HA5.out).mono ?_); rintro en w6 ⟨rfl, rfl⟩)
        | (go_at_call 40; (with_reducible refine (hits_ok HA5.out).mono ?_); rintro en w7 ⟨rfl, rfl⟩)
        | (go_at_call 39; (with_reducible refine (reads_ok HB5.out).mono ?_); rintro en w8 ⟨rfl, rfl⟩)
        | (go_at_call 40; (with_reducible refine (hits_ok HB5.out).mono ?_); rintro en w9 ⟨rfl, rfl⟩))
      go_ret
      exact ⟨rfl, HZ5.out⟩
theorem PoolSizes_ok (pages sz more : Int) (A : Option Addr) (c : Nat) (l : List Int) (w : World) (hC : Kd.C (Kd.int .u32) w A l.length l) (hy : ∀ x ∈ l, (Lit.int .u32 x).wf = true) (hs : (Lit.int .u8 sz).wf = true) (hm : (Lit.int .u8 more).wf = true) : Calls Try.prog 8 #[.int .i64 pages, .int .u8 sz, .int .u8 more, .slice A l.length c] w fun e w' => e = .returned (.bool true) ∧ Below w.heap.size w w' := by
  simp [Lit.wf, IntKind.min, IntKind.max, IntKind.signed, IntKind.bits] at hs hm
  have hy2 : ∀ x ∈ l, 0 ≤ x ∧ x < 4294967296 := fun x hx => by
    have := hy x hx
    simp [Lit.wf, IntKind.min, IntKind.max, IntKind.signed, IntKind.bits] at this
    omega
  by_cases h : pages < 1 ∨ 20 < pages ∨ 300 < l.length
  · exact PoolSizes_big pages sz more A l.length c w h
  · obtain ⟨m, rfl⟩ := Int.eq_ofNat_of_zero_le (show 0 ≤ pages by omega)
    exact PoolSizes_walk m sz more A c l w (by omega) (by omega) (by omega) (by omega) hC hy2
end Go.Proofs.Ytolgcohmmghehaa.Pool
