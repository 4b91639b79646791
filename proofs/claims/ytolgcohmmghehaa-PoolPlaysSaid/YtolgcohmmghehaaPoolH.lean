/- Reset: the map is emptied, the order is none, the counters are 0. The law PoolAgain. Conditions: stated in each theorem. -/
import Derived.Test.YtolgcohmmghehaaPoolG
namespace Go.Proofs.Ytolgcohmmghehaa.Pool
open Go.Proofs.YtolgcohmmghehaaW
open Go.RowKit Go.Proofs.YtolgcohmmghehaaW.PrintWords Go.Proofs.YtolgcohmmghehaaW.PrintLast Go.Proofs.YtolgcohmmghehaaW.PrintMore Go.Proofs.Ytolgcohmmghehaa.Byt Go.Proofs.Ytolgcohmmghehaa.Dsk
set_option linter.unusedVariables false
set_option linter.unusedSimpArgs false
set_option maxRecDepth 100000
section
variable {w w' : World} {ok : Nat → Prop} {g gd : Nat} {size : Int} {order ks : List Int} {rd ht : Int} {pgf : Int → List Int} {N gm n : Nat} {D : DataW Unit} {vo : Value}
theorem clear_run (hm : w.ownsMap Try.prog 23 Rv gm n D) (ty : TypeId) : ∃ clock, (Builtin.clear_ #[115] ty #[.map (some gm)]).run Try.prog w = .ok (.tuple #[]) { w with heap := w.heap.setIfInBounds gm (.map #[] clock) } ∧ ({ w with heap := w.heap.setIfInBounds gm (.map #[] clock) } : World).ownsMap Try.prog 23 Rv gm 0 (.map []) ∧ w.grownBy { w with heap := w.heap.setIfInBounds gm (.map #[] clock) } (some gm) := by
  obtain ⟨es, clock, hb, hF⟩ := hm
  refine ⟨clock, ?_, ?_, ?_⟩
  · simp [Builtin.clear_, run_underlying Try.underlying115, MapKept.run_getObj_map hb, MapKept.run_setObj_map _ hb, Result.andThen]
  · exact ⟨#[], clock, (MapKept.heap_set hb).1, ⟨by simp, MapKept.stamped_empty clock, by simp⟩, Nat.le_refl _, rfl⟩
  · refine ⟨rfl, rfl, rfl, by simp, fun k hk hne => ?_⟩
    exact (MapKept.heap_set hb).2 k (fun e => hne (by rw [e]))
theorem Pl.clr (h : Pl w ok g gd size order ks rd ht pgf N gm n D vo) (hm : w'.ownsMap Try.prog 23 Rv gm 0 (.map [])) (hg : w.grownBy w' (some gm)) : Pl w' ok g gd size order [] rd ht pgf N gm 0 (.map []) vo where
  og := h.og
  om := h.om
  box := blk_grown h.box hg (fun e => h.mne (by injection e with e; exact e.symm))
  row := Kd.R_grown2 h.row rfl hg (map_ne h.map h.row)
  map := hm
  has := fun p _ _ => rfl
  val := fun p hp => nomatch hp
  rng := fun p hp => nomatch hp
  nod := h.nod
  len := h.len
  len2 := h.len2
  plen := fun p hp => nomatch hp
  nb := Nat.zero_le _
end
theorem reset_ok {w : World} {ok : Nat → Prop} {g gd : Nat} {size : Int} {order ks : List Int} {rd ht : Int} {pgf : Int → List Int} {N gm n : Nat} {D : DataW Unit} {vo : Value} (h : Pl w ok g gd size order ks rd ht pgf N gm n D vo) (hs : 0 ≤ size) :
    Calls Try.prog 41 #[.pointer (some ⟨g, 0, none⟩)] w fun e w' => e = .returned (.tuple #[]) ∧ Pl w' ok g gd size [] [] 0 0 pgf N gm 0 (.map []) (.slice none 0 0) ∧ Kp w w' ok := by
  obtain ⟨ck, hcl, hm, hg⟩ := clear_run h.map 0
  have hx2 := (blk_cell h.box 2).trans rfl
  have HP := Aside0.mk h
  have HC := Aside0.mk (And.intro (h.clr hm hg) (Kp.of_grown hg (Kp.of_below (Below.refl _ _) ok) (fun k hk => .inl (by injection hk with hk; subst hk; exact h.om))))
  have HO := Aside0.mk (And.intro hs h.og)
  generalize hw1 : ({ w with heap := w.heap.setIfInBounds gm (.map #[] ck) } : World) = w1 at hcl HC
  clear hw1 hm hg h hs
  have hx3 := (blk_cell HC.out.1.box 3).trans rfl
  have hf3 := blk_frozen HC.out.1.box 3
  have HP2 := Aside0.mk (HC.out.1.setRow (order' := []) (vo' := .slice none 0 0) ⟨rfl, rfl, rfl, Nat.le_refl _, fun _ _ _ => rfl⟩ (Kd.R_nil _ _ _ _ _) List.Pairwise.nil (by have := HO.out.1; simpa using this) (Nat.zero_le _))
  have HP3 := Aside0.mk (HP2.out.setReads 0)
  go_enter Try.func41, Try.ntmps41
  go_wp2_with (first
    | (go_at_call 74; (with_reducible refine (store_ok _ _ rd ((blk_cell HP2.out.box 4).trans rfl) (blk_frozen HP2.out.box 4) ⟨_, _, rfl⟩).mono ?_); rintro en w4 ⟨rfl, rfl⟩)
    | (go_at_call 74; (with_reducible refine (store_ok _ _ ht ((blk_cell HP3.out.box 5).trans rfl) (blk_frozen HP3.out.box 5) ⟨_, _, rfl⟩).mono ?_); rintro en w5 ⟨rfl, rfl⟩))
  go_end0
  exact ⟨rfl, HP3.out.setHits 0, ((HC.out.2.setCell (p := ⟨g, 3, none⟩) (.inl HO.out.2) _).setCell (p := ⟨g, 4, none⟩) (.inl HO.out.2) _).setCell (p := ⟨g, 5, none⟩) (.inl HO.out.2) _⟩
/-- Any page: one that the disk has not is refused. -/
theorem get_any {w : World} {ok okd : Nat → Prop} {g gd : Nat} {size : Int} {order : List Int} {rd ht : Int} {pgf : Int → List Int} {N : Nat} {d : List Int} {t : List Bool} (h : Pw w ok g gd size order rd ht pgf N) (hd : Dk w okd gd d t) (hsz : 1 ≤ size) (hN : N ≤ 1000000) (p : Int) (hp : 0 ≤ p ∧ p < 4294967296) (hpg : ∀ q, pgf q = pg d q.toNat) (h4 : order.length < 4096) (hr : 0 ≤ rd ∧ rd ≤ 1000000 ∧ 0 ≤ ht ∧ ht ≤ 1000000) (hm : ∀ q ∈ order, q < t.length)
    (xs : List Int) (er : Int) (o' : List Int) (r' h' : Int) (hxs : xs = if p < t.length then pg d p.toNat else []) (her : er = if p < t.length then 0 else 8) (ho' : o' = if p < t.length then lru size order p else order) (hr' : r' = if p < t.length ∧ p ∉ order then rd + 1 else rd) (hh' : h' = if p < t.length ∧ p ∈ order then ht + 1 else ht) :
    Calls Try.prog 38 #[.pointer (some ⟨g, 0, none⟩), .int .u32 p] w fun e w' => ∃ A c, e = .returned (.tuple #[.slice A xs.length c, .int .i64 er]) ∧ Kd.R (Kd.int .u8) 5 w' w.heap.size (fun _ => True) (.slice A xs.length c) xs ∧ Pw w' (fun k => (ok k ∨ w.heap.size ≤ k) ∧ some k ≠ (Value.slice A xs.length c).ownBlock) g gd size o' r' h' pgf (N + 1) ∧ Kp w w' ok := by
  by_cases hin : p < t.length
  · rw [if_pos hin] at hxs her ho'
    refine (get_ok h hd hsz hN p hp.1 hin hpg h4 hr).mono ?_
    rintro e w' ⟨v, rfl, hR, hP, hK⟩
    rw [← hxs] at hR
    obtain ⟨A, c, rfl⟩ := Kd.R_slice hR
    refine ⟨A, c, by rw [her], hR, ?_, hK⟩
    have e1 : r' = if p ∈ order then rd else rd + 1 := by
      rw [hr']
      by_cases hm : p ∈ order
      · rw [if_neg (fun h => h.2 hm), if_pos hm]
      · rw [if_pos ⟨hin, hm⟩, if_neg hm]
    have e2 : h' = if p ∈ order then ht + 1 else ht := by
      rw [hh']
      by_cases hm : p ∈ order
      · rw [if_pos ⟨hin, hm⟩, if_pos hm]
      · rw [if_neg (fun h => hm h.2), if_neg hm]
    rw [ho', e1, e2]
    exact hP
  · rw [if_neg hin] at hxs her ho'
    rw [if_neg (fun h => hin h.1)] at hr' hh'
    subst hxs her ho' hr' hh'
    obtain ⟨gm, n, D, vo, h⟩ := h
    refine (get_out h hd p hp.1 hp.2 (by omega) (fun hq => hin (hm p hq))).mono ?_
    rintro e w' ⟨rfl, hb⟩
    exact ⟨none, 0, rfl, Kd.R_nil _ _ _ _ _, ⟨gm, n, D, vo, ((h.below hb).more).mono fun k hk => ⟨.inl hk, nofun⟩⟩, Kp.of_below hb ok⟩
theorem nx_mem {t : List Bool} {size : Int} {order : List Int} {p : Int} {o' : List Int} (ho' : o' = if p < (t.length : Int) then lru size order p else order) (hm : ∀ q ∈ order, q < t.length) : ∀ q ∈ o', q < t.length := by
  subst ho'
  intro q hq
  split at hq
  · rcases lru_mem _ _ _ _ hq with h | rfl
    · exact hm q h
    · assumption
  · exact hm q hq
theorem nx_num {t : List Bool} {order : List Int} {p rd ht r' h' : Int} {i : Nat} (hr' : r' = if p < (t.length : Int) ∧ p ∉ order then rd + 1 else rd) (hh' : h' = if p < (t.length : Int) ∧ p ∈ order then ht + 1 else ht) (h : 0 ≤ rd ∧ rd ≤ i ∧ 0 ≤ ht ∧ ht ≤ i) : 0 ≤ r' ∧ r' ≤ i + 1 ∧ 0 ≤ h' ∧ h' ≤ i + 1 := by
  split at hr' <;> split at hh' <;> omega
theorem PoolAgain_big (pages sz : Int) (A B : Option Addr) (n c m e : Nat) (w : World) (h : pages < 1 ∨ 20 < pages ∨ 200 < n ∨ 200 < m) : Calls Try.prog 9 #[.int .i64 pages, .int .u8 sz, .slice A n c, .slice B m e] w fun e w' => e = .returned (.bool true) ∧ Below w.heap.size w w' := by
  by_cases h1 : pages < 1
  · have c1 : decide (pages < 1) = true := decide_eq_true h1
    clear h h1
    go_enter Try.func9, Try.ntmps9
    go_wp2_with (go_at_call 35; (with_reducible refine (fixed_ok _).mono ?_); rintro en w1 ⟨rfl, hb⟩; have HB := Aside0.mk hb; clear hb)
    go_ret
    exact ⟨rfl, HB.out⟩
  have c1 : decide (pages < 1) = false := decide_eq_false h1
  by_cases h2 : 20 < pages
  · have c2 : decide (20 < pages) = true := decide_eq_true h2
    clear h h1 h2
    go_enter Try.func9, Try.ntmps9
    go_wp2_with (go_at_call 35; (with_reducible refine (fixed_ok _).mono ?_); rintro en w1 ⟨rfl, hb⟩; have HB := Aside0.mk hb; clear hb)
    go_ret
    exact ⟨rfl, HB.out⟩
  have c2 : decide (20 < pages) = false := decide_eq_false h2
  by_cases h3 : 200 < n
  · have c3 : decide (200 < (n : Int)) = true := decide_eq_true (by omega)
    have c3b : decide (200 < n) = true := decide_eq_true (by omega)
    clear h h1 h2 h3
    go_enter Try.func9, Try.ntmps9
    go_wp2_with (go_at_call 35; (with_reducible refine (fixed_ok _).mono ?_); rintro en w1 ⟨rfl, hb⟩; have HB := Aside0.mk hb; clear hb)
    go_ret
    exact ⟨rfl, HB.out⟩
  have c3 : decide (200 < (n : Int)) = false := decide_eq_false (by omega)
  have c3b : decide (200 < n) = false := decide_eq_false h3
  have c4 : decide (200 < (m : Int)) = true := decide_eq_true (by omega)
  have c4b : decide (200 < m) = true := decide_eq_true (by omega)
  clear h h1 h2 h3
  go_enter Try.func9, Try.ntmps9
  go_wp2_with (go_at_call 35; (with_reducible refine (fixed_ok _).mono ?_); rintro en w1 ⟨rfl, hb⟩; have HB := Aside0.mk hb; clear hb)
  go_ret
  exact ⟨rfl, HB.out⟩
set_option maxHeartbeats 16000000 in
theorem PoolAgain_walk (pages : Nat) (sz : Int) (A B : Option Addr) (c e : Nat) (l m : List Int) (w : World) (hp : 1 ≤ pages ∧ pages ≤ 20) (hs : 0 ≤ sz ∧ sz ≤ 255) (hl : l.length ≤ 200) (hm : m.length ≤ 200) (hC : Kd.C (Kd.int .u32) w A l.length l) (hy : ∀ x ∈ l, 0 ≤ x ∧ x < 4294967296) (hCm : Kd.C (Kd.int .u32) w B m.length m) (hym : ∀ x ∈ m, 0 ≤ x ∧ x < 4294967296) :
    Calls Try.prog 9 #[.int .i64 (pages : Int), .int .u8 sz, .slice A l.length c, .slice B m.length e] w fun e w' => e = .returned (.bool true) ∧ Below w.heap.size w w' := by
  have c1 : decide ((pages : Int) < 1) = false := decide_eq_false (by omega)
  have c2 : decide (20 < (pages : Int)) = false := decide_eq_false (by omega)
  have c3 : decide (200 < (l.length : Int)) = false := decide_eq_false (by omega)
  have c3b : decide (200 < l.length) = false := decide_eq_false (by omega)
  have c4 : decide (200 < (m.length : Int)) = false := decide_eq_false (by omega)
  have c4b : decide (200 < m.length) = false := decide_eq_false (by omega)
  have k1 : wrap64 sz = sz := wr_in _ (by omega)
  have k3 : wrap64 (1 + sz) = 1 + sz := wr_in _ (by omega)
  have HL := Aside0.mk (And.intro hp (And.intro hs (And.intro hl hm)))
  have HCl := Aside0.mk (And.intro hC hy)
  have HCm := Aside0.mk (And.intro hCm hym)
  clear hp hs hl hm hC hy hCm hym
  go_enter Try.func9, Try.ntmps9
  go_wp2_with (first
    | (go_at_call 36; (with_reducible refine (begin_ok _ pages HL.out.1).mono ?_); rintro en w1 ⟨gd, d, t, rfl, hd, ht, hy, hb⟩; have HD1 := Aside0.mk hd.bound; have HB1 := Aside0.mk hb; have HT := Aside0.mk ht; clear hd hb ht hy)
    | (go_at_call 37; (with_reducible refine (new_ok' _ gd (1 + sz) (by have := HL.out; omega) (fun q => pg d q.toNat)).mono ?_); rintro en w2 ⟨ga, gma, rfl, hp, hb⟩; have HPA2 := Aside0.mk hp.bound; have HD2 := Aside0.mk (HD1.out.below hb); have HB2 := Aside0.mk (below_then HB1.out HB1.out.size hb); have HS2 := Aside0.mk (And.intro HB1.out.size hb.size); clear hp hb HD1 HB1)
    | (go_at_call 37; (with_reducible refine (new_ok' _ gd (1 + sz) (by have := HL.out; omega) (fun q => pg d q.toNat)).mono ?_); rintro en w3 ⟨gb, gmb, rfl, hp, hb⟩; have HPB3 := Aside0.mk hp.bound; have HPA3 := Aside0.mk (HPA2.out.below hb); have HD3 := Aside0.mk (HD2.out.below hb); have HB3 := Aside0.mk (below_then HB2.out HB2.out.size hb); have HS3 := Aside0.mk hb.size; clear hp hb HD2 HB2 HPA2))
  clear k1 k3
  obtain ⟨s1, hs1⟩ : ∃ s1, s1 = 1 + sz := ⟨_, rfl⟩
  rw [← hs1] at HPA3 HPB3
  have HSZ := Aside0.mk (show 1 ≤ s1 ∧ s1 ≤ 256 by have := HL.out; omega)
  clear hs1
  go_loopg [76] l.length (fun kq v76 w' => ∃ (i : Nat) (okA okB : Nat → Prop) (a : List Int) (ra ha : Int), v76 = .int .i64 (i : Int) ∧ Aside0 (kq + i = l.length) ∧ Aside0 (Pw w' okA ga gd s1 a ra ha (fun q => pg d q.toNat) i ∧ Pw w' okB gb gd s1 [] 0 0 (fun q => pg d q.toNat) 0 ∧ (∀ k, okA k → w1.heap.size ≤ k ∧ ¬ okB k) ∧ (∀ k, okB k → w1.heap.size ≤ k)) ∧ Aside0 (∀ q ∈ a, q < (t.length : Int)) ∧ Aside0 (0 ≤ ra ∧ ra ≤ i ∧ 0 ≤ ha ∧ ha ≤ i) ∧ Aside0 (Dk w' (fun k => w.heap.size ≤ k ∧ k < w1.heap.size) gd d t) ∧ Aside0 (Below w.heap.size w w') ∧ Aside0 (w1.heap.size ≤ w'.heap.size))
  case atStart => exact ⟨0, _, _, [], 0, 0, rfl, ⟨by omega⟩, ⟨⟨_, _, _, _, HPA3.out⟩, ⟨_, _, _, _, HPB3.out⟩, fun k hk => ⟨hk.1, fun h => by have := hk.2; have := h.1; omega⟩, fun k hk => by have := hk.1; have := HS2.out.2; omega⟩, ⟨fun q hq => nomatch hq⟩, ⟨by simp⟩, HD3, HB3, ⟨by have h1 := HS2.out.2; have h2 := HS3.out; omega⟩⟩
  case round =>
    clear HPA3 HPB3 HD3 HB3
    obtain ⟨i, okA, okB, a, ra, ha, rfl, HI, HP, HW, HN, HD, HB, HW1⟩ := hrel
    by_cases c5 : i < l.length
    · have c5b : decide ((i : Int) < (l.length : Int)) = true := decide_eq_true (by omega)
      have c5c : decide (i < l.length) = true := decide_eq_true c5
      obtain ⟨ad, e1, hx0⟩ := Kd.at_int HCl.out.1 (i : Int) (by omega) (by omega)
      subst e1
      replace hx0 := (HB.out.cell (World.block_lt_of_cell? w _ hx0)).trans hx0
      have hpr : 0 ≤ rd l (i : Int) ∧ rd l (i : Int) < 4294967296 := HCl.out.2 _ (by
        rw [PrintWords.rd, Int.toNat_natCast, List.getD_eq_getElem?_getD, List.getElem?_eq_getElem c5]
        exact List.getElem_mem c5)
      obtain ⟨p, hp⟩ : ∃ p, p = rd l (i : Int) := ⟨_, rfl⟩
      rw [← hp] at hx0 hpr
      rw [Int.toNat_natCast] at hx0
      have p9 : (0 ≤ (i : Int)) = True := eq_true (by omega)
      have q9 : ((i : Int) < (l.length : Int)) = True := eq_true (by omega)
      have q9b : (i < l.length) = True := eq_true c5
      have HQ := Aside0.mk (And.intro c5 hpr)
      clear c5 hp hpr
      obtain ⟨xs, hxs⟩ : ∃ x, x = if p < (t.length : Int) then pg d p.toNat else [] := ⟨_, rfl⟩
      obtain ⟨er, her⟩ : ∃ x : Int, x = if p < (t.length : Int) then 0 else 8 := ⟨_, rfl⟩
      obtain ⟨a2, ha2⟩ : ∃ x, x = if p < (t.length : Int) then lru s1 a p else a := ⟨_, rfl⟩
      obtain ⟨ra2, hra2⟩ : ∃ x, x = if p < (t.length : Int) ∧ p ∉ a then ra + 1 else ra := ⟨_, rfl⟩
      obtain ⟨hi2, hhi2⟩ : ∃ x, x = if p < (t.length : Int) ∧ p ∈ a then ha + 1 else ha := ⟨_, rfl⟩
      have HEQ := Aside0.mk (And.intro hxs (And.intro her (And.intro ha2 (And.intro hra2 hhi2))))
      have HX2 := Aside0.mk (And.intro (nx_mem ha2 HW.out) (nx_num hra2 hhi2 HN.out))
      clear hxs her ha2 hra2 hhi2
      have HPA := Aside0.mk HP.out.1
      have HPB := Aside0.mk HP.out.2.1.bound
      go_wp2_with (go_at_call 38; (with_reducible refine (get_any HPA.out HD.out (by have := HSZ.out; omega) (by have h1 := HI.out; have h2 := HL.out; omega) p HQ.out.2 (fun _ => rfl) (by have h1 := HPA.out.len; have h2 := HSZ.out; omega) (by have h1 := HN.out; have h2 := HI.out; have h3 := HL.out; omega) HW.out xs er a2 ra2 hi2 HEQ.out.1 HEQ.out.2.1 HEQ.out.2.2.1 HEQ.out.2.2.2.1 HEQ.out.2.2.2.2).mono ?_); rintro en w4 ⟨A4, c4, rfl, ho, hp4, hk4⟩; have HA4 := Aside0.mk hp4.bound; have HB4 := Aside0.mk (HPB.out.kept hk4.kept (fun k hk h => (HP.out.2.2.1 k h).2 hk.1)); have HD4 := Aside0.mk (HD.out.kept hk4.kept (fun k hk h => by have := (HP.out.2.2.1 k h).1; omega)); have HZ4 := Aside0.mk (HB.out.trans (hk4.to_below w.heap.size (fun k hk => Nat.le_trans HS2.out.1 (HP.out.2.2.1 k hk).1) HB.out.size)); have HK4 := Aside0.mk hk4.size; clear ho hp4 hk4)
      go_roundg (gk - 1)
      case measure => have h1 := HI.out; have h2 := HQ.out.1; omega
      case rel =>
        have h1 := HI.out
        have h2 := HQ.out.1
        have h3 := HL.out
        exact ⟨i + 1, _, _, _, _, _, by first | rfl | (rw [wr_in ((i : Int) + 1) (by omega)]; rfl), ⟨by omega⟩, ⟨HA4.out, HB4.out, fun k hk => ⟨hk.1.1.elim (fun h => (HP.out.2.2.1 k h).1) (fun h => by have h6 := HW1.out; omega), fun h => hk.1.1.elim (fun h6 => (HP.out.2.2.1 k h6).2 h.1) (fun h6 => by have := h.2; omega)⟩, fun k hk => HP.out.2.2.2 k hk.1⟩, ⟨HX2.out.1⟩, ⟨by have := HX2.out.2; omega⟩, HD4, HZ4, ⟨by have h6 := HW1.out; have h7 := HK4.out; omega⟩⟩
    · have c5b : decide ((i : Int) < (l.length : Int)) = false := decide_eq_false (by omega)
      have c5c : decide (i < l.length) = false := decide_eq_false c5
      clear c5
      obtain ⟨gm1, n1, D1, v1, ha1⟩ := HP.out.1
      have HA1 := Aside0.mk ha1
      clear ha1
      go_wp2_with (go_at_call 41; (with_reducible refine (reset_ok HA1.out (by have := HSZ.out; omega)).mono ?_); rintro en w4 ⟨rfl, hp4, hk4⟩; have HA4 := Aside0.mk hp4; have HB4 := Aside0.mk (HP.out.2.1.kept hk4.kept (fun k hk h => (HP.out.2.2.1 k h).2 hk)); have HD4 := Aside0.mk (HD.out.kept hk4.kept (fun k hk h => by have := (HP.out.2.2.1 k h).1; omega)); have HZ4 := Aside0.mk (HB.out.trans (hk4.to_below w.heap.size (fun k hk => Nat.le_trans HS2.out.1 (HP.out.2.2.1 k hk).1) HB.out.size)); have HK4 := Aside0.mk (Nat.le_trans HW1.out hk4.size); clear hp4 hk4)
      have HDJ := Aside0.mk HP.out.2.2
      have HNN := Aside0.mk (show i ≤ l.length by have := HI.out; omega)
      clear HP HW HN HD HB HW1 HI c5b c5c HA1
      obtain ⟨N0, hN0⟩ : ∃ N0, N0 = i := ⟨_, rfl⟩
      rw [← hN0] at HA4 HNN
      clear hN0
      go_loopg [88] m.length (fun kq v88 w' => ∃ (i : Nat) (okA okB : Nat → Prop) (a : List Int) (ra ha : Int), v88 = .int .i64 (i : Int) ∧ Aside0 (kq + i = m.length) ∧ Aside0 (Pw w' okA ga gd s1 a ra ha (fun q => pg d q.toNat) (N0 + i) ∧ Pw w' okB gb gd s1 a ra ha (fun q => pg d q.toNat) i ∧ (∀ k, okA k → w1.heap.size ≤ k ∧ ¬ okB k) ∧ (∀ k, okB k → w1.heap.size ≤ k)) ∧ Aside0 (∀ q ∈ a, q < (t.length : Int)) ∧ Aside0 (0 ≤ ra ∧ ra ≤ i ∧ 0 ≤ ha ∧ ha ≤ i) ∧ Aside0 (Dk w' (fun k => w.heap.size ≤ k ∧ k < w1.heap.size) gd d t) ∧ Aside0 (Below w.heap.size w w') ∧ Aside0 (w1.heap.size ≤ w'.heap.size))
      case atStart => exact ⟨0, _, _, [], 0, 0, rfl, ⟨by omega⟩, ⟨⟨_, _, _, _, HA4.out⟩, HB4.out, HDJ.out.1, HDJ.out.2⟩, ⟨fun q hq => nomatch hq⟩, ⟨by simp⟩, HD4, HZ4, HK4⟩
      case round =>
        clear HA4 HB4 HD4 HZ4 HDJ HK4 okA okB a ra ha
        obtain ⟨i, okA, okB, a, ra, ha, rfl, HI, HP, HW, HN, HD, HB, HW1⟩ := hrel
        by_cases c5 : i < m.length
        · have c5b : decide ((i : Int) < (m.length : Int)) = true := decide_eq_true (by omega)
          have c5c : decide (i < m.length) = true := decide_eq_true c5
          obtain ⟨ad, e1, hx0⟩ := Kd.at_int HCm.out.1 (i : Int) (by omega) (by omega)
          subst e1
          replace hx0 := (HB.out.cell (World.block_lt_of_cell? w _ hx0)).trans hx0
          have hpr : 0 ≤ rd m (i : Int) ∧ rd m (i : Int) < 4294967296 := HCm.out.2 _ (by
            rw [PrintWords.rd, Int.toNat_natCast, List.getD_eq_getElem?_getD, List.getElem?_eq_getElem c5]
            exact List.getElem_mem c5)
          obtain ⟨p, hp⟩ : ∃ p, p = rd m (i : Int) := ⟨_, rfl⟩
          rw [← hp] at hx0 hpr
          rw [Int.toNat_natCast] at hx0
          have p9 : (0 ≤ (i : Int)) = True := eq_true (by omega)
          have q9 : ((i : Int) < (m.length : Int)) = True := eq_true (by omega)
          have q9b : (i < m.length) = True := eq_true c5
          have HQ := Aside0.mk (And.intro c5 hpr)
          clear c5 hp hpr
          obtain ⟨xs, hxs⟩ : ∃ x, x = if p < (t.length : Int) then pg d p.toNat else [] := ⟨_, rfl⟩
          obtain ⟨er, her⟩ : ∃ x : Int, x = if p < (t.length : Int) then 0 else 8 := ⟨_, rfl⟩
          obtain ⟨a2, ha2⟩ : ∃ x, x = if p < (t.length : Int) then lru s1 a p else a := ⟨_, rfl⟩
          obtain ⟨ra2, hra2⟩ : ∃ x, x = if p < (t.length : Int) ∧ p ∉ a then ra + 1 else ra := ⟨_, rfl⟩
          obtain ⟨hi2, hhi2⟩ : ∃ x, x = if p < (t.length : Int) ∧ p ∈ a then ha + 1 else ha := ⟨_, rfl⟩
          have HEQ := Aside0.mk (And.intro hxs (And.intro her (And.intro ha2 (And.intro hra2 hhi2))))
          have HX2 := Aside0.mk (And.intro (nx_mem ha2 HW.out) (nx_num hra2 hhi2 HN.out))
          clear hxs her ha2 hra2 hhi2
          have HPA := Aside0.mk HP.out.1
          have HPB := Aside0.mk HP.out.2.1.bound
          have hne := ba_self (strOfNums xs)
          go_wp2_with (first
            | (go_at_call 38; (with_reducible refine (get_any HPA.out HD.out (by have := HSZ.out; omega) (by have h1 := HI.out; have h2 := HL.out; have h9 := HNN.out; omega) p HQ.out.2 (fun _ => rfl) (by have h1 := HPA.out.len; have h2 := HSZ.out; omega) (by have h1 := HN.out; have h2 := HI.out; have h3 := HL.out; omega) HW.out xs er a2 ra2 hi2 HEQ.out.1 HEQ.out.2.1 HEQ.out.2.2.1 HEQ.out.2.2.2.1 HEQ.out.2.2.2.2).mono ?_); rintro en w4 ⟨A4, c4, rfl, ho, hp4, hk4⟩; have HX4 := Aside0.mk ho; have HA4 := Aside0.mk hp4.bound; have HK4 := Aside0.mk hk4; have HB4 := Aside0.mk (HPB.out.kept hk4.kept (fun k hk h => (HP.out.2.2.1 k h).2 hk.1)); have HD4 := Aside0.mk (HD.out.kept hk4.kept (fun k hk h => by have := (HP.out.2.2.1 k h).1; omega)); have HZ4 := Aside0.mk (HB.out.trans (hk4.to_below w.heap.size (fun k hk => Nat.le_trans HS2.out.1 (HP.out.2.2.1 k hk).1) HB.out.size)); clear ho hp4 hk4)
            | (go_at_call 38; (with_reducible refine (get_any HB4.out HD4.out (by have := HSZ.out; omega) (by have h1 := HI.out; have h2 := HL.out; omega) p HQ.out.2 (fun _ => rfl) (by have h1 := HPB.out.len; have h2 := HSZ.out; omega) (by have h1 := HN.out; have h2 := HI.out; have h3 := HL.out; omega) HW.out xs er a2 ra2 hi2 HEQ.out.1 HEQ.out.2.1 HEQ.out.2.2.1 HEQ.out.2.2.2.1 HEQ.out.2.2.2.2).mono ?_); rintro en w5 ⟨A5, c5, rfl, ho, hp5, hk5⟩; have hx5 := Kd.R_kept (Kd.R_bound HX4.out) hk5.kept (fun k hk h => by have h1 := hk.2.1; have h2 := h.2; omega); have hcvx := own_string (P := Try.prog) Try.underlying26 Try.underlying5 Try.underlying9 (Kd.own_of_R hx5); have hcvy := own_string (P := Try.prog) Try.underlying26 Try.underlying5 Try.underlying9 (Kd.own_of_R ho); have HA5 := Aside0.mk (HA4.out.kept hk5.kept (fun k hk h => hk.1.1.elim (fun h1 => (HP.out.2.2.1 k h1).2 h.1) (fun h1 => by have := h.2; omega))); have HB5 := Aside0.mk hp5; have HD5 := Aside0.mk (HD4.out.kept hk5.kept (fun k hk h => by have := HP.out.2.2.2 k h.1; omega)); have HZ5 := Aside0.mk (HZ4.out.trans (hk5.to_below w.heap.size (fun k hk => Nat.le_trans HS2.out.1 (HP.out.2.2.2 k hk.1)) HZ4.out.size)); have HSZ4 := Aside0.mk HK4.out.size; have HK5S := Aside0.mk hk5.size; clear ho hp5 hk5 hx5))
          go_roundg (gk - 1)
          case measure => have h1 := HI.out; have h2 := HQ.out.1; omega
          case rel =>
            have h1 := HI.out
            have h2 := HQ.out.1
            have h3 := HL.out
            exact ⟨i + 1, _, _, _, _, _, by first | rfl | (rw [wr_in ((i : Int) + 1) (by omega)]; rfl), ⟨by omega⟩, ⟨HA5.out, HB5.out, fun k hk => ⟨hk.1.1.elim (fun h => (HP.out.2.2.1 k h).1) (fun h => by have h6 := HW1.out; omega), fun h => h.1.elim (fun h5 => hk.1.1.elim (fun h6 => (HP.out.2.2.1 k h6).2 h5.1) (fun h6 => by have := h5.2; omega)) (fun h5 => by have := hk.2; omega)⟩, fun k hk => hk.1.elim (fun h => HP.out.2.2.2 k h.1) (fun h => by have h6 := HW1.out; have h7 := HSZ4.out; omega)⟩, ⟨HX2.out.1⟩, ⟨by have := HX2.out.2; omega⟩, HD5, HZ5, ⟨by have h6 := HW1.out; have h7 := HSZ4.out; have h8 := HK5S.out; omega⟩⟩
        · have c5b : decide ((i : Int) < (m.length : Int)) = false := decide_eq_false (by omega)
          have c5c : decide (i < m.length) = false := decide_eq_false c5
          clear c5
          obtain ⟨gm1, n1, D1, v1, ha1⟩ := HP.out.1
          obtain ⟨gm2, n2, D2, v2, hb1⟩ := HP.out.2.1
          have HA1 := Aside0.mk ha1
          have HB1 := Aside0.mk hb1
          clear ha1 hb1
          go_wp2_with (first
            | (go_at_call 42; (with_reducible refine (kept_ok HA1.out).mono ?_); rintro en w4 ⟨v4, rfl, ho, hb⟩; obtain ⟨A4, c4, rfl⟩ := Kd.R_slice ho; have HX4 := Aside0.mk (Kd.R_bound ho); have HA4 := Aside0.mk (HA1.out.below hb); have HB4 := Aside0.mk (HB1.out.below hb); have HZ4 := Aside0.mk (below_then HB.out HB.out.size hb); clear ho hb HA1 HB1)
            | (go_at_call 42; (with_reducible refine (kept_ok HB4.out).mono ?_); rintro en w5 ⟨v5, rfl, ho, hb⟩; obtain ⟨A5, c5, rfl⟩ := Kd.R_slice ho; have HX5 := Aside0.mk (Kd.R_below HX4.out hb); have HY5 := Aside0.mk ho; have HA5 := Aside0.mk (HA4.out.below hb); have HB5 := Aside0.mk (HB4.out.below hb); have HZ5 := Aside0.mk (below_then HZ4.out HZ4.out.size hb); clear ho hb)
            | (go_at_call 39; (with_reducible refine (reads_ok HA5.out).mono ?_); rintro en w6 ⟨rfl, rfl⟩)
            | (go_at_call 39; (with_reducible refine (reads_ok HB5.out).mono ?_); rintro en w7 ⟨rfl, rfl⟩)
            | (go_at_call 40; (with_reducible refine (hits_ok HA5.out).mono ?_); rintro en w8 ⟨rfl, rfl⟩)
            | (go_at_call 40; (with_reducible refine (hits_ok HB5.out).mono ?_); rintro en w9 ⟨rfl, rfl⟩))
          go_loopg [140] a.length (fun kq v140 w' => ∃ (j : Nat), v140 = .int .i64 (j : Int) ∧ Aside0 (kq + j = a.length) ∧ Aside0 (Kd.C (Kd.int .u32) w' A4 a.length a) ∧ Aside0 (Kd.C (Kd.int .u32) w' A5 a.length a) ∧ Aside0 (Below w.heap.size w w'))
          case atStart => exact ⟨0, rfl, ⟨by omega⟩, ⟨(Kd.R_reads' HX5.out).2.2⟩, ⟨(Kd.R_reads' HY5.out).2.2⟩, HZ5⟩
          case round =>
            have HLA := Aside0.mk HA5.out.len2
            clear HA5 HB5 HX4 HX5 HY5 HZ5 HP HB HW HD HN HW1 HZ4 HA4 HB4
            obtain ⟨j, rfl, HI, HCX, HCY, HZ⟩ := hrel
            by_cases c7 : j < a.length
            · have c7b : decide ((j : Int) < (a.length : Int)) = true := decide_eq_true (by omega)
              have c7c : decide (j < a.length) = true := decide_eq_true c7
              obtain ⟨ad, e1, hx0⟩ := Kd.at_int HCX.out (j : Int) (by omega) (by omega)
              obtain ⟨ad2, e2, hy0⟩ := Kd.at_int HCY.out (j : Int) (by omega) (by omega)
              subst e1 e2
              rw [Int.toNat_natCast] at hx0 hy0
              have p9 : (0 ≤ (j : Int)) = True := eq_true (by omega)
              have q9 : ((j : Int) < (a.length : Int)) = True := eq_true (by omega)
              have q9b : (j < a.length) = True := eq_true c7
              have HJ := Aside0.mk c7
              clear c7
              go_wp2
              go_quiet (fail)
              go_wp2
              go_roundg (gk - 1)
              case measure => have h1 := HI.out; have h2 := HJ.out; omega
              case rel =>
                have h1 := HI.out
                have h2 := HJ.out
                have h3 := HLA.out
                exact ⟨j + 1, by first | rfl | (rw [wr_in ((j : Int) + 1) (by omega)]; rfl), ⟨by omega⟩, ⟨HCX.out⟩, ⟨HCY.out⟩, ⟨pw_below_drewN HZ.out _⟩⟩
            · have c7b : decide ((j : Int) < (a.length : Int)) = false := decide_eq_false (by omega)
              have c7c : decide (j < a.length) = false := decide_eq_false c7
              clear c7
              go_wp2_with (go_at_call 35; (with_reducible refine (fixed_ok _).mono ?_); rintro en w9 ⟨rfl, hb⟩; have HB9 := Aside0.mk (below_then HZ.out HZ.out.size hb); clear hb)
              go_ret
              exact ⟨rfl, HB9.out⟩
theorem PoolAgain_ok (pages sz : Int) (A B : Option Addr) (c e : Nat) (l m : List Int) (w : World) (hC : Kd.C (Kd.int .u32) w A l.length l) (hy : ∀ x ∈ l, (Lit.int .u32 x).wf = true) (hCm : Kd.C (Kd.int .u32) w B m.length m) (hym : ∀ x ∈ m, (Lit.int .u32 x).wf = true) (hs : (Lit.int .u8 sz).wf = true) : Calls Try.prog 9 #[.int .i64 pages, .int .u8 sz, .slice A l.length c, .slice B m.length e] w fun e w' => e = .returned (.bool true) ∧ Below w.heap.size w w' := by
  simp [Lit.wf, IntKind.min, IntKind.max, IntKind.signed, IntKind.bits] at hs
  have hw : ∀ l : List Int, (∀ x ∈ l, (Lit.int .u32 x).wf = true) → ∀ x ∈ l, 0 ≤ x ∧ x < 4294967296 := fun l hy x hx => by
    have := hy x hx
    simp [Lit.wf, IntKind.min, IntKind.max, IntKind.signed, IntKind.bits] at this
    omega
  by_cases h : pages < 1 ∨ 20 < pages ∨ 200 < l.length ∨ 200 < m.length
  · exact PoolAgain_big pages sz A B l.length c m.length e w h
  · obtain ⟨k, rfl⟩ := Int.eq_ofNat_of_zero_le (show 0 ≤ pages by omega)
    exact PoolAgain_walk k sz A B c e l m w (by omega) (by omega) (by omega) (by omega) hC (hw l hy) hCm (hw m hym)
end Go.Proofs.Ytolgcohmmghehaa.Pool
