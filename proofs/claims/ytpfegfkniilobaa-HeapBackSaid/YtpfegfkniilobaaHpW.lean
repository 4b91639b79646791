/- heap.Walk with Scan's closure, walked. Conditions: the pool's blocks are known (Px). -/
import Derived.Test.YtpfegfkniilobaaHpQm
namespace Go.Proofs.Ytpfegfkniilobaa.Hp
open Go.RowKit Go.Proofs.YtpfegfkniilobaaW.PrintWords Go.Proofs.YtpfegfkniilobaaW.PrintLast Go.Proofs.YtpfegfkniilobaaW.PrintMore Go.Proofs.Ytpfegfkniilobaa.Byt Go.Proofs.Ytpfegfkniilobaa.Dsk Go.Proofs.Ytpfegfkniilobaa.XHeap
open Go.Proofs.Ytpfegfkniilobaa.PureSl (room Ok txt)
set_option linter.unusedVariables false
set_option linter.unusedSimpArgs false
set_option maxRecDepth 100000
/-- A pool, a disk and a gathered row, side by side. -/
structure Wk (w W : World) (okP D okI : Nat → Prop) (g gd go K : Nat) (d : List Int) (t : List Bool) (v : Value) (its : List S66) : Prop where
  px : Px W okP g gd d t K
  dk : Dk W D gd d t
  box : W.heap[go]? = some (.cells #[v] 59 (0, 0))
  row : Kd.R k66 66 W w.heap.size okI v its
  apP : ∀ k, okP k → ¬ okI k ∧ ¬ D k ∧ k ≠ go ∧ k < W.heap.size
  apI : ∀ k, okI k → ¬ D k ∧ k ≠ go ∧ k < W.heap.size ∧ w.heap.size ≤ k
  apD : ∀ k, D k → k < w.heap.size ∧ k ≠ go
  big : w.heap.size ≤ W.heap.size
  kp : Pool.Kp w W (fun k => ¬ D k)
section
variable {w W W2 : World} {okP D okI okQ : Nat → Prop} {g gd go K K' : Nat} {d : List Int} {t : List Bool} {v : Value} {its : List S66}
theorem Wk.below (h : Wk w W okP D okI g gd go K d t v its) (hb : Below W.heap.size W W2) : Wk w W2 okP D okI g gd go K d t v its :=
  ⟨h.px.below hb, h.dk.below hb, blk_below h.box hb, Kd.R_below h.row hb, fun k hk => ⟨(h.apP k hk).1, (h.apP k hk).2.1, (h.apP k hk).2.2.1, Nat.lt_of_lt_of_le (h.apP k hk).2.2.2 hb.size⟩, fun k hk => ⟨(h.apI k hk).1, (h.apI k hk).2.1, Nat.lt_of_lt_of_le (h.apI k hk).2.2.1 hb.size, (h.apI k hk).2.2.2⟩, h.apD, Nat.le_trans h.big hb.size, h.kp.below hb⟩
/-- The pool was asked. -/
theorem Wk.next (h : Wk w W okP D okI g gd go K d t v its) (hp : Px W2 okQ g gd d t K') (hq : ∀ k, okQ k → okP k ∨ W.heap.size ≤ k) (hk : Pool.Kp W W2 okP) : Wk w W2 (fun k => okQ k ∧ k < W2.heap.size) D okI g gd go K' d t v its := by
  have hgo := blk_lt h.box
  refine ⟨hp.bound, h.dk.kept hk.kept (fun k hd hs => (h.apP k hs).2.1 hd), blk_kept h.box hk.kept (fun hs => (h.apP _ hs).2.2.1 rfl), Kd.R_kept h.row hk.kept (fun k hi hs => (h.apP k hs).1 hi), fun k hk2 => ?_, fun k hi => ⟨(h.apI k hi).1, (h.apI k hi).2.1, Nat.lt_of_lt_of_le (h.apI k hi).2.2.1 hk.size, (h.apI k hi).2.2.2⟩, h.apD, Nat.le_trans h.big hk.size, kp_then h.kp hk (fun i hi => .inl (h.apP i hi).2.1)⟩
  rcases hq k hk2.1 with h1 | h1
  · have h2 := h.apP k h1
    exact ⟨h2.1, h2.2.1, h2.2.2.1, hk2.2⟩
  · exact ⟨fun hi => by have := (h.apI k hi).2.2.1; omega, fun hd => by have := (h.apD k hd).1; have := h.big; omega, by omega, hk2.2⟩
end
theorem neq_ptr (W : World) (a : Addr) : (binOp .neq 56 (.pointer (some a)) (.pointer none)).run Try.prog W = .ok (.bool true) W := by go_simp
theorem items_take (p : Int) : ∀ (rs : List (List Int)) (i j : Nat) (h : j < rs.length), itemsOf p (rs.take (j + 1)) i = itemsOf p (rs.take j) i ++ [⟨⟨p, ((i + j : Nat) : Int) % 65536⟩, Slb.rd_L rs (j : Int)⟩]
  | [], i, j, h => by simp at h
  | r :: rs, i, 0, h => by simp [itemsOf, Slb.rd_L]
  | r :: rs, i, j + 1, h => by
    have ih := items_take p rs (i + 1) j (by simpa using h)
    rw [List.take_succ_cons, itemsOf, ih, List.take_succ_cons, itemsOf, List.cons_append]
    congr 3
    congr 1
    · congr 2
      omega
/-- While a page's records are gathered: W5 is the world in which they came, f tells their blocks apart. -/
structure In (w W5 W : World) (okP D okI : Nat → Prop) (f : Nat → Nat) (gx : Nat) (cx : Array Value) (base g5 j g gd go K : Nat) (d : List Int) (t : List Bool) (v : Value) (its : List S66) : Prop where
  wk : Wk w W okP D okI g gd go K d t v its
  big : W5.heap.size ≤ W.heap.size
  same : ∀ k, k < W5.heap.size → base ≤ k → ¬ (k ≠ g5 ∧ f k < j) → W.heap[k]? = W5.heap[k]?
  hx : W.heap[gx]? = some (.cells cx 130 (0, 0))
  from_ : ∀ k, okI k → k < base ∨ (k ≠ g5 ∧ f k < j ∧ k < W5.heap.size) ∨ W5.heap.size ≤ k
theorem In.call {w W5 W : World} {okP D okI : Nat → Prop} {f : Nat → Nat} {gx : Nat} {cx : Array Value} {base g5 j g gd go K n c : Nat} {d : List Int} {t : List Bool} {A A1 : Option Addr} {c1 : Nat} {its : List S66} {rs : List (List Int)} {p sl : Int} (h : In w W5 W okP D okI f gx cx base g5 j g gd go K d t (.slice A n c) its) (hE : Slb.El W5 base g5 f rs j A1 c1) (hgo : go < base) (hbase : w.heap.size ≤ base ∧ base ≤ W5.heap.size) (hP : ∀ k, okP k → k < base) (hl : its.length ≤ 1000000) :
    Calls Try.prog 51 #[.agg #[.int .u32 p, .int .u16 sl], .slice A1 (Slb.rd_L rs (j : Int)).length c1, .pointer (some ⟨go, 0, none⟩)] W fun e w' => ∃ okI' A' n' c', e = .returned (.bool true) ∧ In w W5 w' okP D okI' f gx cx base g5 (j + 1) g gd go K d t (.slice A' n' c') (its ++ [⟨⟨p, sl⟩, Slb.rd_L rs (j : Int)⟩]) := by
  have hrec0 := Kd.R_step hE.2 (fun k hk _ => h.same k hk.2.2 hk.2.1 (fun h2 => by have := hk.1.2; omega))
  have hrec := Kd.R_lower (Kd.R_bound hrec0) hbase.1
  have hrow := h.wk.row
  have hbig := h.big
  have hwb := h.wk.big
  have hgol := blk_lt h.wk.box
  refine (clos_ok (ok := fun k => okI k ∨ ((k ≠ g5 ∧ f k = j) ∧ base ≤ k ∧ k < W5.heap.size) ∨ W.heap.size ≤ k) h.wk.box (Kd.R_mono hrow (fun k hk => .inl hk)) ⟨⟨p, sl⟩, Slb.rd_L rs (j : Int)⟩ hrec (fun k hk => ⟨.inr (.inl hk.1), ?_⟩) (fun k hk => .inr (.inr hk)) hwb hl).mono ?_
  · obtain ⟨q, hq, cells, hc⟩ := hk.2.2.2
    have hq5 : q = 5 := List.mem_singleton.1 (show q ∈ [5] from hq)
    subst hq5
    exact Kd.R_ne hrow hc (by decide)
  · rintro e w' ⟨A', n', c', rfl, hbx, hr, hk, hown⟩
    have howns : ∀ k, some k = (Value.slice A n c).ownBlock → okI k := fun k hk => hrow.1 k hk.symm
    have hs := hk.size
    refine ⟨fun k => (okI k ∨ ((k ≠ g5 ∧ f k = j) ∧ base ≤ k ∧ k < W5.heap.size) ∨ W.heap.size ≤ k) ∧ k < w'.heap.size, A', n', c', rfl, ⟨⟨?_, ?_, hbx, Kd.R_mono (Kd.R_bound hr) (fun k hk => ⟨hk.1, hk.2.2.1⟩), ?_, ?_, h.wk.apD, Nat.le_trans hwb hs, kp_then h.wk.kp hk (fun i hi => .inl (hi.elim (fun e hd => (h.wk.apD i hd).2 e) (fun e => (h.wk.apI i (howns i e)).1)))⟩, Nat.le_trans hbig hs, ?_, (hk.same gx (blk_lt h.hx) (fun h2 => h2.elim (fun e => blk_ne h.hx h.wk.box (by decide) e) (fun e => Kd.R_ne hrow h.hx (by decide) e))).trans h.hx, ?_⟩⟩
    · exact h.wk.px.step (fun k hk2 hlt => hk.same k hlt (fun h2 => h2.elim (fun e => (h.wk.apP k hk2).2.2.1 e) (fun e => (h.wk.apP k hk2).1 (howns k e))))
    · exact h.wk.dk.step (fun k hk2 hlt => hk.same k hlt (fun h2 => h2.elim (fun e => (h.wk.apD k hk2).2 e) (fun e => (h.wk.apI k (howns k e)).1 hk2)))
    · intro k hk2
      have h3 := h.wk.apP k hk2
      have h4 := hP k hk2
      refine ⟨fun hi => ?_, h3.2.1, h3.2.2.1, by omega⟩
      rcases hi.1 with h5 | h5 | h5
      · exact h3.1 h5
      · omega
      · omega
    · intro k hi
      rcases hi.1 with h5 | h5 | h5
      · have h6 := h.wk.apI k h5
        exact ⟨h6.1, h6.2.1, hi.2, h6.2.2.2⟩
      · exact ⟨fun hd => by have := (h.wk.apD k hd).1; omega, by omega, hi.2, by omega⟩
      · exact ⟨fun hd => by have := (h.wk.apD k hd).1; omega, by omega, hi.2, by omega⟩
    · intro k h1 h2 h3
      refine (hk.same k (by omega) (fun h4 => ?_)).trans (h.same k h1 h2 (fun h5 => h3 ⟨h5.1, by omega⟩))
      rcases h4 with h4 | h4
      · omega
      · rcases h.from_ k (howns k h4) with h5 | h5 | h5
        · omega
        · exact h3 ⟨h5.1, by omega⟩
        · omega
    · intro k hi
      rcases hi.1 with h5 | h5 | h5
      · rcases h.from_ k h5 with h6 | h6 | h6
        · exact .inl h6
        · exact .inr (.inl ⟨h6.1, by omega, h6.2.2⟩)
        · exact .inr (.inr h6)
      · exact .inr (.inl ⟨h5.1.1, by omega, h5.2.2⟩)
      · exact .inr (.inr (by omega))
set_option maxHeartbeats 8000000 in
theorem walk_ok {w : World} {okP D okI : Nat → Prop} {g gd go K : Nat} {d : List Int} {t : List Bool} {v : Value} {p : Int} {k e : Int} {o : List S66} (h : Wk w w okP D okI g gd go K d t v []) (hy : By d) (hp : 0 ≤ p ∧ p < 4294967296) (hw : Way d t t.length p 1 [] k e o) (hK : K + t.length ≤ 800000) :
    Calls Try.prog 50 #[.pointer (some ⟨g, 0, none⟩), .int .u32 p, .func (.func 51) #[] #[.pointer (some ⟨go, 0, none⟩)]] w fun en w' => ∃ okP' okI' v' K', en = .returned (.tuple #[.int .i64 k, .int .i64 e]) ∧ Wk w w' okP' D okI' g gd go K' d t v' o ∧ K' ≤ K + t.length := by
  have HW := Aside0.mk h
  have HY := Aside0.mk hy
  have HP := Aside0.mk hp
  have HV := Aside0.mk hw
  have HK := Aside0.mk hK
  have HT4 := Aside0.mk h.dk.2.2.2.1
  have nq := neq_ptr
  clear h hy hp hw hK
  go_enter Try.func50, Try.ntmps50
  go_wp2
  go_loopg [8, 9] t.length (fun kq v8 v9 w' => ∃ (p : Int) (n : Nat) (its : List S66) (okP okI : Nat → Prop) (v : Value), v8 = .int .u32 p ∧ v9 = .int .i64 (n : Int) ∧ Aside0 (kq + n = t.length + 1 ∧ 1 ≤ n) ∧ Aside0 (Way d t kq p n its k e o) ∧ Aside0 (0 ≤ p ∧ p < 4294967296) ∧ Aside0 (Wk w w' okP D okI g gd go (K + n - 1) d t v its) ∧ Aside0 (its.length ≤ 200 * n))
  case atStart => exact ⟨p, 1, [], okP, okI, v, rfl, rfl, ⟨by omega⟩, HV, HP, HW, ⟨by simp⟩⟩
  case round =>
    clear HW HV HP
    obtain ⟨p, n, its, okP, okI, v, rfl, rfl, HN, HV, HP, HW, HIL⟩ := hrel
    rcases Nat.eq_zero_or_pos gk with hz | hz
    · have hv := HV.out
      rw [hz] at hv
      have c1 : decide ((t.length : Int) < (n : Int)) = true := decide_eq_true (by have := HN.out; omega)
      have c2 : decide (t.length < n) = true := decide_eq_true (by have := HN.out; omega)
      cases hv
      clear hz HV
      go_wp2_with (go_at_call 89; (with_reducible refine (pages_px HW.out.px HW.out.dk).mono ?_); rintro en w1 ⟨rfl, rfl⟩)
      go_ret2
      exact ⟨okP, okI, v, _, rfl, HW.out, by have := HN.out; omega⟩
    · have c1 : decide ((t.length : Int) < (n : Int)) = false := decide_eq_false (by have := HN.out; omega)
      have c2 : decide (t.length < n) = false := decide_eq_false (by have := HN.out; omega)
      obtain ⟨m, hm⟩ : ∃ m, gk = m + 1 := ⟨gk - 1, by omega⟩
      have hv := HV.out
      rw [hm] at hv
      have HM := Aside0.mk hm
      have hh := head_px (w := wr) HW.out.px HW.out.dk (by have := HN.out; have := HK.out; omega) p 1 HP.out HY.out
      clear hz HV hm
      cases hv with
      | err hc he =>
        cases hc with
        | good nx rs hin hok hb => exact absurd rfl he
        | out ho =>
          rw [head_out_cls ho] at hh
          have HH := Aside0.mk hh
          clear hh he ho
          go_wp2_with (first
            | (go_at_call 89; (with_reducible refine (pages_px HW.out.px HW.out.dk).mono ?_); rintro en w1 ⟨rfl, rfl⟩)
            | (go_at_call 53; (with_reducible refine HH.out.mono ?_); rintro en w4 ⟨A4, c4, rfl, ho, hp4, hk4⟩; have HW4 := Aside0.mk ((HW.out.next hp4 (fun k hk => hk.1) hk4).below (below_alloc (Below.refl _ _) (.cells #[.int .u8 0, .int .u16 0, .int .u32 0] 130))); clear ho hp4 hk4))
          go_ret2
          exact ⟨_, okI, v, _, rfl, HW4.out, by have := HN.out; have := HM.out; omega⟩
        | bad hin h1 h2 =>
          rcases head_bad_cls hin with hb | ⟨cc, nx, hb⟩
          · rw [hb] at hh
            have HH := Aside0.mk hh
            clear hh he hin h1 h2 hb
            go_wp2_with (first
              | (go_at_call 89; (with_reducible refine (pages_px HW.out.px HW.out.dk).mono ?_); rintro en w1 ⟨rfl, rfl⟩)
              | (go_at_call 53; (with_reducible refine HH.out.mono ?_); rintro en w4 ⟨A4, c4, rfl, ho, hp4, hk4⟩; have HW4 := Aside0.mk ((HW.out.next hp4 (fun k hk => hk.1) hk4).below (below_alloc (Below.refl _ _) (.cells #[.int .u8 0, .int .u16 0, .int .u32 0] 130))); clear ho hp4 hk4))
            go_ret2
            exact ⟨_, okI, v, _, rfl, HW4.out, by have := HN.out; have := HM.out; omega⟩
          · rw [hb] at hh
            obtain ⟨xs, hxs⟩ : ∃ xs, pg d p.toNat = xs := ⟨_, rfl⟩
            rw [hxs] at hh h1
            have HH := Aside0.mk hh
            have HA := Aside0.mk (PureSl.all_not h1 0)
            clear hh he hin h1 h2 hb hxs
            go_wp2_with (first
              | (go_at_call 89; (with_reducible refine (pages_px HW.out.px HW.out.dk).mono ?_); rintro en w1 ⟨rfl, rfl⟩)
              | (go_at_call 53; (with_reducible refine HH.out.mono ?_); rintro en w4 ⟨A4, c4, rfl, ho, hp4, hk4⟩; have HW4 := Aside0.mk ((HW.out.next hp4 (fun k hk => hk.1) hk4).below (below_alloc (Below.refl _ _) (.cells #[.int .u8 1, .int .u16 cc, .int .u32 nx] 130))); have HO4 := Aside0.mk (Kd.R_alloc ho (.cells #[.int .u8 1, .int .u16 cc, .int .u32 nx] 130)); clear ho hp4 hk4)
              | (go_at_call 90; (with_reducible refine (slots_All.calls 1000 A4 c4 xs [] 2 _ (Kd.R_reads' HO4.out).2.2 (Kd.R_reads' HO4.out).2.1 HA.out).mono ?_); rintro en w5 ⟨v5, rfl, ho, hb⟩; (obtain ⟨A5, c5, e5⟩ := Kd.R_slice (Kd.S_R ho)); subst e5; have HW5 := Aside0.mk (HW4.out.below hb); clear ho hb))
            go_ret2
            exact ⟨_, okI, v, _, rfl, HW5.out, by have := HN.out; have := HM.out; omega⟩
      | @last _ _ _ _ rs hc =>
        cases hc with
        | good _ _ hin hok hb =>
          rw [head_good_cls hin hok hb HY.out] at hh
          have hA := hok.all 0
          obtain ⟨xs, hxs⟩ : ∃ xs, hp 0 rs = xs := ⟨_, rfl⟩
          rw [show PureSl.pg 0 rs = xs from hxs] at hA
          rw [hxs] at hh
          have HH := Aside0.mk hh
          have HA := Aside0.mk hA
          have HC := Aside0.mk (And.intro hok.count hok.nx_)
          clear hh hA hin hok hb hxs
          go_upto_region 12 with (first
            | (go_at_call 89; (with_reducible refine (pages_px HW.out.px HW.out.dk).mono ?_); rintro en w1 ⟨rfl, rfl⟩)
            | (go_at_call 53; (with_reducible refine HH.out.mono ?_); rintro en w4 ⟨A4, c4, rfl, ho, hp4, hk4⟩; (obtain ⟨okQ, hq⟩ : ∃ okQ, Wk w (w4.alloc (.cells #[.int .u8 1, .int .u16 (rs.length : Int), .int .u32 0] 130)) okQ D okI g gd go (K + n - 1 + 1) d t v its := ⟨_, (HW.out.next hp4 (fun k hk => hk.1) hk4).below (below_alloc (Below.refl _ _) (.cells #[.int .u8 1, .int .u16 (rs.length : Int), .int .u32 0] 130))⟩); have HW4 := Aside0.mk hq; have HX4 := Aside0.mk (blk_new w4 (.cells #[.int .u8 1, .int .u16 (rs.length : Int), .int .u32 0] 130)); have HO4 := Aside0.mk (Kd.R_alloc ho (.cells #[.int .u8 1, .int .u16 (rs.length : Int), .int .u32 0] 130)); clear ho hp4 hk4 hq)
            | (go_at_call 90; (with_reducible refine (slots_All.calls 200 A4 c4 xs rs 0 _ (Kd.R_reads' HO4.out).2.2 (Kd.R_reads' HO4.out).2.1 HA.out).mono ?_); rintro en w5 ⟨v5, rfl, ho, hb⟩; (obtain ⟨A5, c5, e5⟩ := Kd.R_slice (Kd.S_R ho)); subst e5; have HS5 := Aside0.mk ho; have HW5 := Aside0.mk (HW4.out.below hb); have HX5 := Aside0.mk (blk_below HX4.out hb); have HB5 := Aside0.mk hb.size; clear ho hb))
          obtain ⟨base, hbs⟩ : ∃ base, base = (w4.alloc (.cells #[.int .u8 1, .int .u16 (rs.length : Int), .int .u32 0] 130)).heap.size := ⟨_, rfl⟩
          obtain ⟨gx, hgx⟩ : ∃ gx, w4.heap.size = gx := ⟨_, rfl⟩
          rw [← hbs] at HS5 HB5
          rw [hgx] at HX5
          have HBS := Aside0.mk (show go < base ∧ w.heap.size ≤ base ∧ base ≤ w5.heap.size ∧ (∀ k, okQ k → k < base) ∧ ∀ k, okI k → k < base from ⟨by rw [hbs]; exact blk_lt HW4.out.box, by rw [hbs]; exact HW4.out.big, HB5.out, fun k hk => by rw [hbs]; exact (HW4.out.apP k hk).2.2.2, fun k hk => by rw [hbs]; exact (HW4.out.apI k hk).2.2.1⟩)
          have hS : ∃ (f : Nat → Nat) (g5 : Nat), 0 < rs.length → (A5 = some ⟨g5, 0, none⟩ ∧ base ≤ g5 ∧ g5 < w5.heap.size ∧ ∀ i : Nat, i < rs.length → ∃ A c, Slb.El w5 base g5 f rs i A c) := by
            by_cases hp : 0 < rs.length
            · obtain ⟨f, g5, cap, hv, h1, h2, h3⟩ := Slb.S_el HS5.out hp
              exact ⟨f, g5, fun _ => ⟨by injection hv, h1, h2, h3⟩⟩
            · exact ⟨fun _ => 0, 0, fun h => absurd h hp⟩
          obtain ⟨f, g5, hS⟩ := hS
          have HSS := Aside0.mk hS
          obtain ⟨Av, cv, ev⟩ := Kd.R_slice HW5.out.row
          generalize List.length _ = nv_ at ev
          subst ev
          have HI0 := Aside0.mk (show In w w5 w5 okQ D okI f gx #[.int .u8 1, .int .u16 (rs.length : Int), .int .u32 0] base g5 0 g gd go (K + n - 1 + 1) d t (.slice Av nv_ cv) (its ++ itemsOf p (rs.take 0) 0) from ⟨by simpa [itemsOf] using HW5.out, Nat.le_refl _, fun _ _ _ _ => rfl, HX5.out, fun k hk => .inl (HBS.out.2.2.2.2 k hk)⟩)
          try simp only [hgx]
          obtain ⟨gko, rfl⟩ : ∃ x, x = gk := ⟨_, rfl⟩
          clear HW HW4 HW5 HX4 HX5 HO4 HS5 HH HA hS hbs hgx
          go_wp2
          go_loopg [47] rs.length (fun kq v47 w' => ∃ (j : Nat) (okI' : Nat → Prop) (A' : Option Addr) (n' c' : Nat), v47 = .int .i64 (j : Int) ∧ Aside0 (kq + j = rs.length) ∧ Aside0 (In w w5 w' okQ D okI' f gx #[.int .u8 1, .int .u16 (rs.length : Int), .int .u32 0] base g5 j g gd go (K + n - 1 + 1) d t (.slice A' n' c') (its ++ itemsOf p (rs.take j) 0)))
          case atStart => exact ⟨0, okI, Av, nv_, cv, rfl, ⟨by omega⟩, HI0⟩
          case round =>
            clear HI0
            obtain ⟨j, okJ, A', n', c', rfl, HJ, HIn⟩ := hrel
            by_cases cj : j < rs.length
            · obtain ⟨hA5, hb1, hb2, hEl⟩ := HSS.out (by omega)
              subst hA5
              obtain ⟨A1, c1, hE⟩ := hEl j cj
              have hx0 := (World.cell?_of_block (w := w5) (a := ⟨g5, j, none⟩) (HIn.out.same g5 hb2 hb1 (fun h => h.1 rfl))).trans hE.1
              have ea : Addr.add ⟨g5, 0, none⟩ j = ⟨g5, j, none⟩ := add0 _ _
              have q9 : (j < rs.length) = True := eq_true cj
              have q8 : ((j : Int) < (rs.length : Int)) = True := eq_true (by omega)
              have c5b : decide ((j : Int) < (rs.length : Int)) = true := decide_eq_true (by omega)
              have c5c : decide (j < rs.length) = true := decide_eq_true cj
              have wj : wrap64 ((j : Int) + 1) = ((j + 1 : Nat) : Int) := by rw [wr_in _ (by have := HC.out.1; omega)]; omega
              have hcl := HIn.out.call (p := p) (sl := IntKind.u16.wrap (j : Int)) hE HBS.out.1 ⟨HBS.out.2.1, HBS.out.2.2.1⟩ HBS.out.2.2.2.1 (by rw [List.length_append, items_len, List.length_take]; have := HIL.out; have := HN.out; have := HC.out.1; have := HK.out; have := HT4.out; omega)
              have hit := items_take p rs 0 j cj
              rw [Nat.zero_add] at hit
              rw [List.append_assoc, show (⟨⟨p, IntKind.u16.wrap (j : Int)⟩, Slb.rd_L rs (j : Int)⟩ : S66) = ⟨⟨p, (j : Int) % 65536⟩, Slb.rd_L rs (j : Int)⟩ from rfl, ← hit] at hcl
              generalize Slb.rd_L rs (j : Int) = rj at hx0 hcl
              have HCL := Aside0.mk hcl
              have HCJ := Aside0.mk cj
              clear hE hEl hb1 hb2 hcl hit cj
              go_wp2_with (go_at_call 51; (with_reducible refine HCL.out.mono ?_); rintro en w7 ⟨okN, A2, n2, c2_, rfl, hin2⟩; have HIn2 := Aside0.mk hin2; clear hin2)
              go_roundg (gk - 1)
              case measure => have h1 := HJ.out; have h2 := HCJ.out; omega
              case rel =>
                have h1 := HJ.out
                have h2 := HCJ.out
                exact ⟨j + 1, okN, A2, n2, c2_, by first | rfl | rw [wj], ⟨by omega⟩, HIn2⟩
            · have c5b : decide ((j : Int) < (rs.length : Int)) = false := decide_eq_false (by omega)
              have c5c : decide (j < rs.length) = false := decide_eq_false cj
              have hall : rs.take j = rs := List.take_of_length_le (by omega)
              rw [hall] at HIn
              have hy2 := (blk_cell HIn.out.hx 2).trans rfl
              clear cj hall
              go_wp2
              go_ret2
              exact ⟨_, _, _, _, rfl, HIn.out.wk, by have := HN.out; have := HM.out; omega⟩
      | @more _ _ _ _ nx _ _ rs _ hc hn hw =>
        have HNX := Aside0.mk hn
        have HWY := Aside0.mk hw
        clear hw hn
        cases hc with
        | good _ _ hin hok hb =>
          rw [head_good_cls hin hok hb HY.out] at hh
          have hA := hok.all 0
          obtain ⟨xs, hxs⟩ : ∃ xs, hp nx rs = xs := ⟨_, rfl⟩
          rw [show PureSl.pg nx rs = xs from hxs] at hA
          rw [hxs] at hh
          have HH := Aside0.mk hh
          have HA := Aside0.mk hA
          have HC := Aside0.mk (And.intro hok.count hok.nx_)
          clear hh hA hin hok hb hxs
          go_upto_region 12 with (first
            | (go_at_call 89; (with_reducible refine (pages_px HW.out.px HW.out.dk).mono ?_); rintro en w1 ⟨rfl, rfl⟩)
            | (go_at_call 53; (with_reducible refine HH.out.mono ?_); rintro en w4 ⟨A4, c4, rfl, ho, hp4, hk4⟩; (obtain ⟨okQ, hq⟩ : ∃ okQ, Wk w (w4.alloc (.cells #[.int .u8 1, .int .u16 (rs.length : Int), .int .u32 nx] 130)) okQ D okI g gd go (K + n - 1 + 1) d t v its := ⟨_, (HW.out.next hp4 (fun k hk => hk.1) hk4).below (below_alloc (Below.refl _ _) (.cells #[.int .u8 1, .int .u16 (rs.length : Int), .int .u32 nx] 130))⟩); have HW4 := Aside0.mk hq; have HX4 := Aside0.mk (blk_new w4 (.cells #[.int .u8 1, .int .u16 (rs.length : Int), .int .u32 nx] 130)); have HO4 := Aside0.mk (Kd.R_alloc ho (.cells #[.int .u8 1, .int .u16 (rs.length : Int), .int .u32 nx] 130)); clear ho hp4 hk4 hq)
            | (go_at_call 90; (with_reducible refine (slots_All.calls 200 A4 c4 xs rs 0 _ (Kd.R_reads' HO4.out).2.2 (Kd.R_reads' HO4.out).2.1 HA.out).mono ?_); rintro en w5 ⟨v5, rfl, ho, hb⟩; (obtain ⟨A5, c5, e5⟩ := Kd.R_slice (Kd.S_R ho)); subst e5; have HS5 := Aside0.mk ho; have HW5 := Aside0.mk (HW4.out.below hb); have HX5 := Aside0.mk (blk_below HX4.out hb); have HB5 := Aside0.mk hb.size; clear ho hb))
          obtain ⟨base, hbs⟩ : ∃ base, base = (w4.alloc (.cells #[.int .u8 1, .int .u16 (rs.length : Int), .int .u32 nx] 130)).heap.size := ⟨_, rfl⟩
          obtain ⟨gx, hgx⟩ : ∃ gx, w4.heap.size = gx := ⟨_, rfl⟩
          rw [← hbs] at HS5 HB5
          rw [hgx] at HX5
          have HBS := Aside0.mk (show go < base ∧ w.heap.size ≤ base ∧ base ≤ w5.heap.size ∧ (∀ k, okQ k → k < base) ∧ ∀ k, okI k → k < base from ⟨by rw [hbs]; exact blk_lt HW4.out.box, by rw [hbs]; exact HW4.out.big, HB5.out, fun k hk => by rw [hbs]; exact (HW4.out.apP k hk).2.2.2, fun k hk => by rw [hbs]; exact (HW4.out.apI k hk).2.2.1⟩)
          have hS : ∃ (f : Nat → Nat) (g5 : Nat), 0 < rs.length → (A5 = some ⟨g5, 0, none⟩ ∧ base ≤ g5 ∧ g5 < w5.heap.size ∧ ∀ i : Nat, i < rs.length → ∃ A c, Slb.El w5 base g5 f rs i A c) := by
            by_cases hp : 0 < rs.length
            · obtain ⟨f, g5, cap, hv, h1, h2, h3⟩ := Slb.S_el HS5.out hp
              exact ⟨f, g5, fun _ => ⟨by injection hv, h1, h2, h3⟩⟩
            · exact ⟨fun _ => 0, 0, fun h => absurd h hp⟩
          obtain ⟨f, g5, hS⟩ := hS
          have HSS := Aside0.mk hS
          obtain ⟨Av, cv, ev⟩ := Kd.R_slice HW5.out.row
          generalize List.length _ = nv_ at ev
          subst ev
          have HI0 := Aside0.mk (show In w w5 w5 okQ D okI f gx #[.int .u8 1, .int .u16 (rs.length : Int), .int .u32 nx] base g5 0 g gd go (K + n - 1 + 1) d t (.slice Av nv_ cv) (its ++ itemsOf p (rs.take 0) 0) from ⟨by simpa [itemsOf] using HW5.out, Nat.le_refl _, fun _ _ _ _ => rfl, HX5.out, fun k hk => .inl (HBS.out.2.2.2.2 k hk)⟩)
          try simp only [hgx]
          obtain ⟨gko, rfl⟩ : ∃ x, x = gk := ⟨_, rfl⟩
          clear HW HW4 HW5 HX4 HX5 HO4 HS5 HH HA hS hbs hgx
          go_wp2
          go_loopg [47] rs.length (fun kq v47 w' => ∃ (j : Nat) (okI' : Nat → Prop) (A' : Option Addr) (n' c' : Nat), v47 = .int .i64 (j : Int) ∧ Aside0 (kq + j = rs.length) ∧ Aside0 (In w w5 w' okQ D okI' f gx #[.int .u8 1, .int .u16 (rs.length : Int), .int .u32 nx] base g5 j g gd go (K + n - 1 + 1) d t (.slice A' n' c') (its ++ itemsOf p (rs.take j) 0)))
          case atStart => exact ⟨0, okI, Av, nv_, cv, rfl, ⟨by omega⟩, HI0⟩
          case round =>
            clear HI0
            obtain ⟨j, okJ, A', n', c', rfl, HJ, HIn⟩ := hrel
            by_cases cj : j < rs.length
            · obtain ⟨hA5, hb1, hb2, hEl⟩ := HSS.out (by omega)
              subst hA5
              obtain ⟨A1, c1, hE⟩ := hEl j cj
              have hx0 := (World.cell?_of_block (w := w5) (a := ⟨g5, j, none⟩) (HIn.out.same g5 hb2 hb1 (fun h => h.1 rfl))).trans hE.1
              have ea : Addr.add ⟨g5, 0, none⟩ j = ⟨g5, j, none⟩ := add0 _ _
              have q9 : (j < rs.length) = True := eq_true cj
              have q8 : ((j : Int) < (rs.length : Int)) = True := eq_true (by omega)
              have c5b : decide ((j : Int) < (rs.length : Int)) = true := decide_eq_true (by omega)
              have c5c : decide (j < rs.length) = true := decide_eq_true cj
              have wj : wrap64 ((j : Int) + 1) = ((j + 1 : Nat) : Int) := by rw [wr_in _ (by have := HC.out.1; omega)]; omega
              have hcl := HIn.out.call (p := p) (sl := IntKind.u16.wrap (j : Int)) hE HBS.out.1 ⟨HBS.out.2.1, HBS.out.2.2.1⟩ HBS.out.2.2.2.1 (by rw [List.length_append, items_len, List.length_take]; have := HIL.out; have := HN.out; have := HC.out.1; have := HK.out; have := HT4.out; omega)
              have hit := items_take p rs 0 j cj
              rw [Nat.zero_add] at hit
              rw [List.append_assoc, show (⟨⟨p, IntKind.u16.wrap (j : Int)⟩, Slb.rd_L rs (j : Int)⟩ : S66) = ⟨⟨p, (j : Int) % 65536⟩, Slb.rd_L rs (j : Int)⟩ from rfl, ← hit] at hcl
              generalize Slb.rd_L rs (j : Int) = rj at hx0 hcl
              have HCL := Aside0.mk hcl
              have HCJ := Aside0.mk cj
              clear hE hEl hb1 hb2 hcl hit cj
              go_wp2_with (go_at_call 51; (with_reducible refine HCL.out.mono ?_); rintro en w7 ⟨okN, A2, n2, c2_, rfl, hin2⟩; have HIn2 := Aside0.mk hin2; clear hin2)
              go_roundg (gk - 1)
              case measure => have h1 := HJ.out; have h2 := HCJ.out; omega
              case rel =>
                have h1 := HJ.out
                have h2 := HCJ.out
                exact ⟨j + 1, okN, A2, n2, c2_, by first | rfl | rw [wj], ⟨by omega⟩, HIn2⟩
            · have c5b : decide ((j : Int) < (rs.length : Int)) = false := decide_eq_false (by omega)
              have c5c : decide (j < rs.length) = false := decide_eq_false cj
              have hall : rs.take j = rs := List.take_of_length_le (by omega)
              rw [hall] at HIn
              have hy2 := (blk_cell HIn.out.hx 2).trans rfl
              have c6 : (nx == 0) = false := beq_eq_false_iff_ne.mpr HNX.out
              have HNb := Aside0.mk HC.out.2
              have wn : wrap64 ((n : Int) + 1) = ((n + 1 : Nat) : Int) := by rw [wr_in _ (by have := HN.out; have := HT4.out; omega)]; omega
              have hwk := HIn.out.wk
              have HWK := Aside0.mk hwk
              clear cj hall hwk
              go_wp2
              go_roundg (gko - 1)
              case measure => have h1 := HN.out; have h2 := HM.out; omega
              case rel =>
                have h1 := HN.out
                have h2 := HM.out
                exact ⟨nx, n + 1, _, _, _, _, rfl, by first | rfl | rw [wn], ⟨by omega⟩, ⟨by rw [h2]; exact HWY.out⟩, ⟨HNb.out⟩, ⟨by have := HWK.out; rwa [show K + n - 1 + 1 = K + (n + 1) - 1 from by omega] at this⟩, ⟨by have := HIL.out; have := HC.out.1; rw [List.length_append, items_len]; omega⟩⟩
end Go.Proofs.Ytpfegfkniilobaa.Hp
