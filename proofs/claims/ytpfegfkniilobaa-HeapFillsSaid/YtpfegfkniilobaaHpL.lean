/- Law 09, HeapFills, walked. Conditions: the records are bytes, a machine holds them. (printed by wip/r4/h/genlf.py) -/
import Derived.Test.YtpfegfkniilobaaHpI
import Derived.Test.YtpfegfkniilobaaPureHp
import Derived.Test.YtpfegfkniilobaaWEqStruct
import Derived.Deep.QuietTactic
import Derived.BigQuiet
import Derived.Laws.StructEq
namespace Go.Proofs.Ytpfegfkniilobaa.Hp
open Go.RowKit Go.Proofs.YtpfegfkniilobaaW.PrintWords Go.Proofs.YtpfegfkniilobaaW.PrintLast Go.Proofs.YtpfegfkniilobaaW.PrintMore Go.Proofs.Ytpfegfkniilobaa.Byt Go.Proofs.Ytpfegfkniilobaa.Dsk Go.Proofs.Ytpfegfkniilobaa.XHeap
open Go.Proofs.Ytpfegfkniilobaa.PureSl (room Ok txt)
set_option linter.unusedVariables false
set_option linter.unusedSimpArgs false
set_option maxRecDepth 100000
theorem fillF_ok {d : List Int} {t : List Bool} (l : List (List Int)) (h : d.length = 512 * t.length ∧ 0 < t.length ∧ t.length ≤ 4096 ∧ By d) (hby : ∀ r ∈ l, By r) : (fillF d t l).2.1.t.length = t.length ∧ By (fillF d t l).2.1.d := by
  have hs0 : SOk (s0_ d t) := s0_okr h
  have hgo : ∀ (l : List (List Int)) (s : St) (o : List S50), SOk s → s.beg = true → (∀ r ∈ l, By r) → l.any badR = false → SOk (fillS l s o).2.1 ∧ (fillS l s o).2.1.t.length = s.t.length := by
    intro l
    induction l with
    | nil => intro s o h _ _ _; exact ⟨h, rfl⟩
    | cons r l ih =>
      intro s o h hb hy hg
      have hr : badR r = false := by
        rw [List.any_cons, Bool.or_eq_false_iff] at hg
        exact hg.1
      have hg2 : l.any badR = false := by
        rw [List.any_cons, Bool.or_eq_false_iff] at hg
        exact hg.2
      have hr2 := badR_false.mp hr
      have h1 := addS_ok h r hr2.1 hr2.2 (hy r (List.mem_cons_self ..))
      have h2 := addS_len s r
      rw [fillS]
      split
      · have h3 := ih (addS s r).2.1 (o ++ [(addS s r).2.2]) h1 (addS_beg r hb) (fun x hx => hy x (List.mem_cons_of_mem _ hx)) hg2
        exact ⟨h3.1, h3.2.trans h2⟩
      · exact ⟨h1, h2⟩
  unfold fillF
  split
  · exact ⟨rfl, h.2.2.2⟩
  · rename_i hg
    have hg2 : l.any badR = false := by simpa using hg
    split
    · rename_i hz
      have h1 := nextS_ok hs0
      have h2 := nextS_len (s0_ d t)
      have h3 := hgo l (nextS (s0_ d t)).2 [] h1 (nextS_zero hz).2 hby hg2
      have hx : ∀ x, fillS l (nextS (s0_ d t)).2 [] = x → SOk x.2.1 ∧ x.2.1.t.length = (nextS (s0_ d t)).2.t.length := fun x e => by rw [← e]; exact h3
      split
      rename_i e s o heq
      have h4 := hx _ heq
      split
      · exact ⟨(wrG_len _ _ _ _).trans (h4.2.trans h2), wrG_by _ _ h4.1.by_ (PureSl.pg_by 0 s.rs h4.1.rs.by_)⟩
      · exact ⟨h4.2.trans h2, h4.1.by_⟩
    · exact ⟨nextS_len (s0_ d t), (nextS_ok hs0).by_⟩
theorem fillF_len {d : List Int} {t : List Bool} (l : List (List Int)) : (fillF d t l).2.2.length ≤ l.length := by
  have hgo : ∀ (l : List (List Int)) (s : St) (o : List S50), (fillS l s o).2.2.length ≤ o.length + l.length := by
    intro l
    induction l with
    | nil => intro s o; exact Nat.le_refl _
    | cons r l ih =>
      intro s o
      rw [fillS]
      split
      · have h := ih (addS s r).2.1 (o ++ [(addS s r).2.2])
        rw [List.length_append, List.length_singleton] at h
        rw [List.length_cons]
        omega
      · show o.length ≤ _
        omega
  unfold fillF
  split
  · exact Nat.zero_le _
  · split
    · have h := hgo l (nextS (s0_ d t)).2 []
      have hx : ∀ x, fillS l (nextS (s0_ d t)).2 [] = x → x.2.2.length ≤ l.length := fun x e => by rw [← e]; simpa using h
      split
      rename_i e s o heq
      have h4 := hx _ heq
      split <;> exact h4
    · exact Nat.zero_le _
theorem zeros_by (n : Nat) : By (List.replicate n 0) := By.zeros n
theorem ld_len (n : Nat) (h : 1 ≤ n) : (ld (List.replicate (n * 512) 0)).length = n := by
  rw [ld_zeros, List.length_map, List.length_range]
theorem own_old {w0 W : World} {ok ok' : Nat → Prop} {v0 v1 : Value} {P : List ByteArray} {T : List Bool} (h0 : Kd.R Kd.string 9 W w0.heap.size ok v0 P) (h1 : Kd.R Kd.bool 4 W w0.heap.size ok' v1 T) {k : Nat} (hk : Sv v0 v1 (.slice none 0 0) (.slice none 0 0) k) : k < W.heap.size := by
  rcases hk with e | e | e | e
  · exact own_lt h0 e.symm
  · exact own_lt h1 e.symm
  · cases e
  · cases e
theorem own_not {w0 W : World} {D : Nat → Prop} {v0 v1 : Value} {P : List ByteArray} {T : List Bool} (h0 : Kd.R Kd.string 9 W w0.heap.size (fun k => ¬ D k) v0 P) (h1 : Kd.R Kd.bool 4 W w0.heap.size (fun k => ¬ D k) v1 T) {k : Nat} (hk : Sv v0 v1 (.slice none 0 0) (.slice none 0 0) k) : ¬ D k := by
  rcases hk with e | e | e | e
  · exact h0.1 k e.symm
  · exact h1.1 k e.symm
  · cases e
  · cases e
theorem own_ne {w0 W : World} {ok ok' : Nat → Prop} {v0 v1 : Value} {P : List ByteArray} {T : List Bool} (h0 : Kd.R Kd.string 9 W w0.heap.size ok v0 P) (h1 : Kd.R Kd.bool 4 W w0.heap.size ok' v1 T) {g t : Nat} {cs : Array Value} (hb : W.heap[g]? = some (.cells cs t (0, 0))) (ht : t ≠ 9 ∧ t ≠ 4) : ¬ Sv v0 v1 (.slice none 0 0) (.slice none 0 0) g := by
  rintro (e | e | e | e)
  · exact Kd.R_ne h0 hb ht.1.symm e
  · exact Kd.R_ne h1 hb ht.2.symm e
  · cases e
  · cases e
/-- What stands in memory while a row of records is looked at. -/
structure Fy (w W : World) (D : Nat → Prop) (gd g9 g48 n : Nat) (d : List Int) (t : List Bool) (c9 c48 : Array Value) (vO v0 v1 v6 : Value) (OX O : List S50) : Prop where
  dk : Dk W D gd d t
  h9 : W.heap[g9]? = some (.cells c9 32 (0, 0))
  h48 : W.heap[g48]? = some (.cells c48 22 (0, 0))
  ho : Kd.R k50 50 W w.heap.size (fun _ => True) vO OX
  h0 : Kd.R Kd.string 9 W w.heap.size (fun k => ¬ D k) v0 (pgs d n)
  h1 : Kd.R Kd.bool 4 W w.heap.size (fun k => ¬ D k) v1 t
  h6 : Kd.R k50 50 W w.heap.size (fun _ => True) v6 O
  hb : Below w.heap.size w W
theorem Fy.alloc {w W : World} {D : Nat → Prop} {gd g9 g48 n : Nat} {d : List Int} {t : List Bool} {c9 c48 : Array Value} {vO v0 v1 v6 : Value} {OX O : List S50} (h : Fy w W D gd g9 g48 n d t c9 c48 vO v0 v1 v6 OX O) (o : Obj) : Fy w (W.alloc o) D gd g9 g48 n d t c9 c48 vO v0 v1 v6 OX O :=
  ⟨h.dk.alloc o, blk_alloc h.h9 o, blk_alloc h.h48 o, Kd.R_alloc h.ho o, Kd.R_alloc h.h0 o, Kd.R_alloc h.h1 o, Kd.R_alloc h.h6 o, below_then h.hb h.hb.size (below_alloc (Below.refl _ _) o)⟩
theorem Fy.below {w W W2 : World} {D : Nat → Prop} {gd g9 g48 n : Nat} {d : List Int} {t : List Bool} {c9 c48 : Array Value} {vO v0 v1 v6 : Value} {OX O : List S50} (h : Fy w W D gd g9 g48 n d t c9 c48 vO v0 v1 v6 OX O) (hb : Below W.heap.size W W2) : Fy w W2 D gd g9 g48 n d t c9 c48 vO v0 v1 v6 OX O :=
  ⟨h.dk.below hb, blk_below h.h9 hb, blk_below h.h48 hb, Kd.R_below h.ho hb, Kd.R_below h.h0 hb, Kd.R_below h.h1 hb, Kd.R_below h.h6 hb, below_then h.hb h.hb.size hb⟩
/-- A cell of another block is written. -/
theorem Fy.set {w W : World} {D : Nat → Prop} {gd g9 g48 n g : Nat} {d : List Int} {t : List Bool} {c9 c48 cs : Array Value} {vO v0 v1 v6 : Value} {OX O : List S50} (h : Fy w W D gd g9 g48 n d t c9 c48 vO v0 v1 v6 OX O) (hz : W.heap[g]? = some (.cells cs 43 (0, 0))) (hn : ∀ k, D k → k ≠ g) (hg : w.heap.size ≤ g) (j : Nat) (u : Value) : Fy w (W.setCell ⟨g, j, none⟩ u) D gd g9 g48 n d t c9 c48 vO v0 v1 v6 OX O :=
  ⟨dk_far h.dk hn u, blk_far (p := ⟨g, j, none⟩) h.h9 (blk_ne h.h9 hz (by decide)) u, blk_far (p := ⟨g, j, none⟩) h.h48 (blk_ne h.h48 hz (by decide)) u, Kd.R_set h.ho hz (by decide) j u, Kd.R_set h.h0 hz (by decide) j u, Kd.R_set h.h1 hz (by decide) j u, Kd.R_set h.h6 hz (by decide) j u, below_set0 h.hb hg⟩
theorem Fy.box {w W : World} {D : Nat → Prop} {gd g9 g48 n g : Nat} {d : List Int} {t : List Bool} {c9 c48 : Array Value} {vO v0 v1 v6 a0 a1 a2 a3 a4 a5 a6 a7 : Value} {OX O : List S50} (h : Fy w W D gd g9 g48 n d t c9 c48 vO v0 v1 v6 OX O) (hz : W.heap[g]? = some (.cells #[a0, a1, a2, a3, a4, a5, a6, a7] 43 (0, 0))) (hn : ∀ k, D k → k ≠ g) (hg : w.heap.size ≤ g) (b0 b1 b2 b3 b4 b5 b6 b7 : Value) :
    (((((((((W.setCell ⟨g, 0, none⟩ b0).setCell ⟨g, 1, none⟩ b1).setCell ⟨g, 2, none⟩ b2).setCell ⟨g, 3, none⟩ b3).setCell ⟨g, 4, none⟩ b4).setCell ⟨g, 5, none⟩ b5).setCell ⟨g, 6, none⟩ b6).setCell ⟨g, 7, none⟩ b7).heap[g]? = some (.cells #[b0, b1, b2, b3, b4, b5, b6, b7] 43 (0, 0))) ∧ Fy w ((((((((W.setCell ⟨g, 0, none⟩ b0).setCell ⟨g, 1, none⟩ b1).setCell ⟨g, 2, none⟩ b2).setCell ⟨g, 3, none⟩ b3).setCell ⟨g, 4, none⟩ b4).setCell ⟨g, 5, none⟩ b5).setCell ⟨g, 6, none⟩ b6).setCell ⟨g, 7, none⟩ b7) D gd g9 g48 n d t c9 c48 vO v0 v1 v6 OX O := by
  have q1 := blk_put (cs' := #[b0, a1, a2, a3, a4, a5, a6, a7]) hz 0 b0 rfl
  have q2 := blk_put (cs' := #[b0, b1, a2, a3, a4, a5, a6, a7]) q1 1 b1 rfl
  have q3 := blk_put (cs' := #[b0, b1, b2, a3, a4, a5, a6, a7]) q2 2 b2 rfl
  have q4 := blk_put (cs' := #[b0, b1, b2, b3, a4, a5, a6, a7]) q3 3 b3 rfl
  have q5 := blk_put (cs' := #[b0, b1, b2, b3, b4, a5, a6, a7]) q4 4 b4 rfl
  have q6 := blk_put (cs' := #[b0, b1, b2, b3, b4, b5, a6, a7]) q5 5 b5 rfl
  have q7 := blk_put (cs' := #[b0, b1, b2, b3, b4, b5, b6, a7]) q6 6 b6 rfl
  have q8 := blk_put (cs' := #[b0, b1, b2, b3, b4, b5, b6, b7]) q7 7 b7 rfl
  exact ⟨q8, (((((((h.set hz hn hg 0 b0).set q1 hn hg 1 b1).set q2 hn hg 2 b2).set q3 hn hg 3 b3).set q4 hn hg 4 b4).set q5 hn hg 5 b5).set q6 hn hg 6 b6).set q7 hn hg 7 b7⟩
theorem Fy.put9 {w W : World} {D : Nat → Prop} {gd g9 g48 n g16 : Nat} {d : List Int} {t : List Bool} {c48 c16 : Array Value} {a b vO v0 v1 v6 : Value} {OX O : List S50} (h : Fy w W D gd g9 g48 n d t #[a, b] c48 vO v0 v1 v6 OX O) (hz : W.heap[g16]? = some (.cells c16 43 (0, 0))) (hn : ∀ k, D k → k ≠ g9) (hg : w.heap.size ≤ g9) (u v : Value) :
    Fy w ((W.setCell ⟨g9, 0, none⟩ u).setCell ⟨g9, 1, none⟩ v) D gd g9 g48 n d t #[u, v] c48 vO v0 v1 v6 OX O ∧ ((W.setCell ⟨g9, 0, none⟩ u).setCell ⟨g9, 1, none⟩ v).heap[g16]? = some (.cells c16 43 (0, 0)) := by
  have q1 := blk_put (cs' := #[u, b]) h.h9 0 u rfl
  have q2 := blk_put (cs' := #[u, v]) q1 1 v rfl
  have e1 := blk_far (p := ⟨g9, 0, none⟩) h.h48 (blk_ne h.h48 h.h9 (by decide)) u
  have z1 := blk_far (p := ⟨g9, 0, none⟩) hz (blk_ne hz h.h9 (by decide)) u
  exact ⟨⟨dk_far (dk_far h.dk hn u) hn v, q2, blk_far (p := ⟨g9, 1, none⟩) e1 (blk_ne e1 q1 (by decide)) v, Kd.R_set (Kd.R_set h.ho h.h9 (by decide) 0 u) q1 (by decide) 1 v, Kd.R_set (Kd.R_set h.h0 h.h9 (by decide) 0 u) q1 (by decide) 1 v, Kd.R_set (Kd.R_set h.h1 h.h9 (by decide) 0 u) q1 (by decide) 1 v, Kd.R_set (Kd.R_set h.h6 h.h9 (by decide) 0 u) q1 (by decide) 1 v, below_set0 (below_set0 h.hb hg) hg⟩, blk_far (p := ⟨g9, 1, none⟩) z1 (blk_ne z1 q1 (by decide)) v⟩
theorem eqA50 (d : Nat) (w : World) (x0 y0 x1 y1 : Int) : (Op.equalIn (d + 2) 50 (.agg #[.int .u32 x0, .int .u16 x1]) (.agg #[.int .u32 y0, .int .u16 y1])).run Try.prog w = .ok (x0 == y0 && (x1 == y1)) w := by
  refine eqA_of Try.underlying50 (by kernel_rfl) ?_
  refine eqf_cons (by rfl) (by go_simp; rfl) (by go_simp; rfl) (by go_simp) ?_
  exact eqf_last (by rfl) (by go_simp; rfl) (by go_simp; rfl) (by go_simp)
theorem nq50 (W : World) (x0 x1 : Int) : (binOp .neq 50 (.agg #[.int .u32 x0, .int .u16 x1]) (.agg #[.int .u32 x0, .int .u16 x1])).run Try.prog W = .ok (.bool false) W := by
  rw [run_neq_struct, eqA50 9998]
  simp
/-- What the law asks of a row of records. -/
def RecOk (w : World) (A : Option Addr) (c : Nat) (l : List (List Int)) : Prop := Kd.C (Kd.slice 5 (Kd.int .u8)) w A l.length l ∧ l.length ≤ c ∧ ∀ r ∈ l, By r
theorem fills_low (a0 : Int) (A1 A2 : Option Addr) (c1 c2 : Nat) (l more : List (List Int)) (w : World) (h1 : RecOk w A1 c1 l) (h2 : RecOk w A2 c2 more) (hp : a0 < 1) :
    Calls Try.prog 3 #[.int .i64 a0, .slice A1 l.length c1, .slice A2 more.length c2] w fun e w' => e = .returned (.bool true) ∧ Below w.heap.size w w' := by
  have g1 : decide (a0 < 1) = true := decide_eq_true hp
  have HC := Aside0.mk (And.intro h1.1 h2.1)
  have HB0 := Aside0.mk (Below.refl w.heap.size w)
  clear h1 h2 hp
  go_enter Try.func3, Try.ntmps3
  go_wp2_with (first | (go_at_call 11; (with_reducible refine (fixed_ok _).mono ?_); rintro en w9 ⟨rfl, hb_⟩; have HB9 := Aside0.mk (below_then HB0.out HB0.out.size hb_); clear hb_))
  go_ret
  exact ⟨rfl, HB9.out⟩
theorem fills_high (a0 : Int) (A1 A2 : Option Addr) (c1 c2 : Nat) (l more : List (List Int)) (w : World) (h1 : RecOk w A1 c1 l) (h2 : RecOk w A2 c2 more) (hp : ¬ a0 < 1) (hq : 30 < a0) :
    Calls Try.prog 3 #[.int .i64 a0, .slice A1 l.length c1, .slice A2 more.length c2] w fun e w' => e = .returned (.bool true) ∧ Below w.heap.size w w' := by
  have g1 : decide (a0 < 1) = false := decide_eq_false hp
  have g2 : decide (30 < a0) = true := decide_eq_true hq
  have HC := Aside0.mk (And.intro h1.1 h2.1)
  have HB0 := Aside0.mk (Below.refl w.heap.size w)
  clear h1 h2 hp hq
  go_enter Try.func3, Try.ntmps3
  go_wp2_with (first | (go_at_call 11; (with_reducible refine (fixed_ok _).mono ?_); rintro en w9 ⟨rfl, hb_⟩; have HB9 := Aside0.mk (below_then HB0.out HB0.out.size hb_); clear hb_))
  go_ret
  exact ⟨rfl, HB9.out⟩
theorem fills_big1 (a0 : Int) (A1 A2 : Option Addr) (c1 c2 : Nat) (l more : List (List Int)) (w : World) (h1 : RecOk w A1 c1 l) (h2 : RecOk w A2 c2 more) (hp : ¬ a0 < 1) (hq : ¬ 30 < a0) (hs1 : ∀ w', Kd.C (Kd.slice 5 (Kd.int .u8)) w' A1 l.length l → Calls Try.prog 10 #[.slice A1 l.length c1] w' fun e w2 => e = .returned (.bool false) ∧ Below w'.heap.size w' w2) :
    Calls Try.prog 3 #[.int .i64 a0, .slice A1 l.length c1, .slice A2 more.length c2] w fun e w' => e = .returned (.bool true) ∧ Below w.heap.size w w' := by
  have g1 : decide (a0 < 1) = false := decide_eq_false hp
  have g2 : decide (30 < a0) = false := decide_eq_false hq
  have HC := Aside0.mk (And.intro h1.1 h2.1)
  have HB0 := Aside0.mk (Below.refl w.heap.size w)
  have HS1 := Aside0.mk hs1
  clear h1 h2 hp hq hs1
  go_enter Try.func3, Try.ntmps3
  go_wp2_with (first | (go_at_call 10; (with_reducible refine (HS1.out _ HC.out.1).mono ?_); rintro en w1 ⟨rfl, hb_⟩; have HB1 := Aside0.mk hb_; clear hb_) | (go_at_call 11; (with_reducible refine (fixed_ok _).mono ?_); rintro en w9 ⟨rfl, hb_⟩; have HB9 := Aside0.mk (below_then HB1.out HB1.out.size hb_); clear hb_))
  go_ret
  exact ⟨rfl, HB9.out⟩
theorem fills_big2 (a0 : Int) (A1 A2 : Option Addr) (c1 c2 : Nat) (l more : List (List Int)) (w : World) (h1 : RecOk w A1 c1 l) (h2 : RecOk w A2 c2 more) (hp : ¬ a0 < 1) (hq : ¬ 30 < a0) (hs1 : ∀ w', Kd.C (Kd.slice 5 (Kd.int .u8)) w' A1 l.length l → Calls Try.prog 10 #[.slice A1 l.length c1] w' fun e w2 => e = .returned (.bool true) ∧ Below w'.heap.size w' w2) (hs2 : ∀ w', Kd.C (Kd.slice 5 (Kd.int .u8)) w' A2 more.length more → Calls Try.prog 10 #[.slice A2 more.length c2] w' fun e w2 => e = .returned (.bool false) ∧ Below w'.heap.size w' w2) :
    Calls Try.prog 3 #[.int .i64 a0, .slice A1 l.length c1, .slice A2 more.length c2] w fun e w' => e = .returned (.bool true) ∧ Below w.heap.size w w' := by
  have g1 : decide (a0 < 1) = false := decide_eq_false hp
  have g2 : decide (30 < a0) = false := decide_eq_false hq
  have HC := Aside0.mk (And.intro h1.1 h2.1)
  have HB0 := Aside0.mk (Below.refl w.heap.size w)
  have HS1 := Aside0.mk hs1
  have HS2 := Aside0.mk hs2
  clear h1 h2 hp hq hs1 hs2
  go_enter Try.func3, Try.ntmps3
  go_wp2_with (first | (go_at_call 10; (with_reducible refine (HS1.out _ HC.out.1).mono ?_); rintro en w1 ⟨rfl, hb_⟩; have HB1 := Aside0.mk hb_; clear hb_) | (go_at_call 10; (with_reducible refine (HS2.out _ (Kd.C_below HC.out.2 HB1.out)).mono ?_); rintro en w2 ⟨rfl, hb_⟩; have HB2 := Aside0.mk (below_then HB1.out HB1.out.size hb_); clear hb_) | (go_at_call 11; (with_reducible refine (fixed_ok _).mono ?_); rintro en w9 ⟨rfl, hb_⟩; have HB9 := Aside0.mk (below_then HB2.out HB2.out.size hb_); clear hb_))
  go_ret
  exact ⟨rfl, HB9.out⟩
set_option maxHeartbeats 16000000 in
theorem fills_main (a0 : Int) (A1 A2 : Option Addr) (c1 c2 : Nat) (l more : List (List Int)) (w : World) (h1 : RecOk w A1 c1 l) (h2 : RecOk w A2 c2 more) (hp : ¬ a0 < 1) (hq : ¬ 30 < a0) (hs1 : ∀ w', Kd.C (Kd.slice 5 (Kd.int .u8)) w' A1 l.length l → Calls Try.prog 10 #[.slice A1 l.length c1] w' fun e w2 => e = .returned (.bool true) ∧ Below w'.heap.size w' w2) (hs2 : ∀ w', Kd.C (Kd.slice 5 (Kd.int .u8)) w' A2 more.length more → Calls Try.prog 10 #[.slice A2 more.length c2] w' fun e w2 => e = .returned (.bool true) ∧ Below w'.heap.size w' w2) (hl1 : l.length ≤ 9000) (hl2 : more.length ≤ 9000) :
    Calls Try.prog 3 #[.int .i64 a0, .slice A1 l.length c1, .slice A2 more.length c2] w fun e w' => e = .returned (.bool true) ∧ Below w.heap.size w w' := by
  have g1 : decide (a0 < 1) = false := decide_eq_false hp
  have g2 : decide (30 < a0) = false := decide_eq_false hq
  have HC := Aside0.mk (And.intro h1.1 h2.1)
  have HR1 := Aside0.mk (And.intro h1 hl1)
  have HR2 := Aside0.mk (And.intro h2 hl2)
  have HS1 := Aside0.mk hs1
  have HS2 := Aside0.mk hs2
  have HP := Aside0.mk (And.intro hp hq)
  obtain ⟨n, hn⟩ : ∃ n : Nat, n = a0.toNat := ⟨_, rfl⟩
  have HN := Aside0.mk (show 1 ≤ n ∧ n ≤ 30 ∧ a0 = (n : Int) by omega)
  have HNA := Aside0.mk hn
  clear h1 h2 hl1 hl2 hs1 hs2 hp hq hn
  go_enter Try.func3, Try.ntmps3
  go_upto_region 5 with (first
    | (go_at_call 10; (with_reducible refine (HS1.out _ HC.out.1).mono ?_); rintro en w1 ⟨rfl, hb_⟩; have HB1 := Aside0.mk hb_; clear hb_)
    | (go_at_call 10; (with_reducible refine (HS2.out _ (Kd.C_below HC.out.2 HB1.out)).mono ?_); rintro en w2 ⟨rfl, hb_⟩; have HB2 := Aside0.mk (below_then HB1.out HB1.out.size hb_); clear hb_)
    | (go_at_call 12; (with_reducible refine (new_ok _ a0 (by have := HN.out; omega)).mono ?_); rintro en w3 ⟨gd, rfl, hd_, hb_⟩; have HD3 := Aside0.mk hd_.bound; have HB3 := Aside0.mk (below_then HB2.out HB2.out.size hb_); clear hd_ hb_)
    | (go_at_call 13; (have hx := refnew_ok n (by have := HN.out; omega)); rw [← HN.out.2.2] at hx; (with_reducible refine (rowlockref06_New.calls 4101 a0 _ _ true _ hx).mono ?_); clear hx; rintro en w4 ⟨v0, v1, rfl, hr0, hr1, hb_⟩; (obtain ⟨B0, e0, q0⟩ := Kd.R_slice hr0); (obtain ⟨B1, e1, q1⟩ := Kd.R_slice hr1); generalize List.length _ = m0 at q0; generalize List.length _ = m1 at q1; subst q0 q1; have HV0 := Aside0.mk hr0; have HV1 := Aside0.mk hr1; have HD4 := Aside0.mk (HD3.out.below hb_); have HB4 := Aside0.mk (below_then HB3.out HB3.out.size hb_); have HZ4 := Aside0.mk hb_.size; clear hr0 hr1 hb_))
  obtain ⟨D, hDD⟩ : ∃ D : Nat → Prop, D = fun k => w2.heap.size ≤ k ∧ k < w3.heap.size := ⟨_, rfl⟩
  have HDN := Aside0.mk (show ∀ k, D k → w.heap.size ≤ k ∧ k < w3.heap.size from fun k hk => by rw [hDD] at hk; exact ⟨Nat.le_trans HB2.out.size hk.1, hk.2⟩)
  rw [show (fun k => w2.heap.size ≤ k ∧ k < w3.heap.size) = D from hDD.symm] at HD4
  rw [← HNA.out] at HD4
  clear hDD HD3
  have H9 := Aside0.mk (blk_new w4 (.cells #[.slice B0 m0 e0, .slice B1 m1 e1] 32))
  have HD5 := Aside0.mk (HD4.out.alloc (.cells #[.slice B0 m0 e0, .slice B1 m1 e1] 32))
  have HV05 := Aside0.mk (show Kd.R Kd.string 9 _ w.heap.size (fun k => ¬ D k) _ _ from Kd.R_mono (Kd.R_lower (Kd.R_alloc (Kd.R_bound HV0.out) (.cells #[.slice B0 m0 e0, .slice B1 m1 e1] 32)) HB3.out.size) (fun k hk hd => by have h3 := (HDN.out k hd).2; have h4 := hk.2.1; omega))
  have HV15 := Aside0.mk (show Kd.R Kd.bool 4 _ w.heap.size (fun k => ¬ D k) _ _ from Kd.R_mono (Kd.R_lower (Kd.R_alloc (Kd.R_bound HV1.out) (.cells #[.slice B0 m0 e0, .slice B1 m1 e1] 32)) HB3.out.size) (fun k hk hd => by have h3 := (HDN.out k hd).2; have h4 := hk.2.1; omega))
  have HB5 := Aside0.mk (below_then HB4.out HB4.out.size (below_alloc (Below.refl _ _) (.cells #[.slice B0 m0 e0, .slice B1 m1 e1] 32)))
  have HLT := Aside0.mk HZ4.out
  have HGW_ := HB4.out.size
  clear HD4 HV0 HV1 HB1 HB2 HB3 HB4 HZ4
  generalize w4.heap.size = g9 at H9 HLT HGW_ ⊢
  generalize World.alloc w4 _ = w5 at H9 HD5 HV05 HV15 HB5 ⊢
  go_wp2
  have hgl := blk_lt H9.out
  have H48 := Aside0.mk (blk_new w5 (.cells #[.slice A1 l.length c1, .slice A2 more.length c2] 22))
  replace H9 := Aside0.mk (blk_alloc H9.out (.cells #[.slice A1 l.length c1, .slice A2 more.length c2] 22))
  replace HD5 := Aside0.mk (HD5.out.alloc (.cells #[.slice A1 l.length c1, .slice A2 more.length c2] 22))
  replace HV05 := Aside0.mk (Kd.R_alloc HV05.out (.cells #[.slice A1 l.length c1, .slice A2 more.length c2] 22))
  replace HV15 := Aside0.mk (Kd.R_alloc HV15.out (.cells #[.slice A1 l.length c1, .slice A2 more.length c2] 22))
  replace HB5 := Aside0.mk (below_then HB5.out HB5.out.size (below_alloc (Below.refl _ _) (.cells #[.slice A1 l.length c1, .slice A2 more.length c2] 22)))
  replace HLT := Aside0.mk (And.intro HLT.out hgl)
  clear hgl
  generalize w5.heap.size = g48 at H48 HLT ⊢
  generalize World.alloc w5 _ = w6 at H9 H48 HD5 HV05 HV15 HB5 ⊢
  have HGW := Aside0.mk (show w.heap.size ≤ g9 from HGW_)
  have HN2 := Aside0.mk (show (List.replicate (n * 512) (0 : Int)).length / 512 = n by rw [List.length_replicate]; omega)
  go_loopg [50] 2 (fun kq v50 w' => ∃ (i : Int) (d : List Int) (t : List Bool) (B0 : Option Addr) (m0 e0 : Nat) (B1 : Option Addr) (m1 e1 : Nat), v50 = .int .i64 i ∧ Aside0 (0 ≤ i ∧ (kq : Int) + i = 2) ∧ Aside0 (Dk w' D gd d t ∧ t.length = n ∧ By d) ∧ Aside0 (w'.heap[g9]? = some (.cells #[.slice B0 m0 e0, .slice B1 m1 e1] 32 (0, 0))) ∧ Aside0 (w'.heap[g48]? = some (.cells #[.slice A1 l.length c1, .slice A2 more.length c2] 22 (0, 0))) ∧ Aside0 (Kd.R Kd.string 9 w' w.heap.size (fun k => ¬ D k) (.slice B0 m0 e0) (pgs d n)) ∧ Aside0 (Kd.R Kd.bool 4 w' w.heap.size (fun k => ¬ D k) (.slice B1 m1 e1) t) ∧ Aside0 (Below w.heap.size w w'))
  case atStart => exact ⟨0, _, _, B0, m0, e0, B1, m1, e1, rfl, ⟨by omega⟩, ⟨HD5.out, ld_len n HN.out.1, zeros_by _⟩, H9, H48, HV05, HV15, HB5⟩
  case round =>
    clear H9 H48 HD5 HV05 HV15 HB5
    obtain ⟨i, d, t, B0, m0, e0, B1, m1, e1, rfl, HI, HD, H9, H48, HV0, HV1, HB⟩ := hrel
    have HH := Aside0.mk (show d.length = 512 * t.length ∧ 0 < t.length ∧ t.length ≤ 4096 ∧ By d from ⟨HD.out.1.2.1, HD.out.1.2.2.1, HD.out.1.2.2.2.1, HD.out.2.2⟩)
    by_cases c2_ : i < 2
    · have c2b0 : decide (i < 2) = true := decide_eq_true c2_
      have p9 : (0 ≤ i) = True := eq_true HI.out.1
      have q9 : (i < 2) = True := eq_true c2_
      have w2_ : wrap64 (i + 1) = i + 1 := wr_in _ (by have := HI.out; omega)
      have ea : Addr.add ⟨g48, 0, none⟩ i.toNat = ⟨g48, i.toNat, none⟩ := add0 _ _
      obtain ⟨A, c, lr, hx0, hrl, hr9, hry, hrC⟩ : ∃ A c lr, wr.cell? ⟨g48, i.toNat, none⟩ = some (.slice A lr.length c) ∧ lr.length ≤ c ∧ lr.length ≤ 9000 ∧ (∀ r ∈ lr, By r) ∧ Kd.C (Kd.slice 5 (Kd.int .u8)) w A lr.length lr := by
        rcases (show i = 0 ∨ i = 1 by have := HI.out.1; omega) with e | e
        · subst e
          exact ⟨A1, c1, l, (blk_cell H48.out 0).trans rfl, HR1.out.1.2.1, HR1.out.2, HR1.out.1.2.2, HR1.out.1.1⟩
        · subst e
          exact ⟨A2, c2, more, (blk_cell H48.out 1).trans rfl, HR2.out.1.2.1, HR2.out.2, HR2.out.1.2.2, HR2.out.1.1⟩
      have HLR := Aside0.mk (And.intro hrl (And.intro hr9 (And.intro hry hrC)))
      have HC2 := Aside0.mk c2_
      obtain ⟨E, S, O, hR⟩ : ∃ E S O, fillF d t lr = (E, S, O) := ⟨_, _, _, rfl⟩
      have hfo := fillF_ok lr HH.out hry
      have hol := fillF_len (d := d) (t := t) lr
      rw [hR] at hol
      dsimp only at hol
      have HOL := Aside0.mk (show O.length ≤ 9000 by omega)
      clear hol
      have hfl := fill_ok (w := wr) (D := D) (okr := fun k => k < w.heap.size) (gd := gd) (fun k hk => by have h3 := (HDN.out k hk).2; have h4 := blk_lt H9.out; have h5 := HLT.out; omega) HD.out.1 HD.out.2.2 A c lr (Kd.F_below (Kd.C_F (Kd.heap_slice 5 (Kd.heap_int _)) hrC) HB.out) (fun k hk => ⟨fun hd => by have := (HDN.out k hd).1; omega, Nat.lt_of_lt_of_le hk HB.out.size⟩) (by omega) hry
      rw [hR] at hfl hfo
      dsimp only at hfl hfo
      have HFO := Aside0.mk hfo
      have HRR := Aside0.mk hR
      obtain rfl : m1 = t.length := (Kd.R_reads' HV1.out).1
      clear hrl hr9 hry hrC hfo c2_ hR
      by_cases hE : E = 0
      · subst hE
        simp only [if_true] at hfl
        have HFL := Aside0.mk hfl
        clear hfl
        go_upto_region 9 with (go_at_call 14; (with_reducible refine HFL.out.mono ?_); rintro en wf ⟨v, rfl, hd_, hk_, ho_⟩; (obtain ⟨Av, cv, qv⟩ := Kd.R_slice ho_); generalize List.length _ = nv_ at qv; subst qv; clear hx0; have HDf := Aside0.mk hd_; have HO := Aside0.mk (Kd.R_lower ho_ HB.out.size); replace H9 := Aside0.mk (blk_kept H9.out hk_.kept (fun hd => by have h3 := (HDN.out _ hd).2; have h5 := HLT.out; omega)); replace H48 := Aside0.mk (blk_kept H48.out hk_.kept (fun hd => by have h3 := (HDN.out _ hd).2; have h5 := HLT.out; omega)); replace HV0 := Aside0.mk (Kd.R_kept HV0.out hk_.kept (fun k h1 h2 => h1 h2)); replace HV1 := Aside0.mk (Kd.R_kept HV1.out hk_.kept (fun k h1 h2 => h1 h2)); replace HB := Aside0.mk (HB.out.trans (hk_.to_below w.heap.size (fun k hk => (HDN.out k hk).1) HB.out.size)); clear hd_ hk_ ho_)
        have HOLD := Aside0.mk (show ∀ k, Sv (.slice B0 m0 e0) (.slice B1 t.length e1) (.slice none 0 0) (.slice none 0 0) k → ¬ wf.heap.size ≤ k from fun k hs h => by have h3 := own_old HV0.out HV1.out hs; omega)
        have HW3 := Aside0.mk (show w3.heap.size ≤ wf.heap.size by have h3 := blk_lt H9.out; have h4 := HLT.out; omega)
        go_cut [16, 17] (fun v16 v17 wc => ∃ (g16 : Nat) (D0 : Option Addr) (k0 j0 : Nat) (D1 : Option Addr) (k1 j1 : Nat) (x2 x3 x4 : Int) (D5 : Option Addr) (k5 j5 : Nat) (D6 : Option Addr) (k6 j6 : Nat) (x7 : Bool), v16 = .pointer (some ⟨g16, 0, none⟩) ∧ v17 = .int .i64 0 ∧ Aside0 (wc.heap[g16]? = some (.cells #[(.slice D0 k0 j0), (.slice D1 k1 j1), (.int .u32 x2), (.int .u32 x3), (.int .u32 x4), (.slice D5 k5 j5), (.slice D6 k6 j6), (.bool x7)] 43 (0, 0))) ∧ Aside0 (Fy w wc D gd g9 g48 n S.d S.t #[.slice B0 m0 e0, .slice B1 t.length e1] #[.slice A1 l.length c1, .slice A2 more.length c2] (.slice Av nv_ cv) (.slice D0 k0 j0) (.slice D1 k1 j1) (.slice D6 k6 j6) O O) ∧ Aside0 ((0 : Int) = 0 → x2 = S.first) ∧ Aside0 (w3.heap.size ≤ g16))
        case first =>
          have h90 := (blk_cell H9.out 0).trans rfl
          have h91 := (blk_cell H9.out 1).trans rfl
          have h9l0 := blk_lt H9.out
          go_region_law (first
            | (refine goes_ Try.func16 (by kernel_rfl) rfl #[.slice A lr.length c] rfl rfl rfl (by simp [Act.eval, Act.put]) ?_; (with_reducible refine (rowlocklaw09_texts.calls (lr.length + 1) A c lr (txt lr) wf.drew (Kd.C_below HLR.out.2.2.2 (below_then HB.out HB.out.size (below_drew1 (Below.refl wf.heap.size wf)))) HLR.out.1 (texts_f lr (by have := HLR.out.2.1; omega))).mono ?_); rintro en wt ⟨vt, rfl, ht_, hb_⟩; (obtain ⟨At, ct, qt⟩ := Kd.R_slice ht_); rw [PureSl.txt_len] at qt; subst qt; refine ⟨_, rfl, ?_⟩; clear h90 h91; have HTX := Aside0.mk (Kd.R_lower ht_ (below_drew1 (Below.refl wf.heap.size wf)).size); have H9t := Aside0.mk (blk_below (blk_drew H9.out) hb_); have H48t := Aside0.mk (blk_below (blk_drew H48.out) hb_); have HV0t := Aside0.mk (Kd.R_below (Kd.R_drew HV0.out) hb_); have HV1t := Aside0.mk (Kd.R_below (Kd.R_drew HV1.out) hb_); have HDt := Aside0.mk ((HDf.out.below (below_drew1 (Below.refl wf.heap.size wf))).below hb_); have HOt := Aside0.mk (Kd.R_below (Kd.R_drew HO.out) hb_); have HBt := Aside0.mk (below_then (below_then HB.out HB.out.size (below_drew1 (Below.refl wf.heap.size wf))) (below_then HB.out HB.out.size (below_drew1 (Below.refl wf.heap.size wf))).size hb_); have HWT := Aside0.mk (show wf.heap.size ≤ wt.heap.size from Nat.le_trans (below_drew1 (Below.refl wf.heap.size wf)).size hb_.size); clear ht_ hb_; have h90 := (blk_cell H9t.out 0).trans rfl; have h91 := (blk_cell H9t.out 1).trans rfl; have h9l := blk_lt H9t.out)
            | (refine goes_ Try.func16 (by kernel_rfl) rfl #[.slice A lr.length c] rfl rfl rfl (by simp [Act.eval, Act.put]) ?_; (with_reducible refine (rowlocklaw09_texts.calls (lr.length + 1) A c lr (txt lr) (World.drew (World.alloc wf (.cells #[(.slice none 0 0), (.slice none 0 0), (.int .u32 0), (.int .u32 0), (.int .u32 0), (.slice none 0 0), (.slice none 0 0), (.bool false)] 43))) (Kd.C_below HLR.out.2.2.2 (below_then HB.out HB.out.size (below_drew1 (below_alloc (Below.refl wf.heap.size wf) (.cells #[(.slice none 0 0), (.slice none 0 0), (.int .u32 0), (.int .u32 0), (.int .u32 0), (.slice none 0 0), (.slice none 0 0), (.bool false)] 43))))) HLR.out.1 (texts_f lr (by have := HLR.out.2.1; omega))).mono ?_); rintro en wt ⟨vt, rfl, ht_, hb_⟩; (obtain ⟨At, ct, qt⟩ := Kd.R_slice ht_); rw [PureSl.txt_len] at qt; subst qt; refine ⟨_, rfl, ?_⟩; clear h90 h91; have HTX := Aside0.mk (Kd.R_lower ht_ (below_drew1 (below_alloc (Below.refl wf.heap.size wf) (.cells #[(.slice none 0 0), (.slice none 0 0), (.int .u32 0), (.int .u32 0), (.int .u32 0), (.slice none 0 0), (.slice none 0 0), (.bool false)] 43))).size); have H9t := Aside0.mk (blk_below (blk_drew (blk_alloc H9.out (.cells #[(.slice none 0 0), (.slice none 0 0), (.int .u32 0), (.int .u32 0), (.int .u32 0), (.slice none 0 0), (.slice none 0 0), (.bool false)] 43))) hb_); have H48t := Aside0.mk (blk_below (blk_drew (blk_alloc H48.out (.cells #[(.slice none 0 0), (.slice none 0 0), (.int .u32 0), (.int .u32 0), (.int .u32 0), (.slice none 0 0), (.slice none 0 0), (.bool false)] 43))) hb_); have HV0t := Aside0.mk (Kd.R_below (Kd.R_drew (Kd.R_alloc HV0.out (.cells #[(.slice none 0 0), (.slice none 0 0), (.int .u32 0), (.int .u32 0), (.int .u32 0), (.slice none 0 0), (.slice none 0 0), (.bool false)] 43))) hb_); have HV1t := Aside0.mk (Kd.R_below (Kd.R_drew (Kd.R_alloc HV1.out (.cells #[(.slice none 0 0), (.slice none 0 0), (.int .u32 0), (.int .u32 0), (.int .u32 0), (.slice none 0 0), (.slice none 0 0), (.bool false)] 43))) hb_); have HDt := Aside0.mk ((HDf.out.below (below_drew1 (below_alloc (Below.refl wf.heap.size wf) (.cells #[(.slice none 0 0), (.slice none 0 0), (.int .u32 0), (.int .u32 0), (.int .u32 0), (.slice none 0 0), (.slice none 0 0), (.bool false)] 43)))).below hb_); have HOt := Aside0.mk (Kd.R_below (Kd.R_drew (Kd.R_alloc HO.out (.cells #[(.slice none 0 0), (.slice none 0 0), (.int .u32 0), (.int .u32 0), (.int .u32 0), (.slice none 0 0), (.slice none 0 0), (.bool false)] 43))) hb_); have HBt := Aside0.mk (below_then (below_then HB.out HB.out.size (below_drew1 (below_alloc (Below.refl wf.heap.size wf) (.cells #[(.slice none 0 0), (.slice none 0 0), (.int .u32 0), (.int .u32 0), (.int .u32 0), (.slice none 0 0), (.slice none 0 0), (.bool false)] 43)))) (below_then HB.out HB.out.size (below_drew1 (below_alloc (Below.refl wf.heap.size wf) (.cells #[(.slice none 0 0), (.slice none 0 0), (.int .u32 0), (.int .u32 0), (.int .u32 0), (.slice none 0 0), (.slice none 0 0), (.bool false)] 43)))).size hb_); have HZt := Aside0.mk (blk_below (blk_drew (blk_new wf (.cells #[(.slice none 0 0), (.slice none 0 0), (.int .u32 0), (.int .u32 0), (.int .u32 0), (.slice none 0 0), (.slice none 0 0), (.bool false)] 43))) hb_); have HWT := Aside0.mk (show wf.heap.size ≤ wt.heap.size from Nat.le_trans (below_drew1 (below_alloc (Below.refl wf.heap.size wf) (.cells #[(.slice none 0 0), (.slice none 0 0), (.int .u32 0), (.int .u32 0), (.int .u32 0), (.slice none 0 0), (.slice none 0 0), (.bool false)] 43))).size hb_.size); clear ht_ hb_; have h90 := (blk_cell H9t.out 0).trans rfl; have h91 := (blk_cell H9t.out 1).trans rfl; have h9l := blk_lt H9t.out)
            | (refine goes_ Try.func15 (by kernel_rfl) rfl #[.agg #[.slice B0 m0 e0, .slice B1 t.length e1], .slice At lr.length ct] rfl rfl rfl (by simp [Act.eval, Act.put]) ?_; have H9u := Aside0.mk H9t.out; have H48u := Aside0.mk H48t.out; have HV0u := Aside0.mk HV0t.out; have HV1u := Aside0.mk HV1t.out; have HDu := Aside0.mk HDt.out; have HOu := Aside0.mk HOt.out; have HBu := Aside0.mk HBt.out; (try (have HZu := HZt; have HGZ := Aside0.mk (And.intro HW3.out HB.out.size))); (have hrf := rfill_ok (w0 := w) (w := wt) (d := d) (t := t) (n := n) (A0 := B0) (n0 := m0) (c0 := e0) (A1 := B1) (c1 := e1) (AL := At) (cL := ct) (okr := fun k => wf.heap.size ≤ k ∧ k < wt.heap.size) lr HBu.out (Kd.R_mono HV0u.out (fun _ _ => trivial)) (Kd.R_mono HV1u.out (fun _ _ => trivial)) HD.out.2.1 (Kd.F_below (Kd.F_mono (Kd.R_F (Kd.R_bound HTX.out)) (fun k hk => ⟨hk.2.1, hk.2.2.1⟩)) (Below.refl _ _)) (fun k hk hs => HOLD.out k hs hk.1) (by have := HLR.out.2.1; omega) HH.out HLR.out.2.2.1); rw [HRR.out] at hrf; dsimp only at hrf; (with_reducible refine hrf.mono ?_); clear hrf; rintro en wq hq_; unfold Rp at hq_; obtain ⟨D0, k0, j0, D1, k1, j1, x2, x3, x4, D5, k5, j5, D6, k6, j6, x7, rfl, hr0, hr1, hr6, hx2, hb_, hk_, hs_⟩ := hq_; refine ⟨_, rfl, ?_⟩; clear h90 h91; have H9q := Aside0.mk (blk_kept H9u.out hk_ (own_ne HV0u.out HV1u.out H9u.out (by decide))); have H48q := Aside0.mk (blk_kept H48u.out hk_ (own_ne HV0u.out HV1u.out H48u.out (by decide))); have HDq := Aside0.mk (HDu.out.kept hk_ (fun k hd hs => own_not HV0u.out HV1u.out hs hd)); have HOq := Aside0.mk (Kd.R_mono (Kd.R_kept (Kd.R_tight rfl HOu.out) hk_ (fun k h5 hs => hs.elim (fun e => own_types HOu.out HV0u.out (by decide) k h5.symm e.symm) (fun hs => hs.elim (fun e => own_types HOu.out HV1u.out (by decide) k h5.symm e.symm) (fun hs => hs.elim (fun e => by cases e) (fun e => by cases e))))) (fun _ _ => trivial)); have hnd : ∀ k, Sv (.slice D0 k0 j0) (.slice D1 k1 j1) (.slice none 0 0) (.slice D6 k6 j6) k → ¬ D k := (fun k hs hd => (hs_ k hs).elim (fun h => own_not HV0u.out HV1u.out h hd) (fun h => by have h3 := (HDN.out k hd).2; have h4 := blk_lt H9u.out; have h5 := HLT.out; omega)); have HV0q := Aside0.mk (Kd.R_mono (Kd.R_tight rfl hr0) (fun k hk => hnd k (.inl hk))); have HV1q := Aside0.mk (Kd.R_mono (Kd.R_tight rfl hr1) (fun k hk => hnd k (.inr (.inl hk)))); have HY := Aside0.mk (Fy.mk HDq.out H9q.out H48q.out HOq.out HV0q.out HV1q.out hr6 hb_); have HX2 := Aside0.mk hx2; have HL9 := Aside0.mk (show w3.heap.size ≤ wq.heap.size by have h3 := blk_lt H9q.out; have h4 := HLT.out; omega); (try have HZq := Aside0.mk (blk_kept HZu.out hk_ (own_ne HV0u.out HV1u.out HZu.out (by decide)))); clear hr0 hr1 hr6 hx2 hb_ hk_ hs_ hnd; (try (have z0 := (blk_cell HZq.out 0).trans rfl; have zf0 := blk_frozen HZq.out 0; have z1 := (blk_cell HZq.out 1).trans rfl; have zf1 := blk_frozen HZq.out 1; have z2 := (blk_cell HZq.out 2).trans rfl; have zf2 := blk_frozen HZq.out 2; have z3 := (blk_cell HZq.out 3).trans rfl; have zf3 := blk_frozen HZq.out 3; have z4 := (blk_cell HZq.out 4).trans rfl; have zf4 := blk_frozen HZq.out 4; have z5 := (blk_cell HZq.out 5).trans rfl; have zf5 := blk_frozen HZq.out 5; have z6 := (blk_cell HZq.out 6).trans rfl; have zf6 := blk_frozen HZq.out 6; have z7 := (blk_cell HZq.out 7).trans rfl; have zf7 := blk_frozen HZq.out 7; have zl := blk_lt HZq.out)))
            | (refine goes_ Try.func15 (by kernel_rfl) rfl #[.agg #[.slice B0 m0 e0, .slice B1 t.length e1], .slice At lr.length ct] rfl rfl rfl (by simp [Act.eval, Act.put]) ?_; have H9u := Aside0.mk (blk_alloc H9t.out (.cells #[(.slice none 0 0), (.slice none 0 0), (.int .u32 0), (.int .u32 0), (.int .u32 0), (.slice none 0 0), (.slice none 0 0), (.bool false)] 43)); have H48u := Aside0.mk (blk_alloc H48t.out (.cells #[(.slice none 0 0), (.slice none 0 0), (.int .u32 0), (.int .u32 0), (.int .u32 0), (.slice none 0 0), (.slice none 0 0), (.bool false)] 43)); have HV0u := Aside0.mk (Kd.R_alloc HV0t.out (.cells #[(.slice none 0 0), (.slice none 0 0), (.int .u32 0), (.int .u32 0), (.int .u32 0), (.slice none 0 0), (.slice none 0 0), (.bool false)] 43)); have HV1u := Aside0.mk (Kd.R_alloc HV1t.out (.cells #[(.slice none 0 0), (.slice none 0 0), (.int .u32 0), (.int .u32 0), (.int .u32 0), (.slice none 0 0), (.slice none 0 0), (.bool false)] 43)); have HDu := Aside0.mk (HDt.out.alloc (.cells #[(.slice none 0 0), (.slice none 0 0), (.int .u32 0), (.int .u32 0), (.int .u32 0), (.slice none 0 0), (.slice none 0 0), (.bool false)] 43)); have HOu := Aside0.mk (Kd.R_alloc HOt.out (.cells #[(.slice none 0 0), (.slice none 0 0), (.int .u32 0), (.int .u32 0), (.int .u32 0), (.slice none 0 0), (.slice none 0 0), (.bool false)] 43)); have HBu := Aside0.mk (below_then HBt.out HBt.out.size (below_alloc (Below.refl _ _) (.cells #[(.slice none 0 0), (.slice none 0 0), (.int .u32 0), (.int .u32 0), (.int .u32 0), (.slice none 0 0), (.slice none 0 0), (.bool false)] 43))); have HZu := Aside0.mk (blk_new wt (.cells #[(.slice none 0 0), (.slice none 0 0), (.int .u32 0), (.int .u32 0), (.int .u32 0), (.slice none 0 0), (.slice none 0 0), (.bool false)] 43)); have HGZ := Aside0.mk (And.intro (Nat.le_trans HW3.out HWT.out) HBt.out.size); (have hrf := rfill_ok (w0 := w) (w := (World.alloc wt (.cells #[(.slice none 0 0), (.slice none 0 0), (.int .u32 0), (.int .u32 0), (.int .u32 0), (.slice none 0 0), (.slice none 0 0), (.bool false)] 43))) (d := d) (t := t) (n := n) (A0 := B0) (n0 := m0) (c0 := e0) (A1 := B1) (c1 := e1) (AL := At) (cL := ct) (okr := fun k => wf.heap.size ≤ k ∧ k < wt.heap.size) lr HBu.out (Kd.R_mono HV0u.out (fun _ _ => trivial)) (Kd.R_mono HV1u.out (fun _ _ => trivial)) HD.out.2.1 (Kd.F_below (Kd.F_mono (Kd.R_F (Kd.R_bound HTX.out)) (fun k hk => ⟨hk.2.1, hk.2.2.1⟩)) (below_alloc (Below.refl _ _) (.cells #[(.slice none 0 0), (.slice none 0 0), (.int .u32 0), (.int .u32 0), (.int .u32 0), (.slice none 0 0), (.slice none 0 0), (.bool false)] 43))) (fun k hk hs => HOLD.out k hs hk.1) (by have := HLR.out.2.1; omega) HH.out HLR.out.2.2.1); rw [HRR.out] at hrf; dsimp only at hrf; (with_reducible refine hrf.mono ?_); clear hrf; rintro en wq hq_; unfold Rp at hq_; obtain ⟨D0, k0, j0, D1, k1, j1, x2, x3, x4, D5, k5, j5, D6, k6, j6, x7, rfl, hr0, hr1, hr6, hx2, hb_, hk_, hs_⟩ := hq_; refine ⟨_, rfl, ?_⟩; clear h90 h91; have H9q := Aside0.mk (blk_kept H9u.out hk_ (own_ne HV0u.out HV1u.out H9u.out (by decide))); have H48q := Aside0.mk (blk_kept H48u.out hk_ (own_ne HV0u.out HV1u.out H48u.out (by decide))); have HDq := Aside0.mk (HDu.out.kept hk_ (fun k hd hs => own_not HV0u.out HV1u.out hs hd)); have HOq := Aside0.mk (Kd.R_mono (Kd.R_kept (Kd.R_tight rfl HOu.out) hk_ (fun k h5 hs => hs.elim (fun e => own_types HOu.out HV0u.out (by decide) k h5.symm e.symm) (fun hs => hs.elim (fun e => own_types HOu.out HV1u.out (by decide) k h5.symm e.symm) (fun hs => hs.elim (fun e => by cases e) (fun e => by cases e))))) (fun _ _ => trivial)); have hnd : ∀ k, Sv (.slice D0 k0 j0) (.slice D1 k1 j1) (.slice none 0 0) (.slice D6 k6 j6) k → ¬ D k := (fun k hs hd => (hs_ k hs).elim (fun h => own_not HV0u.out HV1u.out h hd) (fun h => by have h3 := (HDN.out k hd).2; have h4 := blk_lt H9u.out; have h5 := HLT.out; omega)); have HV0q := Aside0.mk (Kd.R_mono (Kd.R_tight rfl hr0) (fun k hk => hnd k (.inl hk))); have HV1q := Aside0.mk (Kd.R_mono (Kd.R_tight rfl hr1) (fun k hk => hnd k (.inr (.inl hk)))); have HY := Aside0.mk (Fy.mk HDq.out H9q.out H48q.out HOq.out HV0q.out HV1q.out hr6 hb_); have HX2 := Aside0.mk hx2; have HL9 := Aside0.mk (show w3.heap.size ≤ wq.heap.size by have h3 := blk_lt H9q.out; have h4 := HLT.out; omega); (try have HZq := Aside0.mk (blk_kept HZu.out hk_ (own_ne HV0u.out HV1u.out HZu.out (by decide)))); clear hr0 hr1 hr6 hx2 hb_ hk_ hs_ hnd; (try (have z0 := (blk_cell HZq.out 0).trans rfl; have zf0 := blk_frozen HZq.out 0; have z1 := (blk_cell HZq.out 1).trans rfl; have zf1 := blk_frozen HZq.out 1; have z2 := (blk_cell HZq.out 2).trans rfl; have zf2 := blk_frozen HZq.out 2; have z3 := (blk_cell HZq.out 3).trans rfl; have zf3 := blk_frozen HZq.out 3; have z4 := (blk_cell HZq.out 4).trans rfl; have zf4 := blk_frozen HZq.out 4; have z5 := (blk_cell HZq.out 5).trans rfl; have zf5 := blk_frozen HZq.out 5; have z6 := (blk_cell HZq.out 6).trans rfl; have zf6 := blk_frozen HZq.out 6; have z7 := (blk_cell HZq.out 7).trans rfl; have zf7 := blk_frozen HZq.out 7; have zl := blk_lt HZq.out))))
          all_goals
            go_wp2
            go_meet
            first
              | (have hb := HY.out.box HZq.out (fun k hd e => by have h3 := (HDN.out k hd).2; have h4 := HGZ.out.1; omega) HGZ.out.2 (.slice D0 k0 j0) (.slice D1 k1 j1) (.int .u32 x2) (.int .u32 x3) (.int .u32 x4) (.slice D5 k5 j5) (.slice D6 k6 j6) (.bool x7); exact ⟨_, D0, k0, j0, D1, k1, j1, x2, x3, x4, D5, k5, j5, D6, k6, j6, x7, rfl, rfl, ⟨hb.1⟩, ⟨hb.2⟩, HX2, ⟨HGZ.out.1⟩⟩)
              | exact ⟨_, D0, k0, j0, D1, k1, j1, x2, x3, x4, D5, k5, j5, D6, k6, j6, x7, rfl, rfl, ⟨blk_new wq _⟩, ⟨HY.out.alloc _⟩, HX2, HL9⟩
        case rest =>
          obtain ⟨g16, D0, k0, j0, D1, k1, j1, x2, x3, x4, D5, k5, j5, D6, k6, j6, x7, rfl, rfl, H16, HY, HX2, HG⟩ := hcut
          clear H9 H48 HO HV0 HV1 HB HFL HDf
          obtain ⟨gko, rfl⟩ : ∃ x, x = gk := ⟨_, rfl⟩
          have hSn : S.t.length = n := HFO.out.1.trans HD.out.2.1
          have HSN := Aside0.mk hSn
          obtain rfl : n = k1 := ((Kd.R_reads' HY.out.h1).1.trans hSn).symm
          obtain rfl : n = k0 := ((Kd.R_reads' HY.out.h0).1.trans (pgs_len _ _)).symm
          clear hSn
          have ha0 := (blk_cell H16.out 0).trans rfl
          have ha1 := (blk_cell H16.out 1).trans rfl
          have h90 := (blk_cell HY.out.h9 0).trans rfl
          have h91 := (blk_cell HY.out.h9 1).trans rfl
          have hf0 := blk_frozen HY.out.h9 0
          have hf1 := blk_frozen HY.out.h9 1
          have h9l := blk_lt HY.out.h9
          go_upto_region 11 with fail
          clear ha0 ha1 h90 h91 hf0 hf1 h9l
          have hp9 := HY.out.put9 H16.out (fun k hd e => by have h3 := (HDN.out k hd).2; have h4 := HLT.out; omega) (show w.heap.size ≤ g9 from HGW.out) (.slice D0 n j0) (.slice D1 n j1)
          replace HY := Aside0.mk hp9.1
          replace H16 := Aside0.mk hp9.2
          clear hp9
          generalize (World.setCell (World.setCell wc ⟨g9, 0, none⟩ (.slice D0 n j0)) ⟨g9, 1, none⟩ (.slice D1 n j1)) = ws at HY H16 ⊢
          have hsm := same_ok HY.out.dk HFO.out.2 D0 j0 D1 j1 (by rw [HSN.out]; exact (Kd.R_reads' HY.out.h0).2.2) (by rw [HSN.out]; have h3 := Kd.R_reads' HY.out.h0; rw [← h3.1]; exact h3.2.1) (Kd.R_reads' HY.out.h1).2.2 (by have h3 := Kd.R_reads' HY.out.h1; rw [← h3.1]; exact h3.2.1)
          rw [HSN.out] at hsm
          have HSM := Aside0.mk hsm
          clear hsm
          have h90 := (blk_cell HY.out.h9 0).trans rfl
          have h91 := (blk_cell HY.out.h9 1).trans rfl
          obtain rfl : x2 = S.first := HX2.out rfl
          obtain rfl : nv_ = O.length := (Kd.R_reads' HY.out.ho).1
          obtain rfl : k6 = O.length := (Kd.R_reads' HY.out.h6).1
          have hn1 : (S.first != S.first) = false := by simp
          have hn2 : ((O.length : Int) != (O.length : Int)) = false := by simp
          go_upto_region 18 with (go_at_call 17; (with_reducible refine HSM.out.mono ?_); rintro en wy ⟨rfl, hb_⟩; clear h90 h91; replace HY := Aside0.mk (HY.out.below hb_); replace H16 := Aside0.mk (blk_below H16.out hb_); clear hb_; have ha2 := (blk_cell H16.out 2).trans rfl; have ha6 := (blk_cell H16.out 6).trans rfl)
          clear ha2 hn1 hn2
          have nq := nq50
          go_wp2
          go_loopg [102] O.length (fun kq v102 w' => ∃ j : Int, v102 = .int .i64 j ∧ Aside0 (0 ≤ j ∧ (kq : Int) + j = (O.length : Int)) ∧ Aside0 (Below wy.heap.size wy w'))
          case atStart => exact ⟨0, rfl, ⟨by omega⟩, ⟨Below.refl _ _⟩⟩
          case round =>
            clear ha6
            obtain ⟨j, rfl, HJ, HBJ⟩ := hrel
            have HYJ := Aside0.mk (HY.out.below HBJ.out)
            have H16J := Aside0.mk (blk_below H16.out HBJ.out)
            have ha6 := (blk_cell H16J.out 6).trans rfl
            by_cases cj : j < (O.length : Int)
            · have cjb : decide (j < (O.length : Int)) = true := decide_eq_true cj
              have p9j : (0 ≤ j) = True := eq_true HJ.out.1
              have q9j : (j < (O.length : Int)) = True := eq_true cj
              have wj : wrap64 (j + 1) = j + 1 := wr_in _ (by have := HJ.out; have := HOL.out; omega)
              obtain ⟨ad1, e1_, hc1, hc2⟩ := at_T50 (Kd.R_reads' HYJ.out.ho).2.2 j HJ.out.1 cj
              obtain ⟨ad2, e2_, hc3, hc4⟩ := at_T50 (Kd.R_reads' HYJ.out.h6).2.2 j HJ.out.1 cj
              subst e1_ e2_
              generalize rd_T50 O j = x50 at hc1 hc2 hc3 hc4
              have HCJ := Aside0.mk cj
              clear cj
              go_upto_region 21 with fail
              go_quiet (fail)
              go_wp2
              go_roundg (gk - 1)
              case measure => have h1 := HJ.out; have h2 := HCJ.out; omega
              case rel =>
                have h1 := HJ.out
                have h2 := HCJ.out
                exact ⟨j + 1, by first | rfl | rw [wj], ⟨by omega⟩, ⟨pw_below_drewN HBJ.out _⟩⟩
            · have cjb : decide (j < (O.length : Int)) = false := decide_eq_false cj
              clear cj ha6
              go_wp2
              go_roundg (gko - 1)
              case measure => have h1 := HI.out; have h2 := HC2.out; omega
              case rel =>
                have h1 := HI.out
                have h2 := HC2.out
                exact ⟨i + 1, S.d, S.t, D0, n, j0, D1, n, j1, by first | rfl | rw [w2_], ⟨by omega⟩, ⟨HYJ.out.dk, HSN.out, HFO.out.2⟩, ⟨HYJ.out.h9⟩, ⟨HYJ.out.h48⟩, ⟨HYJ.out.h0⟩, ⟨HYJ.out.h1⟩, ⟨HYJ.out.hb⟩⟩
      · simp only [if_neg hE] at hfl
        have HFL := Aside0.mk hfl
        have HEN := Aside0.mk hE
        clear hfl hE
        go_upto_region 9 with (go_at_call 14; (with_reducible refine HFL.out.mono ?_); rintro en wf ⟨v, rfl, hd_, hk_, ho_⟩; (obtain ⟨Av, cv, qv⟩ := Kd.R_slice ho_); generalize List.length _ = nv_ at qv; subst qv; clear hx0; have HDf := Aside0.mk hd_; have HO := Aside0.mk (Kd.R_lower ho_ HB.out.size); replace H9 := Aside0.mk (blk_kept H9.out hk_.kept (fun hd => by have h3 := (HDN.out _ hd).2; have h5 := HLT.out; omega)); replace H48 := Aside0.mk (blk_kept H48.out hk_.kept (fun hd => by have h3 := (HDN.out _ hd).2; have h5 := HLT.out; omega)); replace HV0 := Aside0.mk (Kd.R_kept HV0.out hk_.kept (fun k h1 h2 => h1 h2)); replace HV1 := Aside0.mk (Kd.R_kept HV1.out hk_.kept (fun k h1 h2 => h1 h2)); replace HB := Aside0.mk (HB.out.trans (hk_.to_below w.heap.size (fun k hk => (HDN.out k hk).1) HB.out.size)); clear hd_ hk_ ho_)
        have HOLD := Aside0.mk (show ∀ k, Sv (.slice B0 m0 e0) (.slice B1 t.length e1) (.slice none 0 0) (.slice none 0 0) k → ¬ wf.heap.size ≤ k from fun k hs h => by have h3 := own_old HV0.out HV1.out hs; omega)
        have HW3 := Aside0.mk (show w3.heap.size ≤ wf.heap.size by have h3 := blk_lt H9.out; have h4 := HLT.out; omega)
        go_cut [16, 17] (fun v16 v17 wc => ∃ (g16 : Nat) (D0 : Option Addr) (k0 j0 : Nat) (D1 : Option Addr) (k1 j1 : Nat) (x2 x3 x4 : Int) (D5 : Option Addr) (k5 j5 : Nat) (D6 : Option Addr) (k6 j6 : Nat) (x7 : Bool), v16 = .pointer (some ⟨g16, 0, none⟩) ∧ v17 = .int .i64 E ∧ Aside0 (wc.heap[g16]? = some (.cells #[(.slice D0 k0 j0), (.slice D1 k1 j1), (.int .u32 x2), (.int .u32 x3), (.int .u32 x4), (.slice D5 k5 j5), (.slice D6 k6 j6), (.bool x7)] 43 (0, 0))) ∧ Aside0 (Fy w wc D gd g9 g48 n S.d S.t #[.slice B0 m0 e0, .slice B1 t.length e1] #[.slice A1 l.length c1, .slice A2 more.length c2] (.slice Av nv_ cv) (.slice D0 k0 j0) (.slice D1 k1 j1) (.slice D6 k6 j6) [] O) ∧ Aside0 ((E : Int) = 0 → x2 = S.first) ∧ Aside0 (w3.heap.size ≤ g16))
        case first =>
          have h90 := (blk_cell H9.out 0).trans rfl
          have h91 := (blk_cell H9.out 1).trans rfl
          have h9l0 := blk_lt H9.out
          go_region_law (first
            | (refine goes_ Try.func16 (by kernel_rfl) rfl #[.slice A lr.length c] rfl rfl rfl (by simp [Act.eval, Act.put]) ?_; (with_reducible refine (rowlocklaw09_texts.calls (lr.length + 1) A c lr (txt lr) wf.drew (Kd.C_below HLR.out.2.2.2 (below_then HB.out HB.out.size (below_drew1 (Below.refl wf.heap.size wf)))) HLR.out.1 (texts_f lr (by have := HLR.out.2.1; omega))).mono ?_); rintro en wt ⟨vt, rfl, ht_, hb_⟩; (obtain ⟨At, ct, qt⟩ := Kd.R_slice ht_); rw [PureSl.txt_len] at qt; subst qt; refine ⟨_, rfl, ?_⟩; clear h90 h91; have HTX := Aside0.mk (Kd.R_lower ht_ (below_drew1 (Below.refl wf.heap.size wf)).size); have H9t := Aside0.mk (blk_below (blk_drew H9.out) hb_); have H48t := Aside0.mk (blk_below (blk_drew H48.out) hb_); have HV0t := Aside0.mk (Kd.R_below (Kd.R_drew HV0.out) hb_); have HV1t := Aside0.mk (Kd.R_below (Kd.R_drew HV1.out) hb_); have HDt := Aside0.mk ((HDf.out.below (below_drew1 (Below.refl wf.heap.size wf))).below hb_); have HOt := Aside0.mk (Kd.R_below (Kd.R_drew HO.out) hb_); have HBt := Aside0.mk (below_then (below_then HB.out HB.out.size (below_drew1 (Below.refl wf.heap.size wf))) (below_then HB.out HB.out.size (below_drew1 (Below.refl wf.heap.size wf))).size hb_); have HWT := Aside0.mk (show wf.heap.size ≤ wt.heap.size from Nat.le_trans (below_drew1 (Below.refl wf.heap.size wf)).size hb_.size); clear ht_ hb_; have h90 := (blk_cell H9t.out 0).trans rfl; have h91 := (blk_cell H9t.out 1).trans rfl; have h9l := blk_lt H9t.out)
            | (refine goes_ Try.func16 (by kernel_rfl) rfl #[.slice A lr.length c] rfl rfl rfl (by simp [Act.eval, Act.put]) ?_; (with_reducible refine (rowlocklaw09_texts.calls (lr.length + 1) A c lr (txt lr) (World.drew (World.alloc wf (.cells #[(.slice none 0 0), (.slice none 0 0), (.int .u32 0), (.int .u32 0), (.int .u32 0), (.slice none 0 0), (.slice none 0 0), (.bool false)] 43))) (Kd.C_below HLR.out.2.2.2 (below_then HB.out HB.out.size (below_drew1 (below_alloc (Below.refl wf.heap.size wf) (.cells #[(.slice none 0 0), (.slice none 0 0), (.int .u32 0), (.int .u32 0), (.int .u32 0), (.slice none 0 0), (.slice none 0 0), (.bool false)] 43))))) HLR.out.1 (texts_f lr (by have := HLR.out.2.1; omega))).mono ?_); rintro en wt ⟨vt, rfl, ht_, hb_⟩; (obtain ⟨At, ct, qt⟩ := Kd.R_slice ht_); rw [PureSl.txt_len] at qt; subst qt; refine ⟨_, rfl, ?_⟩; clear h90 h91; have HTX := Aside0.mk (Kd.R_lower ht_ (below_drew1 (below_alloc (Below.refl wf.heap.size wf) (.cells #[(.slice none 0 0), (.slice none 0 0), (.int .u32 0), (.int .u32 0), (.int .u32 0), (.slice none 0 0), (.slice none 0 0), (.bool false)] 43))).size); have H9t := Aside0.mk (blk_below (blk_drew (blk_alloc H9.out (.cells #[(.slice none 0 0), (.slice none 0 0), (.int .u32 0), (.int .u32 0), (.int .u32 0), (.slice none 0 0), (.slice none 0 0), (.bool false)] 43))) hb_); have H48t := Aside0.mk (blk_below (blk_drew (blk_alloc H48.out (.cells #[(.slice none 0 0), (.slice none 0 0), (.int .u32 0), (.int .u32 0), (.int .u32 0), (.slice none 0 0), (.slice none 0 0), (.bool false)] 43))) hb_); have HV0t := Aside0.mk (Kd.R_below (Kd.R_drew (Kd.R_alloc HV0.out (.cells #[(.slice none 0 0), (.slice none 0 0), (.int .u32 0), (.int .u32 0), (.int .u32 0), (.slice none 0 0), (.slice none 0 0), (.bool false)] 43))) hb_); have HV1t := Aside0.mk (Kd.R_below (Kd.R_drew (Kd.R_alloc HV1.out (.cells #[(.slice none 0 0), (.slice none 0 0), (.int .u32 0), (.int .u32 0), (.int .u32 0), (.slice none 0 0), (.slice none 0 0), (.bool false)] 43))) hb_); have HDt := Aside0.mk ((HDf.out.below (below_drew1 (below_alloc (Below.refl wf.heap.size wf) (.cells #[(.slice none 0 0), (.slice none 0 0), (.int .u32 0), (.int .u32 0), (.int .u32 0), (.slice none 0 0), (.slice none 0 0), (.bool false)] 43)))).below hb_); have HOt := Aside0.mk (Kd.R_below (Kd.R_drew (Kd.R_alloc HO.out (.cells #[(.slice none 0 0), (.slice none 0 0), (.int .u32 0), (.int .u32 0), (.int .u32 0), (.slice none 0 0), (.slice none 0 0), (.bool false)] 43))) hb_); have HBt := Aside0.mk (below_then (below_then HB.out HB.out.size (below_drew1 (below_alloc (Below.refl wf.heap.size wf) (.cells #[(.slice none 0 0), (.slice none 0 0), (.int .u32 0), (.int .u32 0), (.int .u32 0), (.slice none 0 0), (.slice none 0 0), (.bool false)] 43)))) (below_then HB.out HB.out.size (below_drew1 (below_alloc (Below.refl wf.heap.size wf) (.cells #[(.slice none 0 0), (.slice none 0 0), (.int .u32 0), (.int .u32 0), (.int .u32 0), (.slice none 0 0), (.slice none 0 0), (.bool false)] 43)))).size hb_); have HZt := Aside0.mk (blk_below (blk_drew (blk_new wf (.cells #[(.slice none 0 0), (.slice none 0 0), (.int .u32 0), (.int .u32 0), (.int .u32 0), (.slice none 0 0), (.slice none 0 0), (.bool false)] 43))) hb_); have HWT := Aside0.mk (show wf.heap.size ≤ wt.heap.size from Nat.le_trans (below_drew1 (below_alloc (Below.refl wf.heap.size wf) (.cells #[(.slice none 0 0), (.slice none 0 0), (.int .u32 0), (.int .u32 0), (.int .u32 0), (.slice none 0 0), (.slice none 0 0), (.bool false)] 43))).size hb_.size); clear ht_ hb_; have h90 := (blk_cell H9t.out 0).trans rfl; have h91 := (blk_cell H9t.out 1).trans rfl; have h9l := blk_lt H9t.out)
            | (refine goes_ Try.func15 (by kernel_rfl) rfl #[.agg #[.slice B0 m0 e0, .slice B1 t.length e1], .slice At lr.length ct] rfl rfl rfl (by simp [Act.eval, Act.put]) ?_; have H9u := Aside0.mk H9t.out; have H48u := Aside0.mk H48t.out; have HV0u := Aside0.mk HV0t.out; have HV1u := Aside0.mk HV1t.out; have HDu := Aside0.mk HDt.out; have HOu := Aside0.mk HOt.out; have HBu := Aside0.mk HBt.out; (try (have HZu := HZt; have HGZ := Aside0.mk (And.intro HW3.out HB.out.size))); (have hrf := rfill_ok (w0 := w) (w := wt) (d := d) (t := t) (n := n) (A0 := B0) (n0 := m0) (c0 := e0) (A1 := B1) (c1 := e1) (AL := At) (cL := ct) (okr := fun k => wf.heap.size ≤ k ∧ k < wt.heap.size) lr HBu.out (Kd.R_mono HV0u.out (fun _ _ => trivial)) (Kd.R_mono HV1u.out (fun _ _ => trivial)) HD.out.2.1 (Kd.F_below (Kd.F_mono (Kd.R_F (Kd.R_bound HTX.out)) (fun k hk => ⟨hk.2.1, hk.2.2.1⟩)) (Below.refl _ _)) (fun k hk hs => HOLD.out k hs hk.1) (by have := HLR.out.2.1; omega) HH.out HLR.out.2.2.1); rw [HRR.out] at hrf; dsimp only at hrf; (with_reducible refine hrf.mono ?_); clear hrf; rintro en wq hq_; unfold Rp at hq_; obtain ⟨D0, k0, j0, D1, k1, j1, x2, x3, x4, D5, k5, j5, D6, k6, j6, x7, rfl, hr0, hr1, hr6, hx2, hb_, hk_, hs_⟩ := hq_; refine ⟨_, rfl, ?_⟩; clear h90 h91; have H9q := Aside0.mk (blk_kept H9u.out hk_ (own_ne HV0u.out HV1u.out H9u.out (by decide))); have H48q := Aside0.mk (blk_kept H48u.out hk_ (own_ne HV0u.out HV1u.out H48u.out (by decide))); have HDq := Aside0.mk (HDu.out.kept hk_ (fun k hd hs => own_not HV0u.out HV1u.out hs hd)); have HOq := Aside0.mk (Kd.R_mono (Kd.R_kept (Kd.R_tight rfl HOu.out) hk_ (fun k h5 hs => hs.elim (fun e => own_types HOu.out HV0u.out (by decide) k h5.symm e.symm) (fun hs => hs.elim (fun e => own_types HOu.out HV1u.out (by decide) k h5.symm e.symm) (fun hs => hs.elim (fun e => by cases e) (fun e => by cases e))))) (fun _ _ => trivial)); have hnd : ∀ k, Sv (.slice D0 k0 j0) (.slice D1 k1 j1) (.slice none 0 0) (.slice D6 k6 j6) k → ¬ D k := (fun k hs hd => (hs_ k hs).elim (fun h => own_not HV0u.out HV1u.out h hd) (fun h => by have h3 := (HDN.out k hd).2; have h4 := blk_lt H9u.out; have h5 := HLT.out; omega)); have HV0q := Aside0.mk (Kd.R_mono (Kd.R_tight rfl hr0) (fun k hk => hnd k (.inl hk))); have HV1q := Aside0.mk (Kd.R_mono (Kd.R_tight rfl hr1) (fun k hk => hnd k (.inr (.inl hk)))); have HY := Aside0.mk (Fy.mk HDq.out H9q.out H48q.out HOq.out HV0q.out HV1q.out hr6 hb_); have HX2 := Aside0.mk hx2; have HL9 := Aside0.mk (show w3.heap.size ≤ wq.heap.size by have h3 := blk_lt H9q.out; have h4 := HLT.out; omega); (try have HZq := Aside0.mk (blk_kept HZu.out hk_ (own_ne HV0u.out HV1u.out HZu.out (by decide)))); clear hr0 hr1 hr6 hx2 hb_ hk_ hs_ hnd; (try (have z0 := (blk_cell HZq.out 0).trans rfl; have zf0 := blk_frozen HZq.out 0; have z1 := (blk_cell HZq.out 1).trans rfl; have zf1 := blk_frozen HZq.out 1; have z2 := (blk_cell HZq.out 2).trans rfl; have zf2 := blk_frozen HZq.out 2; have z3 := (blk_cell HZq.out 3).trans rfl; have zf3 := blk_frozen HZq.out 3; have z4 := (blk_cell HZq.out 4).trans rfl; have zf4 := blk_frozen HZq.out 4; have z5 := (blk_cell HZq.out 5).trans rfl; have zf5 := blk_frozen HZq.out 5; have z6 := (blk_cell HZq.out 6).trans rfl; have zf6 := blk_frozen HZq.out 6; have z7 := (blk_cell HZq.out 7).trans rfl; have zf7 := blk_frozen HZq.out 7; have zl := blk_lt HZq.out)))
            | (refine goes_ Try.func15 (by kernel_rfl) rfl #[.agg #[.slice B0 m0 e0, .slice B1 t.length e1], .slice At lr.length ct] rfl rfl rfl (by simp [Act.eval, Act.put]) ?_; have H9u := Aside0.mk (blk_alloc H9t.out (.cells #[(.slice none 0 0), (.slice none 0 0), (.int .u32 0), (.int .u32 0), (.int .u32 0), (.slice none 0 0), (.slice none 0 0), (.bool false)] 43)); have H48u := Aside0.mk (blk_alloc H48t.out (.cells #[(.slice none 0 0), (.slice none 0 0), (.int .u32 0), (.int .u32 0), (.int .u32 0), (.slice none 0 0), (.slice none 0 0), (.bool false)] 43)); have HV0u := Aside0.mk (Kd.R_alloc HV0t.out (.cells #[(.slice none 0 0), (.slice none 0 0), (.int .u32 0), (.int .u32 0), (.int .u32 0), (.slice none 0 0), (.slice none 0 0), (.bool false)] 43)); have HV1u := Aside0.mk (Kd.R_alloc HV1t.out (.cells #[(.slice none 0 0), (.slice none 0 0), (.int .u32 0), (.int .u32 0), (.int .u32 0), (.slice none 0 0), (.slice none 0 0), (.bool false)] 43)); have HDu := Aside0.mk (HDt.out.alloc (.cells #[(.slice none 0 0), (.slice none 0 0), (.int .u32 0), (.int .u32 0), (.int .u32 0), (.slice none 0 0), (.slice none 0 0), (.bool false)] 43)); have HOu := Aside0.mk (Kd.R_alloc HOt.out (.cells #[(.slice none 0 0), (.slice none 0 0), (.int .u32 0), (.int .u32 0), (.int .u32 0), (.slice none 0 0), (.slice none 0 0), (.bool false)] 43)); have HBu := Aside0.mk (below_then HBt.out HBt.out.size (below_alloc (Below.refl _ _) (.cells #[(.slice none 0 0), (.slice none 0 0), (.int .u32 0), (.int .u32 0), (.int .u32 0), (.slice none 0 0), (.slice none 0 0), (.bool false)] 43))); have HZu := Aside0.mk (blk_new wt (.cells #[(.slice none 0 0), (.slice none 0 0), (.int .u32 0), (.int .u32 0), (.int .u32 0), (.slice none 0 0), (.slice none 0 0), (.bool false)] 43)); have HGZ := Aside0.mk (And.intro (Nat.le_trans HW3.out HWT.out) HBt.out.size); (have hrf := rfill_ok (w0 := w) (w := (World.alloc wt (.cells #[(.slice none 0 0), (.slice none 0 0), (.int .u32 0), (.int .u32 0), (.int .u32 0), (.slice none 0 0), (.slice none 0 0), (.bool false)] 43))) (d := d) (t := t) (n := n) (A0 := B0) (n0 := m0) (c0 := e0) (A1 := B1) (c1 := e1) (AL := At) (cL := ct) (okr := fun k => wf.heap.size ≤ k ∧ k < wt.heap.size) lr HBu.out (Kd.R_mono HV0u.out (fun _ _ => trivial)) (Kd.R_mono HV1u.out (fun _ _ => trivial)) HD.out.2.1 (Kd.F_below (Kd.F_mono (Kd.R_F (Kd.R_bound HTX.out)) (fun k hk => ⟨hk.2.1, hk.2.2.1⟩)) (below_alloc (Below.refl _ _) (.cells #[(.slice none 0 0), (.slice none 0 0), (.int .u32 0), (.int .u32 0), (.int .u32 0), (.slice none 0 0), (.slice none 0 0), (.bool false)] 43))) (fun k hk hs => HOLD.out k hs hk.1) (by have := HLR.out.2.1; omega) HH.out HLR.out.2.2.1); rw [HRR.out] at hrf; dsimp only at hrf; (with_reducible refine hrf.mono ?_); clear hrf; rintro en wq hq_; unfold Rp at hq_; obtain ⟨D0, k0, j0, D1, k1, j1, x2, x3, x4, D5, k5, j5, D6, k6, j6, x7, rfl, hr0, hr1, hr6, hx2, hb_, hk_, hs_⟩ := hq_; refine ⟨_, rfl, ?_⟩; clear h90 h91; have H9q := Aside0.mk (blk_kept H9u.out hk_ (own_ne HV0u.out HV1u.out H9u.out (by decide))); have H48q := Aside0.mk (blk_kept H48u.out hk_ (own_ne HV0u.out HV1u.out H48u.out (by decide))); have HDq := Aside0.mk (HDu.out.kept hk_ (fun k hd hs => own_not HV0u.out HV1u.out hs hd)); have HOq := Aside0.mk (Kd.R_mono (Kd.R_kept (Kd.R_tight rfl HOu.out) hk_ (fun k h5 hs => hs.elim (fun e => own_types HOu.out HV0u.out (by decide) k h5.symm e.symm) (fun hs => hs.elim (fun e => own_types HOu.out HV1u.out (by decide) k h5.symm e.symm) (fun hs => hs.elim (fun e => by cases e) (fun e => by cases e))))) (fun _ _ => trivial)); have hnd : ∀ k, Sv (.slice D0 k0 j0) (.slice D1 k1 j1) (.slice none 0 0) (.slice D6 k6 j6) k → ¬ D k := (fun k hs hd => (hs_ k hs).elim (fun h => own_not HV0u.out HV1u.out h hd) (fun h => by have h3 := (HDN.out k hd).2; have h4 := blk_lt H9u.out; have h5 := HLT.out; omega)); have HV0q := Aside0.mk (Kd.R_mono (Kd.R_tight rfl hr0) (fun k hk => hnd k (.inl hk))); have HV1q := Aside0.mk (Kd.R_mono (Kd.R_tight rfl hr1) (fun k hk => hnd k (.inr (.inl hk)))); have HY := Aside0.mk (Fy.mk HDq.out H9q.out H48q.out HOq.out HV0q.out HV1q.out hr6 hb_); have HX2 := Aside0.mk hx2; have HL9 := Aside0.mk (show w3.heap.size ≤ wq.heap.size by have h3 := blk_lt H9q.out; have h4 := HLT.out; omega); (try have HZq := Aside0.mk (blk_kept HZu.out hk_ (own_ne HV0u.out HV1u.out HZu.out (by decide)))); clear hr0 hr1 hr6 hx2 hb_ hk_ hs_ hnd; (try (have z0 := (blk_cell HZq.out 0).trans rfl; have zf0 := blk_frozen HZq.out 0; have z1 := (blk_cell HZq.out 1).trans rfl; have zf1 := blk_frozen HZq.out 1; have z2 := (blk_cell HZq.out 2).trans rfl; have zf2 := blk_frozen HZq.out 2; have z3 := (blk_cell HZq.out 3).trans rfl; have zf3 := blk_frozen HZq.out 3; have z4 := (blk_cell HZq.out 4).trans rfl; have zf4 := blk_frozen HZq.out 4; have z5 := (blk_cell HZq.out 5).trans rfl; have zf5 := blk_frozen HZq.out 5; have z6 := (blk_cell HZq.out 6).trans rfl; have zf6 := blk_frozen HZq.out 6; have z7 := (blk_cell HZq.out 7).trans rfl; have zf7 := blk_frozen HZq.out 7; have zl := blk_lt HZq.out))))
          all_goals
            go_wp2
            go_meet
            first
              | (have hb := HY.out.box HZq.out (fun k hd e => by have h3 := (HDN.out k hd).2; have h4 := HGZ.out.1; omega) HGZ.out.2 (.slice D0 k0 j0) (.slice D1 k1 j1) (.int .u32 x2) (.int .u32 x3) (.int .u32 x4) (.slice D5 k5 j5) (.slice D6 k6 j6) (.bool x7); exact ⟨_, D0, k0, j0, D1, k1, j1, x2, x3, x4, D5, k5, j5, D6, k6, j6, x7, rfl, rfl, ⟨hb.1⟩, ⟨hb.2⟩, HX2, ⟨HGZ.out.1⟩⟩)
              | exact ⟨_, D0, k0, j0, D1, k1, j1, x2, x3, x4, D5, k5, j5, D6, k6, j6, x7, rfl, rfl, ⟨blk_new wq _⟩, ⟨HY.out.alloc _⟩, HX2, HL9⟩
        case rest =>
          obtain ⟨g16, D0, k0, j0, D1, k1, j1, x2, x3, x4, D5, k5, j5, D6, k6, j6, x7, rfl, rfl, H16, HY, HX2, HG⟩ := hcut
          clear H9 H48 HO HV0 HV1 HB HFL HDf
          obtain ⟨gko, rfl⟩ : ∃ x, x = gk := ⟨_, rfl⟩
          have hSn : S.t.length = n := HFO.out.1.trans HD.out.2.1
          have HSN := Aside0.mk hSn
          obtain rfl : n = k1 := ((Kd.R_reads' HY.out.h1).1.trans hSn).symm
          obtain rfl : n = k0 := ((Kd.R_reads' HY.out.h0).1.trans (pgs_len _ _)).symm
          clear hSn
          have ha0 := (blk_cell H16.out 0).trans rfl
          have ha1 := (blk_cell H16.out 1).trans rfl
          have h90 := (blk_cell HY.out.h9 0).trans rfl
          have h91 := (blk_cell HY.out.h9 1).trans rfl
          have hf0 := blk_frozen HY.out.h9 0
          have hf1 := blk_frozen HY.out.h9 1
          have h9l := blk_lt HY.out.h9
          go_upto_region 11 with fail
          clear ha0 ha1 h90 h91 hf0 hf1 h9l
          have hp9 := HY.out.put9 H16.out (fun k hd e => by have h3 := (HDN.out k hd).2; have h4 := HLT.out; omega) (show w.heap.size ≤ g9 from HGW.out) (.slice D0 n j0) (.slice D1 n j1)
          replace HY := Aside0.mk hp9.1
          replace H16 := Aside0.mk hp9.2
          clear hp9
          generalize (World.setCell (World.setCell wc ⟨g9, 0, none⟩ (.slice D0 n j0)) ⟨g9, 1, none⟩ (.slice D1 n j1)) = ws at HY H16 ⊢
          have hsm := same_ok HY.out.dk HFO.out.2 D0 j0 D1 j1 (by rw [HSN.out]; exact (Kd.R_reads' HY.out.h0).2.2) (by rw [HSN.out]; have h3 := Kd.R_reads' HY.out.h0; rw [← h3.1]; exact h3.2.1) (Kd.R_reads' HY.out.h1).2.2 (by have h3 := Kd.R_reads' HY.out.h1; rw [← h3.1]; exact h3.2.1)
          rw [HSN.out] at hsm
          have HSM := Aside0.mk hsm
          clear hsm
          have h90 := (blk_cell HY.out.h9 0).trans rfl
          have h91 := (blk_cell HY.out.h9 1).trans rfl
          obtain rfl : nv_ = 0 := (Kd.R_reads' HY.out.ho).1
          have hn1 : (E != E) = false := by simp
          have hn2 : (E != 0) = true := bne_iff_ne.mpr HEN.out
          go_wp2_with (go_at_call 17; (with_reducible refine HSM.out.mono ?_); rintro en wy ⟨rfl, hb_⟩; clear h90 h91; replace HY := Aside0.mk (HY.out.below hb_); replace H16 := Aside0.mk (blk_below H16.out hb_); clear hb_)
          go_roundg (gko - 1)
          case measure => have h1 := HI.out; have h2 := HC2.out; omega
          case rel =>
            have h1 := HI.out
            have h2 := HC2.out
            exact ⟨i + 1, S.d, S.t, D0, n, j0, D1, n, j1, by first | rfl | rw [w2_], ⟨by omega⟩, ⟨HY.out.dk, HSN.out, HFO.out.2⟩, ⟨HY.out.h9⟩, ⟨HY.out.h48⟩, ⟨HY.out.h0⟩, ⟨HY.out.h1⟩, ⟨HY.out.hb⟩⟩
    · have c2b0 : decide (i < 2) = false := decide_eq_false c2_
      clear c2_ H9 H48 HV0 HV1 HD
      go_wp2_with (go_at_call 11; (with_reducible refine (fixed_ok _).mono ?_); rintro en w9 ⟨rfl, hb_⟩; have HB9 := Aside0.mk (below_then HB.out HB.out.size hb_); clear hb_)
      go_ret
      exact ⟨rfl, HB9.out⟩
/-- HeapFills answers 'true'. -/
theorem HeapFills_ok (a0 : Int) (A1 A2 : Option Addr) (c1 c2 : Nat) (l more : List (List Int)) (w : World) (h1 : RecOk w A1 c1 l) (h2 : RecOk w A2 c2 more) (z1 : l.length ≤ 140737488351232) (z2 : more.length ≤ 140737488351232) :
    Calls Try.prog 3 #[.int .i64 a0, .slice A1 l.length c1, .slice A2 more.length c2] w fun e w' => e = .returned (.bool true) ∧ Below w.heap.size w w' := by
  by_cases hp : a0 < 1
  · exact fills_low a0 A1 A2 c1 c2 l more w h1 h2 hp
  · by_cases hq : 30 < a0
    · exact fills_high a0 A1 A2 c1 c2 l more w h1 h2 hp hq
    · obtain ⟨b1, k1, s1⟩ := small_ok w A1 c1 l h1.1 h1.2.1 z1
      obtain ⟨b2, k2, s2⟩ := small_ok w A2 c2 more h2.1 h2.2.1 z2
      cases b1
      · exact fills_big1 a0 A1 A2 c1 c2 l more w h1 h2 hp hq s1
      · cases b2
        · exact fills_big2 a0 A1 A2 c1 c2 l more w h1 h2 hp hq s1 s2
        · exact fills_main a0 A1 A2 c1 c2 l more w h1 h2 hp hq s1 s2 (k1 rfl) (k2 rfl)
theorem by_wf {l : List Int} (h : ∀ x ∈ l, (Lit.int .u8 x).wf = true) : By l := fun x hx => by
  have h3 := h x hx
  simp [Lit.wf, IntKind.min, IntKind.max, IntKind.signed, IntKind.bits] at h3
  omega
end Go.Proofs.Ytpfegfkniilobaa.Hp
