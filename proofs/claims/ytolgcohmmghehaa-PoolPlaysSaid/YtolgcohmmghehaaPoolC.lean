/- Get of a page that is kept. Conditions: stated in the theorem. -/
import Derived.Test.YtolgcohmmghehaaPoolB
import Derived.BigQuiet
import Derived.Deep.QuietTactic
import Derived.Deep.RegionLaw
namespace Go.Proofs.Ytolgcohmmghehaa.Pool
open Go.Proofs.YtolgcohmmghehaaW
open Go.RowKit Go.Proofs.YtolgcohmmghehaaW.PrintWords Go.Proofs.YtolgcohmmghehaaW.PrintLast Go.Proofs.YtolgcohmmghehaaW.PrintMore Go.Proofs.Ytolgcohmmghehaa.Byt Go.Proofs.Ytolgcohmmghehaa.Dsk
set_option linter.unusedVariables false
set_option linter.unusedSimpArgs false
set_option maxRecDepth 100000
theorem nodup_mid {pre post : List Int} {p : Int} (h : (pre ++ p :: post).Nodup) : (∀ x ∈ pre, x ≠ p) ∧ (∀ x ∈ post, x ≠ p) ∧ (pre ++ post).Nodup ∧ (pre ++ post ++ [p]).Nodup := by
  obtain ⟨h1, h2, h3⟩ := List.nodup_append.1 h
  obtain ⟨h4, h5⟩ := List.nodup_cons.1 h2
  have a1 : ∀ x ∈ pre, x ≠ p := fun x hx => h3 x hx p List.mem_cons_self
  have a2 : ∀ x ∈ post, x ≠ p := fun x hx e => h4 (e ▸ hx)
  have a3 : (pre ++ post).Nodup := List.nodup_append.2 ⟨h1, h5, fun x hx y hy => h3 x hx y (List.mem_cons_of_mem _ hy)⟩
  refine ⟨a1, a2, a3, List.nodup_append.2 ⟨a3, List.nodup_cons.2 ⟨by simp, List.nodup_nil⟩, fun x hx y hy => ?_⟩⟩
  rw [List.mem_singleton.1 hy]
  rcases List.mem_append.1 hx with hx | hx
  · exact a1 x hx
  · exact a2 x hx
theorem mem_mid (pre post : List Int) (p q : Int) : q ∈ pre ++ post ++ [p] ↔ q ∈ pre ++ p :: post := by
  simp only [List.mem_append, List.mem_cons, List.not_mem_nil, or_false]
  constructor
  · rintro ((h | h) | h)
    · exact .inl h
    · exact .inr (.inr h)
    · exact .inr (.inl h)
  · rintro (h | h | h)
    · exact .inl (.inl h)
    · exact .inr h
    · exact .inl (.inr h)
theorem len_mid (pre post : List Int) (p : Int) : (pre ++ p :: post).length = pre.length + 1 + post.length ∧ (pre ++ post).length = pre.length + post.length ∧ (pre ++ post ++ [p]).length = pre.length + 1 + post.length := by
  refine ⟨?_, ?_, ?_⟩ <;> simp only [List.length_append, List.length_cons, List.length_nil] <;> omega
theorem step_run {P : Program} {ops : Array Oper} {o : Oper} {a : Act} {Q : Exit → Act → World → Prop} {K : Act → World → Prop} {w w1 : World} {v v0 x0 : Value} (hw : Region.wanted o (yielded ops a.tmps) = true) (s x : Operand) (t : TypeId) (ho : o.op = .call { callee := .builtin .append, args := #[s, x], argTypes := #[t, t] })
    (hs : a.eval s = v0) (hx : a.eval x = x0) (hr : (Builtin.append_ #[t, t] o.type #[v0, x0]).run P w = .ok v w1) (h : K (a.put o.dst v) w1) : if Region.wanted o (yielded ops a.tmps) = true then Oper.wp P o a w K Q else K (a.put o.dst undef) w := by
  rw [if_pos hw]
  unfold Oper.wp execOp
  simp only [ho, resolve, invoke, builtin, Sem.run_bind, Sem.run_pure, Result.andThen_ok, List.map_toArray, List.map_cons, List.map_nil, hs, hx, hr]
  exact h
/-- A number is appended to a row of the pool's own. -/
theorem row_append (W : World) {ok : Nat → Prop} {v : Value} {xs : List Int} (HO : Kd.R (Kd.int .u32) 23 W 0 ok v xs) (p : Int) (hf : ∀ k, W.heap.size ≤ k → ok k) (hl : xs.length ≤ 4096) (n : Nat) (hn : xs.length + 1 = n) :
    ∃ v1 w1, (Builtin.append_ #[67, 67] 67 #[v, .slice (some ⟨W.heap.size, 0, none⟩) 1 1]).run Try.prog (W.alloc (.cells #[.int .u32 p] 23)) = .ok v1 w1 ∧ Kd.R (Kd.int .u32) 23 w1 0 ok v1 (xs ++ [p]) ∧ W.grownBy w1 v.ownBlock ∧ ∃ g c, v1 = .slice (some ⟨g, 0, none⟩) n c := by
  obtain ⟨i0, hi0, hz, hsz, hby⟩ := info_parts info23
  have hown := Kd.own_of_R HO
  obtain ⟨v1, w1, hr, ho, hg, _, hat⟩ := run_append_own_at (P := Try.prog) (W.alloc (.cells #[.int .u32 p] 23)) 0 67 67 23 i0 (.int .u32 0) 1 4 Try.underlying67 hi0 hz hsz hby rfl (by decide) v xs.length _ (hown.alloc _) ⟨W.heap.size, 0, none⟩ 1 1 [.int .u32 p] rfl
    (by simpa using World.news_of_block (cs := #[.int .u32 p]) (t := 23) (fr := (0, 0)) (heap_alloc_new W (.cells #[.int .u32 p] 23))) (by intro u hu; rw [List.mem_singleton.1 hu]; rfl) (by simp only [maxLen]; omega) (by omega) (Nat.zero_le _)
  have hR : Kd.R (Kd.int .u32) 23 w1 0 ok v1 (xs ++ [p]) := by
    refine Kd.R_of_own (h1 := fun _ => rfl) ?_ ?_
    · have e1 : (xs ++ [p]).length = xs.length + 1 := by simp
      have e2 : encs (Value.int .u32) (xs ++ [p]) = encs (Value.int .u32) xs ++ [.int .u32 p] := by simp [encs]
      rw [e1, e2]
      exact ho
    · intro k hk
      rcases hat with hat | hat
      · exact HO.1 k (hat ▸ hk)
      · rw [hat] at hk
        injection hk with hk
        refine hf k ?_
        rw [← hk, World.size_alloc]
        omega
  obtain ⟨g, c, e, _⟩ := Kd.R_form hR (by simp)
  refine ⟨v1, w1, hr, hR, World.grownBy.trans (World.grownBy_alloc W _ _) hg, g, c, ?_⟩
  rw [e, ← hn]
  simp
set_option maxHeartbeats 8000000 in
theorem get_hit {w : World} {ok : Nat → Prop} {g gd : Nat} {size : Int} {rd ht : Int} {pgf : Int → List Int} {N gm n : Nat} {D : DataW Unit} {vo : Value} (pre post : List Int) (p : Int) (h : Pl w ok g gd size (pre ++ p :: post) (pre ++ p :: post) rd ht pgf N gm n D vo) :
    Calls Try.prog 38 #[.pointer (some ⟨g, 0, none⟩), .int .u32 p] w fun e w' => ∃ v vo', e = .returned (.tuple #[v, .int .i64 0]) ∧ Kd.R (Kd.int .u8) 5 w' w.heap.size (fun _ => True) v (pgf p) ∧ Pl w' (fun k => (ok k ∨ w.heap.size ≤ k) ∧ some k ≠ v.ownBlock) g gd size (pre ++ post ++ [p]) (pre ++ post ++ [p]) rd ((ht + 1) % 18446744073709551616) pgf N gm n D vo' ∧ Kp w w' ok := by
  have hmem : p ∈ pre ++ p :: post := List.mem_append_right _ List.mem_cons_self
  have hrng := h.rng p hmem
  obtain ⟨m1, m2, m3, m4⟩ := nodup_mid h.nod
  obtain ⟨l1, l2, l3⟩ := len_mid pre post p
  obtain ⟨no, hno⟩ : ∃ no, no = pre.length + 1 + post.length := ⟨_, rfl⟩
  have hlen := h.len
  have hlen2 := h.len2
  rw [l1] at hlen hlen2
  obtain ⟨vb, hvb, hRb⟩ := h.val p hmem
  obtain ⟨psb, hvb⟩ := hvb (.agg [])
  obtain ⟨Ab, cb, evb⟩ := Kd.R_slice hRb
  subst evb
  have HVB := Aside0.mk (And.intro hvb (h.plen p hmem))
  obtain ⟨gr, cr, evo, _, hgr, _⟩ := Kd.R_form h.row (by rw [l1]; omega)
  rw [l1, ← hno] at evo
  subst evo
  have hhas := h.has p hrng.1 hrng.2
  rw [decide_eq_true hmem] at hhas
  have hgw := blk_lt h.box
  have HB1 := Aside0.mk (blk_new w (.cells #[.int .u32 p] 23))
  have HP1 := Aside0.mk ((h.mono (ok' := fun k => ok k ∨ w.heap.size ≤ k) fun _ hk => .inl hk).alloc (.cells #[.int .u32 p] 23))
  have hl := fun m : Nat => look_run ((HP1.out.drewN m).map) hrng hvb hhas
  have hx2 := (blk_cell HP1.out.box 2).trans rfl
  have hb0 := (blk_cell HB1.out 0).trans rfl
  have HK1 := Aside0.mk (Kp.of_below (below_alloc (Below.refl w.heap.size w) (.cells #[.int .u32 p] 23)) ok)
  obtain ⟨gb, hgb⟩ : ∃ gb, gb = w.heap.size := ⟨_, rfl⟩
  have HG := Aside0.mk (And.intro hgr (And.intro hgw (And.intro hgb hrng)))
  have HM := Aside0.mk (And.intro m1 (And.intro m2 (And.intro m3 m4)))
  have HL := Aside0.mk (And.intro hno (And.intro l2 (And.intro l3 (And.intro hlen hlen2))))
  have HR := Aside0.mk hRb
  have HO := Aside0.mk h.og
  clear hvb hhas hmem hrng hRb hgr h m1 m2 m3 m4 l1 l2 l3 hlen hlen2 hno hgw
  go_enter Try.func38, Try.ntmps38
  go_wp2
  generalize hw1 : w.alloc (.cells #[.int .u32 p] 23) = w1 at HB1 HP1 hl hx2 hb0 HK1 ⊢
  rw [← hgb] at HB1 hb0 HP1 ⊢
  have HW1 := Aside0.mk hw1
  clear hgb hw1
  go_quiet (fail)
  have HP2 := Aside0.mk (HP1.out.drewN nq)
  have HB2 := Aside0.mk (blk_drewN HB1.out nq)
  have HK2 := Aside0.mk (HK1.out.drewN nq)
  generalize w1.drewN nq = w2 at HP2 HB2 HK2 ⊢
  clear hl hx2 hb0
  go_upto_region 7 with (first
    | (go_at_call 69; (with_reducible refine (add_ok _ _ ht ((blk_cell HP2.out.box 5).trans rfl) (blk_frozen HP2.out.box 5) ⟨_, _, rfl⟩).mono ?_); rintro en w3 ⟨rfl, rfl⟩; have HP3 := Aside0.mk (HP2.out.setHits ((ht + 1) % 18446744073709551616)); have HB3 := Aside0.mk (blk_far HB2.out (p := ⟨g, 5, none⟩) (by have := HG.out; show gb ≠ g; omega) (.int .u64 ((ht + 1) % 18446744073709551616))); have HK3 := Aside0.mk (HK2.out.setCell (p := ⟨g, 5, none⟩) (.inl HO.out) (.int .u64 ((ht + 1) % 18446744073709551616))); clear HP2 HB2 HK2; have hc3 := (blk_cell HP3.out.box 3).trans rfl)
    | (go_at_call 70; (with_reducible refine (delfunc_ok _ gb p HB3.out gr cr no 0 _ (by have := HG.out; omega) pre post HL.out.1 HM.out.1 HM.out.2.1 (by have := HL.out; omega) HP3.out.row).mono ?_); rintro en w4 ⟨rfl, hr, hg⟩; have HR4 := Aside0.mk hr; have HG4 := Aside0.mk hg; have hbox4 := blk_grown HP3.out.box hg (Kd.R_ne HP3.out.row HP3.out.box (by decide)); have hz3 := blk_frozen hbox4 3; have hcz := (blk_cell hbox4 3).trans rfl; clear hr hg hbox4 hc3))
  have HP5 := Aside0.mk (HP3.out.setRow (vo' := .slice (some ⟨gr, 0, none⟩) (no - 1) cr) (order' := pre ++ post) HG4.out HR4.out HM.out.2.2.1 (by have := HL.out; omega) (by have := HL.out; omega))
  have HB5 := Aside0.mk (blk_far (blk_grown HB3.out HG4.out (by have := HG.out; intro e; injection e with e; omega)) (p := ⟨g, 3, none⟩) (by have := HG.out; show gb ≠ g; omega) (.slice (some ⟨gr, 0, none⟩) (no - 1) cr))
  have HK5 := Aside0.mk ((Kp.of_grown HG4.out HK3.out (fun k hk => (HP3.out.row.1 k hk).imp id (fun h => by have := HG.out.2.2.1; omega))).setCell (p := ⟨g, 3, none⟩) (.inl HO.out) (.slice (some ⟨gr, 0, none⟩) (no - 1) cr))
  generalize w4.setCell ⟨g, 3, none⟩ (.slice (some ⟨gr, 0, none⟩) (no - 1) cr) = w5 at HP5 HB5 HK5 ⊢
  clear hz3 hcz HP3 HB3 HK3 HR4 HG4
  obtain ⟨v6, w6, hap, hR6, hG6, g6, c6, e6⟩ := row_append w5.drew (Kd.R_drew HP5.out.row) p (by intro k hk; exact .inr (by have h1 := HK5.out.1; have h2 := HG.out.2.2.1; have h3 : w5.drew.heap.size = w5.heap.size := rfl; omega)) (by have := HL.out; omega) no (by have := HL.out; omega)
  subst e6
  have hap2 : (Builtin.append_ #[67, 67] 67 #[.slice (some ⟨gr, 0, none⟩) (no - 1) cr, .slice (some ⟨w5.heap.size, 0, none⟩) 1 1]).run Try.prog (w5.alloc (.cells #[.int .u32 p] 23)).drew = _ := hap
  have hx3 := (blk_cell HP5.out.box 3).trans rfl
  have hx3a := (blk_cell (blk_alloc HP5.out.box (.cells #[.int .u32 p] 23)) 3).trans rfl
  have hb0 := (blk_cell HB5.out 0).trans rfl
  have hbox6 := blk_grown (blk_drew HP5.out.box) hG6 (Kd.R_ne (Kd.R_drew HP5.out.row) (blk_drew HP5.out.box) (by decide))
  have hx36 := (blk_cell hbox6 3).trans rfl
  have hf36 := blk_frozen hbox6 3
  have HR6 := Aside0.mk (And.intro hR6 hG6)
  have HAP := Aside0.mk hap2
  clear hR6 hG6 hbox6 hap hap2
  go_region_law (refine step_run rfl (.tmp 39) (.tmp 41) 67 rfl (by simp [Act.eval, Act.put]) (by simp [Act.eval, Act.put]) HAP.out ?_)
  all_goals
    have HP7 := Aside0.mk ((Pl.setRow (order' := pre ++ post ++ [p]) (HP5.out.drewN 1) HR6.out.2 HR6.out.1 HM.out.2.2.2 (by have := HL.out; omega) (by have := HL.out; omega)).keys (mem_mid pre post p))
    have HK7 := Aside0.mk ((Kp.of_grown HR6.out.2 HK5.out.drew (fun k hk => (HP5.out.row.1 k hk).imp id (fun h => by have := HG.out.2.2.1; omega))).setCell (p := ⟨g, 3, none⟩) (.inl HO.out) (.slice (some ⟨g6, 0, none⟩) no c6))
    generalize w6.setCell ⟨g, 3, none⟩ (.slice (some ⟨g6, 0, none⟩) no c6) = w7 at HP7 HK7 ⊢
    clear hx3 hx3a hb0 hx36 hf36
    have HV7 : Aside0 (Kd.R (Kd.int .u8) 5 w7 0 (fun k => ok k ∨ gb ≤ k) (.slice Ab (pgf p).length cb) (pgf p)) := by
      obtain ⟨v', h1, h2⟩ := HP7.out.val p (by simp)
      obtain ⟨ps', h1⟩ := h1 (.agg [])
      rw [← Rv_inj HVB.out.1 h1] at h2
      exact ⟨h2⟩
    go_wp2_with (go_at_call 64; (with_reducible refine (clone_ok Ab cb (pgf p) _ (Kd.R_reads' HV7.out).2.2 (by have := HVB.out.2; omega)).mono ?_); rintro en w8 ⟨v8, rfl, ho, hb⟩; have HO8 := Aside0.mk ho; have HB8 := Aside0.mk hb; clear ho hb)
    go_ret2
    refine ⟨v8, _, rfl, Kd.R_lower HO8.out HK7.out.1, ((HP7.out.bound.below HB8.out).mono fun k hk => ⟨hk.1.imp id (fun h => by have := HG.out.2.2.1; omega), fun e => ?_⟩), HK7.out.below HB8.out⟩
    have := Kd.R_base HO8.out k e.symm
    have := hk.2
    omega
end Go.Proofs.Ytolgcohmmghehaa.Pool
