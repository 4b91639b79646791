/- Get of a page that is not kept: the oldest page goes if there is no room. Conditions: stated in each theorem. -/
import Derived.Test.YtpfegfkniilobaaPoolABC
import Derived.Sort.OwnSortedInts
namespace Go.Proofs.Ytpfegfkniilobaa.Pool
open Go.Proofs.YtpfegfkniilobaaW
open Go.RowKit Go.Proofs.YtpfegfkniilobaaW.PrintWords Go.Proofs.YtpfegfkniilobaaW.PrintLast Go.Proofs.YtpfegfkniilobaaW.PrintMore Go.Proofs.Ytpfegfkniilobaa.Byt Go.Proofs.Ytpfegfkniilobaa.Dsk
set_option linter.unusedVariables false
set_option linter.unusedSimpArgs false
set_option maxRecDepth 100000
section
open Go.Sort
theorem heap_put {w : World} {g n : Nat} {cur : Array Value} {e : TypeId} {fr : Nat × Nat} (d : Array Int) (hb : w.heap[g]? = some (.cells cur e fr)) :
    (putRow (Value.int .u32) (Sort.ahead w n) g 0 d).heap[g]? = some (.cells (putCells (Value.int .u32) 0 d cur) e fr) := by
  simp [putRow, mapBlock, Sort.ahead, Array.getElem?_modify, hb, onCells]
theorem grown_put {w : World} {g n : Nat} (d : Array Int) : w.grownBy (putRow (Value.int .u32) (Sort.ahead w n) g 0 d) (some g) := by
  refine ⟨rfl, rfl, rfl, by simp, fun k hk hne => ?_⟩
  have : g ≠ k := fun e => hne (by rw [e])
  simp [putRow, mapBlock, Sort.ahead, Array.getElem?_modify, this]
theorem take_put (cur : Array Value) (ts : List Int) (h : ts.length ≤ cur.size) : (putCells (Value.int .u32) 0 ts.toArray cur).toList.take ts.length = ts.map (Value.int .u32) := by
  apply List.ext_getElem?
  intro j
  by_cases hj : j < ts.length
  · rw [List.getElem?_take_of_lt hj, Array.getElem?_toList]
    simp [putCells, hj, show j < cur.size by omega]
  · rw [List.getElem?_take_eq_none (by omega), List.getElem?_eq_none (by simp; omega)]
theorem own_put {w : World} {g cap n base : Nat} {e : TypeId} {cur : Array Value} {ts : List Int} {m : Nat} (hl : ts.length = m) (hbase : base ≤ g) (hb : w.heap[g]? = some (.cells cur e (0, 0))) (h1 : m ≤ cap) (h2 : cap ≤ maxLen) (h3 : cur.size = cap * 1) :
    (putRow (Value.int .u32) (Sort.ahead w n) g 0 ts.toArray).ownsRow base e 1 (.slice (some ⟨g, 0, none⟩) m cap) m (ts.map (Value.int .u32)) :=
  ⟨by simp [hl], .inr ⟨g, cap, _, rfl, hbase, heap_put _ hb, h1, h2, by simp [putCells, h3], by rw [Nat.mul_one, ← hl]; exact take_put cur ts (by omega)⟩⟩
end
/-- The first of a row is taken out. -/
theorem delete_first (w : World) {ok : Nat → Prop} {gr cr n : Nat} {p0 : Int} {rest : List Int} (hn : n = rest.length + 1) (HO : Kd.R (Kd.int .u32) 36 w 0 ok (.slice (some ⟨gr, 0, none⟩) n cr) (p0 :: rest)) :
    Calls Try.prog 117 #[.slice (some ⟨gr, 0, none⟩) n cr, .int .i64 0, .int .i64 1] w fun e w' => e = .returned (.slice (some ⟨gr, 0, none⟩) (n - 1) cr) ∧ Kd.R (Kd.int .u32) 36 w' 0 ok (.slice (some ⟨gr, 0, none⟩) (n - 1) cr) rest ∧ w.grownBy w' (some gr) := by
  subst hn
  obtain ⟨i0, hi0, hz, hsz, hby⟩ := info_parts info36
  have hown := Kd.own_of_R HO
  have hcap := (Kd.R_reads' HO).2.1
  obtain ⟨_, hown⟩ := hown
  rcases hown with ⟨h0, _⟩ | ⟨g', cap', cur, hv, hg, hb, hn, hc, hs, _⟩
  · cases h0
  cases hv
  have hH : Go.Sort.Holds (Value.int .u32) w gr 0 (p0 :: rest).toArray := by
    intro j hj
    have hj' : j < (p0 :: rest).length := by simpa using hj
    have := Kd.R_cell (0 : Int) HO (j : Int) (by omega) (by omega)
    rw [Int.toNat_natCast] at this
    rw [Nat.zero_add]
    refine ⟨?_, this.2⟩
    rw [this.1, rdOf, Int.toNat_natCast, List.getD_eq_getElem?_getD, List.getElem?_eq_getElem hj']
    simp [hj']
    rw [List.getElem?_eq_getElem hj']
    rfl
  have hz23 : ∀ w, (zeroValue 36).run Try.prog w = .ok (.int .u32 0) w := fun w => by simp [zeroValue, typeInfo, hi0, hz]
  have hd := Try.slices_Delete (Value.int .u32) (fun _ => rfl) (0 : Int) hz23 i0 hi0 hsz gr 0 cr 0 1 (p0 :: rest).toArray w hH (by simpa using hn) (by simpa only [maxLen] using hc) (by omega) (by simp)
  rw [show (p0 :: rest).toArray.size = rest.length + 1 by simp] at hd
  refine hd.mono ?_
  rintro e w' ⟨rfl, q, rfl⟩
  refine ⟨rfl, ?_, grown_put _⟩
  have ho := own_put (n := q) (ts := rest ++ [0]) (m := (rest ++ [0]).length) rfl hg hb (by simpa using hn) hc hs
  have hR := Kd.R_take (m := rest.length) (Kd.R_of_own (enc := Value.int .u32) (h1 := fun _ => rfl) (ok := ok) ho (fun k hk => HO.1 k hk)) (by simp)
  rw [List.take_left' rfl] at hR
  have e : ((p0 :: rest).toArray.toList.take 0 ++ (p0 :: rest).toArray.toList.drop 1 ++ List.replicate (1 - 0) (0 : Int)).toArray = (rest ++ [0]).toArray := by simp
  rw [e]
  exact hR
section
variable {w w' : World} {ok : Nat → Prop} {g gd : Nat} {size : Int} {order ks : List Int} {rd ht : Int} {pgf : Int → List Int} {N gm n : Nat} {D : DataW Unit} {vo : Value}
theorem map_ne {b n : Nat} {D : DataW Unit} (hm : w.ownsMap Try.prog 36 Rv b n D) {α : Type} {d : Kd α} {e base : Nat} {ok : Nat → Prop} {v : Value} {xs : List α} (h : d.R e w base ok v xs) : ∀ k, some b = some k → some k ≠ v.ownBlock := fun k hk e => by
  injection hk with hk
  subst hk
  obtain ⟨cells, hc⟩ := Kd.R_typed h b e.symm
  obtain ⟨es, clock, hb, _⟩ := hm
  rw [hc] at hb
  cases hb
theorem isKey (p : Int) : WideAt.IsKeyLit (kl p) := by simp [WideAt.IsKeyLit, kl]
/-- A page is taken out of the map. -/
theorem Pl.del {p0 : Int} (h : Pl w ok g gd size order (p0 :: ks) rd ht pgf N gm n D vo) (hnd : p0 ∉ ks) (hm : w'.ownsMap Try.prog 36 Rv gm n (D.del (kl p0))) (hg : w.grownBy w' (some gm)) : Pl w' ok g gd size order ks rd ht pgf N gm n (D.del (kl p0)) vo where
  og := h.og
  om := h.om
  box := blk_grown h.box hg (fun e => h.mne (by injection e with e; exact e.symm))
  row := Kd.R_grown2 h.row rfl hg (map_ne h.map h.row)
  map := hm
  has := fun q h0 h1 => by
    by_cases e : q = p0
    · subst e
      rw [Maps.has_del_same]
      exact (decide_eq_false hnd).symm
    · rw [Maps.has_del_other (key_ne e), h.has q h0 h1]
      exact decide_eq_decide.2 ⟨fun hq => (List.mem_cons.1 hq).resolve_left e, List.mem_cons_of_mem _⟩
  val := fun q hq => by
    obtain ⟨v, h1, h2⟩ := h.val q (List.mem_cons_of_mem _ hq)
    refine ⟨v, fun z => ?_, Kd.R_grown2 h2 rfl hg (map_ne h.map h2)⟩
    have hne : q ≠ p0 := fun e => hnd (by rw [← e]; exact hq)
    rw [Maps.atKey_del_other (key_ne hne)]
    exact h1 z
  rng := fun q hq => h.rng q (List.mem_cons_of_mem _ hq)
  nod := h.nod
  len := h.len
  len2 := h.len2
  plen := fun q hq => h.plen q (List.mem_cons_of_mem _ hq)
  nb := h.nb
/-- A page is laid into the map. -/
theorem Pl.put (h : Pl w ok g gd size order ks rd ht pgf N gm n D vo) {p : Int} (hp : 0 ≤ p ∧ p < 4294967296) (hnew : p ∉ ks) {v : Value} {d : DataW Unit} {ps : List MemPlace} (hv : Rv v = some (d, ps)) (hm : w'.ownsMap Try.prog 36 Rv gm (n + 1) (D.put (kl p) d)) (hg : w.grownBy w' (some gm)) (hR : Kd.R (Kd.int .u8) 5 w 0 ok v (pgf p)) (hl : (pgf p).length = 512) :
    Pl w' ok g gd size order (p :: ks) rd ht pgf (N + 1) gm (n + 1) (D.put (kl p) d) vo where
  og := h.og
  om := h.om
  box := blk_grown h.box hg (fun e => h.mne (by injection e with e; exact e.symm))
  row := Kd.R_grown2 h.row rfl hg (map_ne h.map h.row)
  map := hm
  has := fun q h0 h1 => by
    by_cases e : q = p
    · subst e
      rw [Maps.has_put_same h.map.isMap (isKey q)]
      exact (decide_eq_true List.mem_cons_self).symm
    · rw [Maps.has_put_other (key_ne e), h.has q h0 h1]
      exact decide_eq_decide.2 ⟨List.mem_cons_of_mem _, fun hq => (List.mem_cons.1 hq).resolve_left e⟩
  val := fun q hq => by
    rcases List.mem_cons.1 hq with rfl | hq
    · exact ⟨v, fun z => ⟨ps, by rw [Maps.atKey_put_same h.map.isMap (isKey q)]; exact hv⟩, Kd.R_grown2 hR rfl hg (map_ne h.map hR)⟩
    · obtain ⟨v', h1, h2⟩ := h.val q hq
      refine ⟨v', fun z => ?_, Kd.R_grown2 h2 rfl hg (map_ne h.map h2)⟩
      have hne : q ≠ p := fun e => hnew (by rw [← e]; exact hq)
      rw [Maps.atKey_put_other (key_ne hne)]
      exact h1 z
  rng := fun q hq => by
    rcases List.mem_cons.1 hq with rfl | hq
    · exact hp
    · exact h.rng q hq
  nod := h.nod
  len := h.len
  len2 := h.len2
  plen := fun q hq => by
    rcases List.mem_cons.1 hq with rfl | hq
    · exact hl
    · exact h.plen q hq
  nb := Nat.succ_le_succ h.nb
end
theorem step_del {P : Program} {ops : Array Oper} {o : Oper} {a : Act} {Q : Exit → Act → World → Prop} {K : Act → World → Prop} {w w1 : World} {v v0 x0 : Value} (hw : Region.wanted o (yielded ops a.tmps) = true) (s x : Operand) (t k : TypeId) (ho : o.op = .call { callee := .builtin .delete, args := #[s, x], argTypes := #[t, k] })
    (hs : a.eval s = v0) (hx : a.eval x = x0) (hr : (Builtin.delete_ #[t, k] o.type #[v0, x0]).run P w = .ok v w1) (h : K (a.put o.dst v) w1) : if Region.wanted o (yielded ops a.tmps) = true then Oper.wp P o a w K Q else K (a.put o.dst undef) w := by
  rw [if_pos hw]
  unfold Oper.wp execOp
  simp only [ho, resolve, invoke, builtin, Sem.run_bind, Sem.run_pure, Result.andThen_ok, List.map_toArray, List.map_cons, List.map_nil, hs, hx, hr]
  exact h
set_option maxHeartbeats 8000000 in
theorem get_miss {w : World} {ok okd : Nat → Prop} {g gd : Nat} {size : Int} {order : List Int} {rd ht : Int} {pgf : Int → List Int} {N gm n : Nat} {D : DataW Unit} {vo : Value} {d : List Int} {t : List Bool} (h : Pl w ok g gd size order order rd ht pgf N gm n D vo) (hd : Dk w okd gd d t) (hsz : 1 ≤ size) (hN : N ≤ 1000000) (p : Int) (hp : 0 ≤ p) (hpt : p < t.length) (hnew : p ∉ order) (hpg : pgf p = pg d p.toNat) (h4 : order.length < 4096) (ord' : List Int) (hord : ord' = if (order.length : Int) = size then order.drop 1 else order) :
    Calls Try.prog 92 #[.pointer (some ⟨g, 0, none⟩), .int .u32 p] w fun e w' => ∃ v gm' n' D' vo', e = .returned (.tuple #[v, .int .i64 0]) ∧ Kd.R (Kd.int .u8) 5 w' w.heap.size (fun _ => True) v (pgf p) ∧ Pl w' (fun k => (ok k ∨ w.heap.size ≤ k) ∧ some k ≠ v.ownBlock) g gd size (ord' ++ [p]) (ord' ++ [p]) ((rd + 1) % 18446744073709551616) ht pgf (N + 1) gm' n' D' vo' ∧ Kp w w' ok := by
  have ht4 : t.length ≤ 4096 := hd.2.2.2.1
  have hrng : 0 ≤ p ∧ p < 4294967296 := ⟨hp, by omega⟩
  have hhas := h.has p hrng.1 hrng.2
  rw [decide_eq_false hnew] at hhas
  have hpl : (pgf p).length = 512 := by rw [hpg]; exact pg_len hd.2.1 (by omega)
  have hgw := blk_lt h.box
  have HGR := Aside0.mk (Kd.R_lt h.row)
  obtain ⟨Ao, co, evo⟩ := Kd.R_slice h.row
  subst evo
  have HB1 := Aside0.mk (blk_new w (.cells #[.int .u32 p] 36))
  have HP1 := Aside0.mk ((h.mono (ok' := fun k => ok k ∨ w.heap.size ≤ k) fun _ hk => .inl hk).alloc (.cells #[.int .u32 p] 36))
  have HD1 := Aside0.mk (hd.alloc (.cells #[.int .u32 p] 36))
  have hl := fun m : Nat => look_run ((HP1.out.drewN m).map) hrng (v := .slice none 0 0) (ps := []) (by rw [Maps.atKey_of_not_has hhas]; rfl) hhas
  have hx2 := (blk_cell HP1.out.box 2).trans rfl
  have hb0 := (blk_cell HB1.out 0).trans rfl
  have HK1 := Aside0.mk (Kp.of_below (below_alloc (Below.refl w.heap.size w) (.cells #[.int .u32 p] 36)) ok)
  obtain ⟨gb, hgb⟩ : ∃ gb, gb = w.heap.size := ⟨_, rfl⟩
  have HG := Aside0.mk (And.intro hgw (And.intro hgb hrng))
  have HL := Aside0.mk (And.intro h.len (And.intro h.len2 (And.intro hsz (And.intro hN (And.intro hp (And.intro hpt hpl))))))
  have HM := Aside0.mk (And.intro hnew (And.intro hpg (And.intro h4 h.nod)))
  have HO := Aside0.mk h.og
  have HORD := Aside0.mk hord
  clear hord hhas hrng h hd hsz hN hp hpt hnew hpg h4 hpl ht4 hgw
  go_enter Try.func92, Try.ntmps92
  go_wp2
  generalize hw1 : w.alloc (.cells #[.int .u32 p] 36) = w1 at HB1 HP1 HD1 hl hx2 hb0 HK1 ⊢
  rw [← hgb] at HB1 hb0 HP1 ⊢
  clear hgb hw1
  go_quiet (fail)
  have HP2 := Aside0.mk (HP1.out.drewN nq)
  have HB2 := Aside0.mk (blk_drewN HB1.out nq)
  have HD2 := Aside0.mk (HD1.out.drewN nq)
  have HK2 := Aside0.mk (HK1.out.drewN nq)
  generalize w1.drewN nq = w2 at HP2 HB2 HD2 HK2 ⊢
  clear hl hx2 hb0
  go_upto_region 9 with fail
  have hx0 := (blk_cell HP2.out.box 0).trans rfl
  have hb0 := (blk_cell HB2.out 0).trans rfl
  go_cut [8, 9] (fun s8 s9 wc => s9 = .int .i64 0 ∧ ∃ gv cv, s8 = .slice (some ⟨gv, 0, none⟩) 512 cv ∧ Aside0 (Kd.R (Kd.int .u8) 5 wc w2.heap.size (fun _ => True) (.slice (some ⟨gv, 0, none⟩) 512 cv) (pgf p)) ∧ Aside0 (Below w2.heap.size w2 wc))
  case first =>
    go_region_with (go_at_call 116; (with_reducible refine (read_in (HD2.out.step (w' := w2.drew) (fun _ _ _ => rfl)) p HL.out.2.2.2.2.1 HL.out.2.2.2.2.2.1).mono ?_); rintro en w3 ⟨v, rfl, ho, hb⟩; rw [← HM.out.2.1] at ho; obtain ⟨gv, cv, ev, _⟩ := Kd.R_form ho (by rw [HL.out.2.2.2.2.2.2]; decide); rw [HL.out.2.2.2.2.2.2] at ev; subst ev; have HV3 := Aside0.mk ho; have HB3 := Aside0.mk (show Below w2.heap.size w2 w3 from below_then (below_drew1 (Below.refl w2.heap.size w2)) (Nat.le_refl _) hb); clear ho hb)
    all_goals
      go_wp2
      go_meet
      exact ⟨rfl, _, _, rfl, HV3, HB3⟩
  case rest =>
    obtain ⟨rfl, gv, cv, rfl, HV, HBl⟩ := hcut
    have HP3 := Aside0.mk (HP2.out.below HBl.out)
    have HB3 := Aside0.mk (blk_below HB2.out HBl.out)
    have HK3 := Aside0.mk (HK2.out.below HBl.out)
    have HV3 := Aside0.mk (Kd.R_mono (ok' := fun k => ok k ∨ gb ≤ k) (Kd.R_bound (Kd.R_mono HV.out (fun _ _ => trivial))) (fun k hk => .inr (by have h1 := hk.2.1; have h2 := HK2.out.1; have h3 := HG.out.2.1; omega)))
    clear HP2 HB2 HK2 hx0 hb0
    go_upto_region 12 with fail
    go_cut [8] (fun s8 wc => s8 = .slice (some ⟨gv, 0, none⟩) 512 cv ∧ Aside0 (Pl wc (fun k => ok k ∨ gb ≤ k) g gd size order order ((rd + 1) % 18446744073709551616) ht pgf N gm n D (.slice Ao order.length co)) ∧ Aside0 (wc.heap[gb]? = some (.cells #[.int .u32 p] 36 (0, 0))) ∧ Aside0 (Kp w wc ok) ∧ Aside0 (Kd.R (Kd.int .u8) 5 wc 0 (fun k => ok k ∨ gb ≤ k) (.slice (some ⟨gv, 0, none⟩) 512 cv) (pgf p)))
    case first =>
      go_wp2_with (go_at_call 113; (with_reducible refine (add_ok _ _ rd ((blk_cell HP3.out.box 4).trans rfl) (blk_frozen HP3.out.box 4) ⟨_, _, rfl⟩).mono ?_); rintro en w4 ⟨rfl, rfl⟩)
      go_meet
      exact ⟨rfl, ⟨HP3.out.setReads _⟩, ⟨blk_far HB3.out (p := ⟨g, 4, none⟩) (by have := HG.out; show gb ≠ g; omega) _⟩, ⟨HK3.out.setCell (p := ⟨g, 4, none⟩) (.inl HO.out) _⟩, ⟨Kd.R_lower (Kd.R_set HV3.out HP3.out.box (by decide) 4 _) (Nat.zero_le _)⟩⟩
    case rest =>
      clear HP3 HB3 HK3 HV3
      obtain ⟨rfl, HP, HB, HK, HV⟩ := hcut
      go_step
      go_step
      go_cut [8] (fun s8 wc => s8 = .slice (some ⟨gv, 0, none⟩) 512 cv ∧ ∃ ord D1 vo1, Aside0 (ord = if (order.length : Int) = size then order.drop 1 else order) ∧ Aside0 (Pl wc (fun k => ok k ∨ gb ≤ k) g gd size ord ord ((rd + 1) % 18446744073709551616) ht pgf N gm n D1 vo1) ∧ Aside0 (wc.heap[gb]? = some (.cells #[.int .u32 p] 36 (0, 0))) ∧ Aside0 (Kp w wc ok) ∧ Aside0 (Kd.R (Kd.int .u8) 5 wc 0 (fun k => ok k ∨ gb ≤ k) (.slice (some ⟨gv, 0, none⟩) 512 cv) (pgf p)))
      case first =>
        have hx3 := (blk_cell HP.out.box 3).trans rfl
        have hx1 := (blk_cell HP.out.box 1).trans rfl
        by_cases hfull : (order.length : Int) = size
        · have c1 : ((order.length : Int) == size) = true := beq_iff_eq.mpr hfull
          have HF := Aside0.mk hfull
          clear hfull
          have hpos : 0 < order.length := by have h1 := HF.out; have h2 := HL.out.2.2.1; omega
          obtain ⟨p0, rest, ho⟩ := List.exists_cons_of_ne_nil (List.length_pos_iff.1 hpos)
          obtain ⟨gr, cr, e, _⟩ := Kd.R_form HP.out.row hpos
          injection e with e1 _ e2
          subst e1
          subst e2
          have HOR := Aside0.mk (And.intro ho hpos)
          clear ho
          go_upto_region 13 with fail
          go_quiet (fail)
          have HP5 := Aside0.mk (HP.out.drewN nq)
          have HB5 := Aside0.mk (blk_drewN HB.out nq)
          have HK5 := Aside0.mk (HK.out.drewN nq)
          have HV5 := Aside0.mk (Kd.R_drewN HV.out nq)
          generalize wc.drewN nq = w5 at HP5 HB5 HK5 HV5 ⊢
          clear hx3 hx1
          have hz := (Kd.R_cell (0 : Int) HP5.out.row (0 : Int) (by omega) (by omega)).1
          have hr0 : rdOf (0 : Int) order (0 : Int) = p0 := by rw [HOR.out.1]; rfl
          rw [hr0, show (0 : Int).toNat = 0 from rfl] at hz
          have hx2 := (blk_cell HP5.out.box 2).trans rfl
          have hx3 := (blk_cell HP5.out.box 3).trans rfl
          have q1 : (0 < order.length) = True := eq_true hpos
          have q2 : ((0 : Int) < (order.length : Int)) = True := eq_true (by omega)
          have hp0 := HP5.out.rng p0 (by rw [HOR.out.1]; exact List.mem_cons_self)
          have hnd : p0 ∉ rest := by
            have := HP5.out.nod
            rw [HOR.out.1] at this
            exact (List.nodup_cons.1 this).1
          obtain ⟨w6, hdel, hown6, hturn6⟩ := World.ownsMap.drop (w := w5.drew) HP5.out.map (Maps.int_keyed Try.underlying36) Try.underlying115 (key_of p0 hp0) 0
          have HDEL := Aside0.mk hdel
          have HP6 := Aside0.mk (Pl.del (w := w5.drew) ((HP5.out.drewN 1).keys (ks' := p0 :: rest) (by intro q; rw [HOR.out.1])) hnd hown6 hturn6.grown)
          have HB6 := Aside0.mk (blk_grown (blk_drew HB5.out) hturn6.grown (by
            intro e
            injection e with e
            obtain ⟨es, clock, hb, _⟩ := HP5.out.map
            rw [← e, HB5.out] at hb
            cases hb))
          have HK6 := Aside0.mk (Kp.of_grown hturn6.grown HK5.out.drew (fun k hk => by injection hk with hk; exact (HP5.out.om).imp (fun h => hk ▸ h) (fun h => by have := HG.out.2.1; omega)))
          have HV6 := Aside0.mk (Kd.R_grown2 (Kd.R_drew HV5.out) rfl hturn6.grown (map_ne HP5.out.map HV5.out))
          have hln : order.length = rest.length + 1 := (congrArg List.length HOR.out.1).trans rfl
          have hrow6 : Kd.R (Kd.int .u32) 36 w6 0 (fun k => ok k ∨ gb ≤ k) (.slice (some ⟨gr, 0, none⟩) order.length co) (p0 :: rest) := HOR.out.1 ▸ HP6.out.row
          have HR6 := Aside0.mk (And.intro hln hrow6)
          clear hdel hown6 hturn6 hnd hp0 hr0 hpos hln hrow6
          go_upto_region 14 with fail
          clear c1
          go_region_law (refine step_del rfl (.tmp 76) (.tmp 82) 115 36 rfl (by simp [Act.eval, Act.put]) (by simp [Act.eval, Act.put]) HDEL.out ?_)
          all_goals
            clear hz hx2 hx3 q1 q2
            have hx3 := (blk_cell HP6.out.box 3).trans rfl
            go_wp2_with (go_at_call 117; (with_reducible refine (delete_first w6 HR6.out.1 HR6.out.2).mono ?_); rintro en w7 ⟨rfl, hr, hg⟩; have HR7 := Aside0.mk (And.intro hr hg); have hbox7 := blk_grown HP6.out.box hg (Kd.R_ne HP6.out.row HP6.out.box (by decide)); have hz3 := blk_frozen hbox7 3; have hcz := (blk_cell hbox7 3).trans rfl; clear hr hg hbox7 hx3)
            go_meet
            have hnod : rest.Nodup := by
              have := HP6.out.nod
              rw [HOR.out.1] at this
              exact (List.nodup_cons.1 this).2
            have hll : order.length = rest.length + 1 := by rw [HOR.out.1]; rfl
            exact ⟨rfl, rest, _, _, ⟨by rw [if_pos HF.out, HOR.out.1]; rfl⟩, ⟨HP6.out.setRow HR7.out.2 HR7.out.1 hnod (by have := HP6.out.len; omega) (by have := HP6.out.len2; omega)⟩, ⟨blk_far (blk_grown HB6.out HR7.out.2 (by intro e; injection e with e; have h1 := HGR.out gr rfl; have h2 := HG.out.2.1; omega)) (p := ⟨g, 3, none⟩) (by have := HG.out; show gb ≠ g; omega) _⟩, ⟨(Kp.of_grown HR7.out.2 HK6.out (fun k hk => (HP6.out.row.1 k hk).imp id (fun h => by have := HG.out.2.1; omega))).setCell (p := ⟨g, 3, none⟩) (.inl HO.out) _⟩, ⟨Kd.R_set (Kd.R_over' HV6.out (Kd.R_typed HP6.out.row) (by decide) HR7.out.2) (blk_grown HP6.out.box HR7.out.2 (Kd.R_ne HP6.out.row HP6.out.box (by decide))) (by decide) 3 _⟩⟩
        · have c1 : ((order.length : Int) == size) = false := beq_eq_false_iff_ne.mpr hfull
          have HF := Aside0.mk hfull
          clear hfull
          go_upto_region 13 with fail
          go_quiet (fail)
          go_wp2
          go_meet
          exact ⟨rfl, order, _, _, ⟨by rw [if_neg HF.out]⟩, ⟨HP.out.drewN _⟩, ⟨blk_drewN HB.out _⟩, ⟨HK.out.drewN _⟩, ⟨Kd.R_drewN HV.out _⟩⟩
      case rest =>
        clear HP HB HK HV
        obtain ⟨rfl, ord, D1, vo1, HE, HP, HB, HK, HV⟩ := hcut
        have hno : p ∉ ord ∧ (ord ++ [p]).Nodup ∧ ((ord ++ [p]).length : Int) ≤ size ∧ ord.length < 4096 := by
          have h1 := HM.out
          have h2 := HL.out
          rw [HE.out]
          by_cases hf : (order.length : Int) = size
          · rw [if_pos hf]
            have hn : p ∉ order.drop 1 := fun hq => h1.1 (List.mem_of_mem_drop hq)
            refine ⟨hn, List.nodup_append.2 ⟨h1.2.2.2.sublist (List.drop_sublist _ _), List.nodup_cons.2 ⟨by simp, List.nodup_nil⟩, fun x hx y hy e => hn (by rw [List.mem_singleton.1 hy] at e; rw [← e]; exact hx)⟩, ?_, ?_⟩
            · rw [List.length_append, List.length_drop, List.length_singleton]
              omega
            · rw [List.length_drop]
              omega
          · rw [if_neg hf]
            refine ⟨h1.1, List.nodup_append.2 ⟨h1.2.2.2, List.nodup_cons.2 ⟨by simp, List.nodup_nil⟩, fun x hx y hy e => h1.1 (by rw [List.mem_singleton.1 hy] at e; rw [← e]; exact hx)⟩, ?_, h1.2.2.1⟩
            rw [List.length_append, List.length_singleton]
            omega
        have HNO := Aside0.mk hno
        clear hno
        have hx2 := (blk_cell HP.out.box 2).trans rfl
        have hb0 := (blk_cell HB.out 0).trans rfl
        obtain ⟨w5, hup, hown5, hturn5⟩ := World.ownsMap.store (w := wc.drew) HP.out.map (Maps.int_keyed Try.underlying36) Try.underlying115 (by have := HP.out.nb; have := HL.out.2.2.2.1; unfold maxLen; omega) (key_of p HG.out.2.2) (Rv_mk gv 512 cv)
        have HP5 := Aside0.mk (Pl.put (w := wc.drew) (HP.out.drewN 1) HG.out.2.2 HNO.out.1 (Rv_mk gv 512 cv) hown5 hturn5.grown (Kd.R_drew HV.out) HL.out.2.2.2.2.2.2)
        have HB5 := Aside0.mk (blk_grown (blk_drew HB.out) hturn5.grown (by
          intro e
          injection e with e
          obtain ⟨es, clock, hb, _⟩ := HP.out.map
          rw [← e, HB.out] at hb
          cases hb))
        have HK5 := Aside0.mk (Kp.of_grown hturn5.grown HK.out.drew (fun k hk => by injection hk with hk; exact (HP.out.om).imp (fun h => hk ▸ h) (fun h => by have := HG.out.2.1; omega)))
        have HV5 := Aside0.mk (Kd.R_grown2 (Kd.R_drew HV.out) rfl hturn5.grown (map_ne HP.out.map HV.out))
        clear hown5 hturn5
        go_upto_region 16 with fail
        go_region
        clear hx2 hb0 hup
        obtain ⟨Ao1, co1, ev1⟩ := Kd.R_slice HP5.out.row
        subst ev1
        obtain ⟨no, hno⟩ : ∃ no, no = ord.length := ⟨_, rfl⟩
        obtain ⟨v6, w6, hap, hR6, hG6, g6, c6, e6⟩ := row_append w5.drew (Kd.R_drew HP5.out.row) p (by intro k hk; exact .inr (by have h1 := HK5.out.1; have h2 := HG.out.2.1; have h3 : w5.drew.heap.size = w5.heap.size := rfl; omega)) (by have := HNO.out.2.2.2; omega) (no + 1) (by rw [hno])
        subst e6
        have hap2 : (Builtin.append_ #[53, 53] 53 #[.slice Ao1 ord.length co1, .slice (some ⟨w5.heap.size, 0, none⟩) 1 1]).run Try.prog (w5.alloc (.cells #[.int .u32 p] 36)).drew = _ := hap
        have hx3 := (blk_cell HP5.out.box 3).trans rfl
        have hx3a := (blk_cell (blk_alloc HP5.out.box (.cells #[.int .u32 p] 36)) 3).trans rfl
        have hb0 := (blk_cell HB5.out 0).trans rfl
        have hbox6 := blk_grown (blk_drew HP5.out.box) hG6 (Kd.R_ne (Kd.R_drew HP5.out.row) (blk_drew HP5.out.box) (by decide))
        have hx36 := (blk_cell hbox6 3).trans rfl
        have hf36 := blk_frozen hbox6 3
        have HR6 := Aside0.mk (And.intro hR6 hG6)
        have HAP := Aside0.mk hap2
        have HNN := Aside0.mk hno
        clear hR6 hG6 hbox6 hap hap2 hno
        go_upto_region 17 with fail
        go_region_law (refine step_run rfl (.tmp 101) (.tmp 103) 53 rfl (by simp [Act.eval, Act.put]) (by simp [Act.eval, Act.put]) HAP.out ?_)
        all_goals
          have HP7 := Aside0.mk ((Pl.setRow (order' := ord ++ [p]) (HP5.out.drewN 1) HR6.out.2 HR6.out.1 HNO.out.2.1 HNO.out.2.2.1 (by have := HNO.out.2.2.2; rw [List.length_append, List.length_singleton]; omega)).keys (ks' := ord ++ [p]) (by intro q; simp [or_comm]))
          have HK7 := Aside0.mk ((Kp.of_grown HR6.out.2 HK5.out.drew (fun k hk => (HP5.out.row.1 k hk).imp id (fun h => by have := HG.out.2.1; omega))).setCell (p := ⟨g, 3, none⟩) (.inl HO.out) (.slice (some ⟨g6, 0, none⟩) (no + 1) c6))
          have HV7 := Aside0.mk (Kd.R_set (Kd.R_over' (Kd.R_drew HV5.out) (Kd.R_typed (Kd.R_drew HP5.out.row)) (by decide) HR6.out.2) (blk_grown (blk_drew HP5.out.box) HR6.out.2 (Kd.R_ne (Kd.R_drew HP5.out.row) (blk_drew HP5.out.box) (by decide))) (by decide) 3 (.slice (some ⟨g6, 0, none⟩) (no + 1) c6))
          generalize w6.setCell ⟨g, 3, none⟩ (.slice (some ⟨g6, 0, none⟩) (no + 1) c6) = w7 at HP7 HK7 HV7 ⊢
          clear hx3 hx3a hb0 hx36 hf36
          go_wp2_with (go_at_call 49; (have hx := clone_ok (some ⟨gv, 0, none⟩) cv (pgf p) w7 (by have h3 := R_Cn HV7.out; rw [HL.out.2.2.2.2.2.2]; exact h3) (by have := HL.out.2.2.2.2.2.2; omega)); rw [HL.out.2.2.2.2.2.2] at hx; (with_reducible refine hx.mono ?_); clear hx; rintro en w8 ⟨v8, rfl, ho, hb⟩; have HO8 := Aside0.mk ho; have HB8 := Aside0.mk hb; clear ho hb)
          go_ret2
          have hE : ord' = ord := HORD.out.trans HE.out.symm
          subst hE
          refine ⟨v8, _, _, _, _, rfl, Kd.R_lower HO8.out HK7.out.1, ((HP7.out.bound.below HB8.out).mono fun k hk => ⟨hk.1.imp id (fun h => by have := HG.out.2.1; omega), fun e => ?_⟩), HK7.out.below HB8.out⟩
          have := Kd.R_base HO8.out k e.symm
          have := hk.2
          omega
end Go.Proofs.Ytpfegfkniilobaa.Pool
