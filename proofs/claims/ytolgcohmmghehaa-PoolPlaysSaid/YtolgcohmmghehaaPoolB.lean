/- The pool's blocks: its box, its map of pages, its order. What reads them, makes them, forgets them. Conditions: stated in each theorem. -/
import Derived.Test.YtolgcohmmghehaaPoolA
import Derived.Maps.OwnSet
import Derived.Carry
namespace Go.Proofs.Ytolgcohmmghehaa.Pool
open Go.Proofs.YtolgcohmmghehaaW
open Go.RowKit Go.Proofs.YtolgcohmmghehaaW.PrintWords Go.Proofs.YtolgcohmmghehaaW.PrintLast Go.Proofs.YtolgcohmmghehaaW.PrintMore Go.Proofs.Ytolgcohmmghehaa.Byt Go.Proofs.Ytolgcohmmghehaa.Dsk
set_option linter.unusedVariables false
set_option linter.unusedSimpArgs false
set_option maxRecDepth 100000
/-- What is kept of a world: all blocks but those of S, and what is no memory. -/
structure Kp (w W : World) (S : Nat → Prop) : Prop where
  size : w.heap.size ≤ W.heap.size
  same : ∀ i, i < w.heap.size → ¬ S i → W.heap[i]? = w.heap[i]?
  os : W.os = w.os
  tape : W.tape = w.tape
  output : W.output = w.output
section
variable {w W W2 : World} {S : Nat → Prop}
theorem Kp.kept (h : Kp w W S) : Kept w W S := ⟨h.size, h.same⟩
theorem Kp.of_below (h : Below w.heap.size w W) (S : Nat → Prop) : Kp w W S := ⟨h.size, fun i hi _ => h.block i hi, h.os, h.tape, h.output⟩
theorem Kp.below (h : Kp w W S) (hb : Below W.heap.size W W2) : Kp w W2 S := by
  have k := h.kept.below hb
  exact ⟨k.1, k.2, hb.os.trans h.os, hb.tape.trans h.tape, hb.output.trans h.output⟩
theorem Kp.drewN (h : Kp w W S) (m : Nat) : Kp w (W.drewN m) S := h.below (pw_below_drewN (Below.refl _ _) m)
theorem Kp.drew (h : Kp w W S) : Kp w W.drew S := h.below (below_drew1 (Below.refl _ _))
theorem Kp.setCell (h : Kp w W S) {p : Addr} (hp : S p.block ∨ w.heap.size ≤ p.block) (u : Value) : Kp w (W.setCell p u) S := by
  have k := h.kept.setCell hp u
  have b := (Below.refl 0 W).setCell (Nat.zero_le p.block) u
  exact ⟨k.1, k.2, b.os.trans h.os, b.tape.trans h.tape, b.output.trans h.output⟩
theorem Kp.of_grown {row : Option Nat} (hg : W.grownBy W2 row) (h : Kp w W S) (hr : ∀ k, row = some k → S k ∨ w.heap.size ≤ k) : Kp w W2 S := by
  have k := Kept.of_grown hg h.kept hr
  exact ⟨k.1, k.2, hg.os.trans h.os, hg.tape.trans h.tape, hg.output.trans h.output⟩
theorem Kp.to_below (h : Kp w W S) (B : Nat) (hB : ∀ k, S k → B ≤ k) (hw : B ≤ w.heap.size) : Below B w W := ⟨h.os, h.tape, h.output, h.size, fun k hk => h.same k (Nat.lt_of_lt_of_le hk hw) fun hs => Nat.lt_irrefl _ (Nat.lt_of_lt_of_le hk (hB k hs))⟩
end
/-- A row's head as a datum: which block, how long, how much room. -/
def Rv : Value → Option (DataW Unit × List MemPlace)
  | .slice none 0 0 => some (.agg [], [])
  | .slice (some ⟨g, 0, none⟩) n c => some (.agg [.lit (.int .i64 g), .lit (.int .i64 n), .lit (.int .i64 c)], [])
  | _ => none
theorem Rv_nil : Rv (.slice none 0 0) = some (.agg [], []) := rfl
theorem Rv_mk (g n c : Nat) : Rv (.slice (some ⟨g, 0, none⟩) n c) = some (.agg [.lit (.int .i64 g), .lit (.int .i64 n), .lit (.int .i64 c)], []) := rfl
theorem Rv_inj {v v' : Value} {d : DataW Unit} {ps ps' : List MemPlace} (h : Rv v = some (d, ps)) (h' : Rv v' = some (d, ps')) : v = v' := by
  unfold Rv at h h'
  split at h
  · split at h'
    · rfl
    · simp at h h'
      rw [← h.1] at h'
      simp at h'
    · simp at h'
  · split at h'
    · simp at h h'
      rw [← h'.1] at h
      simp at h
    · simp at h h'
      rw [← h.1] at h'
      simp at h'
      obtain ⟨⟨h1, h2, h3⟩, _⟩ := h'
      have e1 := Int.natCast_inj.mp h1
      have e2 := Int.natCast_inj.mp h2
      have e3 := Int.natCast_inj.mp h3
      subst e1 e2 e3
      rfl
    · simp at h'
  · simp at h
/-- A page's number as a key. -/
def kl (p : Int) : Lit := .int .u32 p
theorem key_of (p : Int) (h : 0 ≤ p ∧ p < 4294967296) : keyOf Try.prog 23 (.int .u32 p) = some (kl p) := Maps.keyOf_int_mk Try.underlying23 (by simp [Lit.wf, IntKind.min, IntKind.max, IntKind.signed, IntKind.bits]; omega)
theorem key_ne {p q : Int} (h : p ≠ q) : kl p ≠ kl q := fun e => h (by injection e)
/-- A pool, and what stands in its blocks. -/
structure Pl (w : World) (ok : Nat → Prop) (g gd : Nat) (size : Int) (order ks : List Int) (rd ht : Int) (pgf : Int → List Int) (N : Nat) (gm n : Nat) (D : DataW Unit) (vo : Value) : Prop where
  og : ok g
  om : ok gm
  box : w.heap[g]? = some (.cells #[.pointer (some ⟨gd, 0, none⟩), .int .i64 size, .map (some gm), vo, .int .u64 rd, .int .u64 ht] 122 (0, 0))
  row : Kd.R (Kd.int .u32) 23 w 0 ok vo order
  map : w.ownsMap Try.prog 23 Rv gm n D
  has : ∀ p, 0 ≤ p → p < 4294967296 → Maps.has D (kl p) = decide (p ∈ ks)
  val : ∀ p ∈ ks, ∃ v, (∀ z, ∃ ps, Rv v = some (D.atKey (kl p) z, ps)) ∧ Kd.R (Kd.int .u8) 5 w 0 ok v (pgf p)
  rng : ∀ p ∈ ks, 0 ≤ p ∧ p < 4294967296
  nod : order.Nodup
  len : (order.length : Int) ≤ size
  len2 : order.length ≤ 4096
  plen : ∀ p ∈ ks, (pgf p).length = 512
  nb : n ≤ N
section
variable {w w' : World} {ok ok' : Nat → Prop} {g gd : Nat} {size : Int} {order ks : List Int} {rd ht : Int} {pgf : Int → List Int} {N gm n : Nat} {D : DataW Unit} {vo : Value}
theorem Pl.mlt (h : Pl w ok g gd size order ks rd ht pgf N gm n D vo) : gm < w.heap.size := h.map.lt
theorem Pl.step (h : Pl w ok g gd size order ks rd ht pgf N gm n D vo) (hm : ∀ k, ok k → k < w.heap.size → w'.heap[k]? = w.heap[k]?) : Pl w' ok g gd size order ks rd ht pgf N gm n D vo where
  og := h.og
  om := h.om
  box := (hm g h.og (blk_lt h.box)).trans h.box
  row := Kd.R_step h.row hm
  map := by
    obtain ⟨es, clock, hb, hF⟩ := h.map
    exact ⟨es, clock, (hm gm h.om h.mlt).trans hb, hF⟩
  has := h.has
  val := fun p hp => by
    obtain ⟨v, h1, h2⟩ := h.val p hp
    exact ⟨v, h1, Kd.R_step h2 hm⟩
  rng := h.rng
  nod := h.nod
  len := h.len
  len2 := h.len2
  plen := h.plen
  nb := h.nb
theorem Pl.below (h : Pl w ok g gd size order ks rd ht pgf N gm n D vo) (hb : Below w.heap.size w w') : Pl w' ok g gd size order ks rd ht pgf N gm n D vo := h.step fun k _ hk => hb.block k hk
theorem Pl.alloc (h : Pl w ok g gd size order ks rd ht pgf N gm n D vo) (o : Obj) : Pl (w.alloc o) ok g gd size order ks rd ht pgf N gm n D vo := h.below (below_alloc (Below.refl _ _) o)
theorem Pl.drewN (h : Pl w ok g gd size order ks rd ht pgf N gm n D vo) (m : Nat) : Pl (w.drewN m) ok g gd size order ks rd ht pgf N gm n D vo := h.below (pw_below_drewN (Below.refl _ _) m)
theorem Pl.mono (h : Pl w ok g gd size order ks rd ht pgf N gm n D vo) (hm : ∀ k, ok k → ok' k) : Pl w ok' g gd size order ks rd ht pgf N gm n D vo where
  og := hm _ h.og
  om := hm _ h.om
  box := h.box
  row := Kd.R_mono h.row hm
  map := h.map
  has := h.has
  val := fun p hp => by
    obtain ⟨v, h1, h2⟩ := h.val p hp
    exact ⟨v, h1, Kd.R_mono h2 hm⟩
  rng := h.rng
  nod := h.nod
  len := h.len
  len2 := h.len2
  plen := h.plen
  nb := h.nb
theorem Pl.bound (h : Pl w ok g gd size order ks rd ht pgf N gm n D vo) : Pl w (fun k => ok k ∧ k < w.heap.size) g gd size order ks rd ht pgf N gm n D vo where
  og := ⟨h.og, blk_lt h.box⟩
  om := ⟨h.om, h.mlt⟩
  box := h.box
  row := Kd.R_mono (Kd.R_bound h.row) fun _ hk => ⟨hk.1, hk.2.2.1⟩
  map := h.map
  has := h.has
  val := fun p hp => by
    obtain ⟨v, h1, h2⟩ := h.val p hp
    exact ⟨v, h1, Kd.R_mono (Kd.R_bound h2) fun _ hk => ⟨hk.1, hk.2.2.1⟩⟩
  rng := h.rng
  nod := h.nod
  len := h.len
  len2 := h.len2
  plen := h.plen
  nb := h.nb
/-- The keys in another order. -/
theorem Pl.keys {ks' : List Int} (h : Pl w ok g gd size order ks rd ht pgf N gm n D vo) (he : ∀ p, p ∈ ks' ↔ p ∈ ks) : Pl w ok g gd size order ks' rd ht pgf N gm n D vo where
  og := h.og
  om := h.om
  box := h.box
  row := h.row
  map := h.map
  has := fun p h0 h1 => by rw [h.has p h0 h1]; exact decide_eq_decide.2 (he p).symm
  val := fun p hp => h.val p ((he p).1 hp)
  rng := fun p hp => h.rng p ((he p).1 hp)
  nod := h.nod
  len := h.len
  len2 := h.len2
  plen := fun p hp => h.plen p ((he p).1 hp)
  nb := h.nb
theorem Pl.mne (h : Pl w ok g gd size order ks rd ht pgf N gm n D vo) : gm ≠ g := fun e => by
  obtain ⟨es, clock, hb, _⟩ := h.map
  rw [e, h.box] at hb
  cases hb
/-- A cell of the box is written: a counter. -/
theorem Pl.setReads (h : Pl w ok g gd size order ks rd ht pgf N gm n D vo) (x : Int) : Pl (w.setCell ⟨g, 4, none⟩ (.int .u64 x)) ok g gd size order ks x ht pgf N gm n D vo where
  og := h.og
  om := h.om
  box := blk_put h.box 4 _ rfl
  row := Kd.R_set h.row h.box (by decide) 4 _
  map := h.map.setCell h.mne _
  has := h.has
  val := fun p hp => by
    obtain ⟨v, h1, h2⟩ := h.val p hp
    exact ⟨v, h1, Kd.R_set h2 h.box (by decide) 4 _⟩
  rng := h.rng
  nod := h.nod
  len := h.len
  len2 := h.len2
  plen := h.plen
  nb := h.nb
theorem Pl.setHits (h : Pl w ok g gd size order ks rd ht pgf N gm n D vo) (x : Int) : Pl (w.setCell ⟨g, 5, none⟩ (.int .u64 x)) ok g gd size order ks rd x pgf N gm n D vo where
  og := h.og
  om := h.om
  box := blk_put h.box 5 _ rfl
  row := Kd.R_set h.row h.box (by decide) 5 _
  map := h.map.setCell h.mne _
  has := h.has
  val := fun p hp => by
    obtain ⟨v, h1, h2⟩ := h.val p hp
    exact ⟨v, h1, Kd.R_set h2 h.box (by decide) 5 _⟩
  rng := h.rng
  nod := h.nod
  len := h.len
  len2 := h.len2
  plen := h.plen
  nb := h.nb
/-- The order's row has turned, and its head is laid into the box. -/
theorem Pl.setRow {order' : List Int} {vo' : Value} (h : Pl w ok g gd size order ks rd ht pgf N gm n D vo) (hg : w.grownBy w' vo.ownBlock) (hR : Kd.R (Kd.int .u32) 23 w' 0 ok vo' order') (hn : order'.Nodup) (hl : (order'.length : Int) ≤ size) (hl2 : order'.length ≤ 4096) :
    Pl (w'.setCell ⟨g, 3, none⟩ vo') ok g gd size order' ks rd ht pgf N gm n D vo' := by
  have hbox := blk_grown h.box hg (Kd.R_ne h.row h.box (by decide))
  have hmo : some gm ≠ vo.ownBlock := fun e => by
    obtain ⟨cells, hc⟩ := Kd.R_typed h.row gm e.symm
    obtain ⟨es, clock, hb, _⟩ := h.map
    rw [hc] at hb
    cases hb
  exact {
    og := h.og
    om := h.om
    box := blk_put hbox 3 _ rfl
    row := Kd.R_set hR hbox (by decide) 3 _
    map := (h.map.kept hg hmo).setCell h.mne _
    has := h.has
    val := fun p hp => by
      obtain ⟨v, h1, h2⟩ := h.val p hp
      exact ⟨v, h1, Kd.R_set (Kd.R_over' h2 (Kd.R_typed h.row) (by decide) hg) hbox (by decide) 3 _⟩
    rng := h.rng
    nod := hn
    len := hl
    len2 := hl2
    plen := h.plen
    nb := h.nb }
/-- What the map holds of a page. -/
theorem look_run {W : World} {gm n : Nat} {D : DataW Unit} (hm : W.ownsMap Try.prog 23 Rv gm n D) {p : Int} (hp : 0 ≤ p ∧ p < 4294967296) {v : Value} {ps : List MemPlace} (hv : Rv v = some (D.atKey (kl p) (.agg []), ps)) {b : Bool} (hb : Maps.has D (kl p) = b) :
    (Instr.lookup 115 (.map (some gm)) (.int .u32 p) true).run Try.prog W = .ok (.tuple #[v, .bool b]) W := by
  have hz : (zeroValue 26).run Try.prog W = .ok (.slice none 0 0) W := Try.zeroValue26 W
  obtain ⟨v', ps', h1, h2⟩ := hm.look_ok (Maps.int_keyed Try.underlying23) Try.underlying115 hz Rv_nil (key_of p hp)
  rw [Rv_inj hv h2, ← hb]
  exact h1
/-! ### what is read -/
theorem reads_ok (h : Pl w ok g gd size order ks rd ht pgf N gm n D vo) : Calls Try.prog 39 #[.pointer (some ⟨g, 0, none⟩)] w fun e w' => e = .returned (.int .u64 rd) ∧ w' = w := by
  have hc := (blk_cell h.box 4).trans rfl
  go_enter Try.func39, Try.ntmps39
  go_wp2_with (go_at_call 73; (with_reducible refine (load_ok _ _ rd hc ⟨_, _, rfl⟩).mono ?_); rintro en w1 ⟨rfl, rfl⟩)
  go_ret
  exact ⟨rfl, rfl⟩
theorem hits_ok (h : Pl w ok g gd size order ks rd ht pgf N gm n D vo) : Calls Try.prog 40 #[.pointer (some ⟨g, 0, none⟩)] w fun e w' => e = .returned (.int .u64 ht) ∧ w' = w := by
  have hc := (blk_cell h.box 5).trans rfl
  go_enter Try.func40, Try.ntmps40
  go_wp2_with (go_at_call 73; (with_reducible refine (load_ok _ _ ht hc ⟨_, _, rfl⟩).mono ?_); rintro en w1 ⟨rfl, rfl⟩)
  go_ret
  exact ⟨rfl, rfl⟩
theorem pages_ok {okd : Nat → Prop} {d : List Int} {t : List Bool} (h : Pl w ok g gd size order ks rd ht pgf N gm n D vo) (hd : Dk w okd gd d t) : Calls Try.prog 45 #[.pointer (some ⟨g, 0, none⟩)] w fun e w' => e = .returned (.int .i64 t.length) ∧ w' = w := by
  have hc := (blk_cell h.box 0).trans rfl
  go_enter Try.func45, Try.ntmps45
  go_wp2_with (go_at_call 33; (with_reducible refine (len_ok hd).mono ?_); rintro en w1 ⟨rfl, rfl⟩)
  go_ret
  exact ⟨rfl, rfl⟩
end
/-- Kept: a copy of the order. -/
theorem kept_ok {w : World} {ok : Nat → Prop} {g gd : Nat} {size : Int} {order ks : List Int} {rd ht : Int} {pgf : Int → List Int} {N gm n : Nat} {D : DataW Unit} {vo : Value} (h : Pl w ok g gd size order ks rd ht pgf N gm n D vo) :
    Calls Try.prog 42 #[.pointer (some ⟨g, 0, none⟩)] w fun e w' => ∃ v, e = .returned v ∧ Kd.R (Kd.int .u32) 23 w' w.heap.size (fun _ => True) v order ∧ Below w.heap.size w w' := by
  obtain ⟨A, c, e⟩ := Kd.R_slice h.row
  subst e
  have hC := (Kd.R_reads' h.row).2.2
  have hl := h.len2
  have hcl : Calls Try.prog 75 #[.slice A order.length c] w fun e w' => ∃ v, e = .returned v ∧ Kd.R (Kd.int .u32) 23 w' w.heap.size (fun _ => True) v order ∧ Below w.heap.size w w' := by
    cases A with
    | none =>
      refine (Try.slices_Clone_nil_f75 order.length c w).mono ?_
      rintro e w' ⟨rfl, rfl⟩
      have h0 : order = [] := List.eq_nil_of_length_eq_zero (by
        have := hC.2.2
        rcases Nat.eq_zero_or_pos order.length with h | h
        · exact h
        · obtain ⟨ad, he, _⟩ := this h
          cases he)
      rw [h0]
      exact ⟨_, rfl, Kd.R_nil _ _ _ _ _, Below.refl _ _⟩
    | some a =>
      obtain ⟨ga, ea⟩ := Kd.R_head h.row
      subst ea
      obtain ⟨i0, hi0, hz, hsz, hby⟩ := info_parts info23
      have hz23 : ∀ w, (Go.sizeOf 23).run Try.prog w = .ok 1 w := fun w => by simp [sizeOf, typeInfo, hi0, hsz]
      refine (Try.slices_Clone_f75 i0 (.int .u32 0) 1 4 hi0 hz hsz hby rfl (by decide) hz23 ga 0 order.length c (order.map (Value.int .u32)) w (by rw [List.length_map, Nat.mul_one]) (by unfold maxLen; omega) (by omega) ?_ ?_).mono ?_
      · intro j u hu
        rw [List.getElem?_map] at hu
        have hj : j < order.length := by
          rcases Nat.lt_or_ge j order.length with h | h
          · exact h
          · rw [List.getElem?_eq_none h] at hu
            cases hu
        obtain ⟨ad, he, hx⟩ := Kd.at_int hC (j : Int) (by omega) (by omega)
        injection he with he
        subst he
        rw [Int.toNat_natCast, add0] at hx
        rw [Nat.zero_add, hx, PrintWords.rd, Int.toNat_natCast, List.getD_eq_getElem?_getD]
        rw [List.getElem?_eq_getElem hj] at hu ⊢
        exact hu
      · intro u hu
        obtain ⟨x, _, rfl⟩ := List.mem_map.1 hu
        rfl
      · rintro e w' ⟨v, rfl, ho, _, hb⟩
        exact ⟨v, rfl, Kd.R_of_own (h1 := fun _ => rfl) ho (fun _ _ => trivial), hb⟩
  have hc := (blk_cell h.box 3).trans rfl
  have HC := Aside0.mk hcl
  clear hcl
  go_enter Try.func42, Try.ntmps42
  go_wp2_with (go_at_call 75; (with_reducible refine HC.out.mono ?_); rintro en w1 ⟨v, rfl, ho, hb⟩; have HO := Aside0.mk ho; have HB := Aside0.mk hb; clear ho hb)
  go_ret
  exact ⟨v, rfl, HO.out, HB.out⟩
theorem new_ok' (w : World) (gd : Nat) (size : Int) (h : 1 ≤ size) (pgf : Int → List Int) :
    Calls Try.prog 37 #[.pointer (some ⟨gd, 0, none⟩), .int .i64 size] w fun e w' => ∃ g gm, e = .returned (.tuple #[.pointer (some ⟨g, 0, none⟩), .int .i64 0]) ∧ Pl w' (fun k => w.heap.size ≤ k) g gd size [] [] 0 0 pgf 0 gm 0 (.map []) (.slice none 0 0) ∧ Below w.heap.size w w' := by
  have c1 : decide (size < 1) = false := decide_eq_false (by omega)
  have HS := Aside0.mk h
  clear h
  have hmk : ∀ W : World, (Instr.makeMap 115 none).run Try.prog W = .ok (.map (some W.heap.size)) (W.alloc (.map #[] 0)) := fun W => run_makeMap 115 W
  go_enter Try.func37, Try.ntmps37
  go_wp2
  go_ret2
  refine ⟨w.heap.size + 1, w.heap.size, rfl, ?_, below_alloc (below_alloc (Below.refl _ _) _) _⟩
  refine ⟨Nat.le_succ _, Nat.le_refl _, ?_, Kd.R_nil _ _ _ _ _, (World.ownsMap_made w Try.prog 23 Rv).alloc _, fun p _ _ => rfl, (fun p hp => nomatch hp), (fun p hp => nomatch hp), List.Pairwise.nil, by have := HS.out; simp; omega, Nat.zero_le _, (fun p hp => nomatch hp), Nat.le_refl _⟩
  have := blk_new (w.alloc (.map #[] 0)) (.cells #[.pointer (some ⟨gd, 0, none⟩), .int .i64 size, .map (some w.heap.size), .slice none 0 0, .int .u64 0, .int .u64 0] 122)
  rw [World.size_alloc] at this
  exact this
theorem new_nil (w : World) (size : Int) : Calls Try.prog 37 #[.pointer none, .int .i64 size] w fun e w' => e = .returned (.tuple #[.pointer none, .int .i64 1]) ∧ w' = w := by
  go_enter Try.func37, Try.ntmps37
  go_wp2
  go_ret2
  exact ⟨rfl, rfl⟩
theorem new_small (w : World) (gd : Nat) (size : Int) (h : size < 1) : Calls Try.prog 37 #[.pointer (some ⟨gd, 0, none⟩), .int .i64 size] w fun e w' => e = .returned (.tuple #[.pointer none, .int .i64 1]) ∧ w' = w := by
  have c1 : decide (size < 1) = true := decide_eq_true h
  clear h
  go_enter Try.func37, Try.ntmps37
  go_wp2
  go_ret2
  exact ⟨rfl, rfl⟩
theorem reads_nil (w : World) : Calls Try.prog 39 #[.pointer none] w fun e w' => e = .returned (.int .u64 0) ∧ w' = w := by
  go_enter Try.func39, Try.ntmps39
  go_wp2
  go_ret
  exact ⟨rfl, rfl⟩
theorem hits_nil (w : World) : Calls Try.prog 40 #[.pointer none] w fun e w' => e = .returned (.int .u64 0) ∧ w' = w := by
  go_enter Try.func40, Try.ntmps40
  go_wp2
  go_ret
  exact ⟨rfl, rfl⟩
theorem pages_nil (w : World) : Calls Try.prog 45 #[.pointer none] w fun e w' => e = .returned (.int .i64 0) ∧ w' = w := by
  go_enter Try.func45, Try.ntmps45
  go_wp2
  go_ret
  exact ⟨rfl, rfl⟩
theorem kept_nil (w : World) : Calls Try.prog 42 #[.pointer none] w fun e w' => e = .returned (.slice none 0 0) ∧ w' = w := by
  go_enter Try.func42, Try.ntmps42
  go_wp2
  go_ret
  exact ⟨rfl, rfl⟩
theorem get_nil (w : World) (p : Int) : Calls Try.prog 38 #[.pointer none, .int .u32 p] w fun e w' => e = .returned (.tuple #[.slice none 0 0, .int .i64 1]) ∧ Below w.heap.size w w' := by
  go_enter Try.func38, Try.ntmps38
  go_wp2
  go_ret2
  exact ⟨rfl, below_alloc (Below.refl _ _) _⟩
theorem reset_nil (w : World) : Calls Try.prog 41 #[.pointer none] w fun e w' => e = .returned (.tuple #[]) ∧ w' = w := by
  go_enter Try.func41, Try.ntmps41
  go_wp2
  (try simp only [Exit.inBlock, Exit.then])
  refine bodyPost_ret (results_none rfl _ _ _) rfl ?_
  exact ⟨rfl, rfl⟩
end Go.Proofs.Ytolgcohmmghehaa.Pool
