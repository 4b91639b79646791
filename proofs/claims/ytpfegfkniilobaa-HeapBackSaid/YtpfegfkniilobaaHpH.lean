/- A heap that is filled, in plain Lean: its state, another page, a record more; the blocks of the program's filler. Conditions: stated in each theorem. -/
import Derived.Test.YtpfegfkniilobaaDskJ
import Derived.Test.YtpfegfkniilobaaPureSlotsC
import Derived.Deep.RegionLaw
import Derived.Lib.LazyBuf
namespace Go.Proofs.Ytpfegfkniilobaa.Hp
open Go.RowKit Go.Proofs.YtpfegfkniilobaaW.PrintWords Go.Proofs.YtpfegfkniilobaaW.PrintLast Go.Proofs.YtpfegfkniilobaaW.PrintMore Go.Proofs.Ytpfegfkniilobaa.Byt Go.Proofs.Ytpfegfkniilobaa.Dsk Go.Proofs.Ytpfegfkniilobaa.XHeap
open Go.Proofs.Ytpfegfkniilobaa.PureSl (room Ok txt)
set_option linter.unusedVariables false
set_option linter.unusedSimpArgs false
/-- What is kept of a world: all blocks but those of S, and what is no memory. -/
structure Kp (w W : World) (S : Nat → Prop) : Prop where
  size : w.heap.size ≤ W.heap.size
  same : ∀ i, i < w.heap.size → ¬ S i → W.heap[i]? = w.heap[i]?
  os : W.os = w.os
  tape : W.tape = w.tape
  output : W.output = w.output
section
variable {w W W2 : World} {S S2 D : Nat → Prop}
theorem Kp.refl (w : World) (S : Nat → Prop) : Kp w w S := ⟨Nat.le_refl _, fun _ _ _ => rfl, rfl, rfl, rfl⟩
theorem Kp.kept (h : Kp w W S) : Kept w W S := ⟨h.size, h.same⟩
theorem Kp.of_below (h : Below w.heap.size w W) (S : Nat → Prop) : Kp w W S := ⟨h.size, fun i hi _ => h.block i hi, h.os, h.tape, h.output⟩
theorem Kp.then_ (h : Kp w W S) (k : Kp W W2 S2) (hs : ∀ i, S2 i → S i ∨ w.heap.size ≤ i) : Kp w W2 S :=
  ⟨Nat.le_trans h.size k.size, fun i hi hn => (k.same i (Nat.lt_of_lt_of_le hi h.size) (fun h2 => (hs i h2).elim hn (fun h3 => by omega))).trans (h.same i hi hn), k.os.trans h.os, k.tape.trans h.tape, k.output.trans h.output⟩
theorem Kp.below (h : Kp w W S) (hb : Below W.heap.size W W2) : Kp w W2 S := h.then_ (Kp.of_below hb (fun _ => False)) (fun _ hk => hk.elim)
theorem Kp.drew (h : Kp w W S) : Kp w W.drew S := ⟨h.size, h.same, h.os, h.tape, h.output⟩
theorem Kp.setCell (h : Kp w W S) {p : Addr} (hp : S p.block ∨ w.heap.size ≤ p.block) (u : Value) : Kp w (W.setCell p u) S := by
  have k := h.kept.setCell hp u
  have b := (Below.refl 0 W).setCell (Nat.zero_le p.block) u
  exact ⟨k.1, k.2, b.os.trans h.os, b.tape.trans h.tape, b.output.trans h.output⟩
theorem Kp.grown {row : Option Nat} (h : Kp w W S) (hg : W.grownBy W2 row) (hr : ∀ k, row = some k → S k ∨ w.heap.size ≤ k) : Kp w W2 S := by
  have k := Kept.of_grown hg h.kept hr
  exact ⟨k.1, k.2, hg.os.trans h.os, hg.tape.trans h.tape, hg.output.trans h.output⟩
/-- A call of the disk's. -/
theorem Kp.call (h : Kp w W S) (hk : Kept W W2 D) (hb : ∀ B, (∀ k, D k → B ≤ k) → Below B W W2) (hs : ∀ i, D i → S i ∨ w.heap.size ≤ i) : Kp w W2 S := by
  have b := hb 0 (fun _ _ => Nat.zero_le _)
  exact h.then_ (S2 := D) ⟨hk.1, hk.2, b.os, b.tape, b.output⟩ hs
theorem Kp.to_below (h : Kp w W S) (B : Nat) (hB : ∀ k, S k → B ≤ k) (hw : B ≤ w.heap.size) : Below B w W := ⟨h.os, h.tape, h.output, h.size, fun k hk => h.same k (Nat.lt_of_lt_of_le hk hw) fun hs => Nat.lt_irrefl _ (Nat.lt_of_lt_of_le hk (hB k hs))⟩
end
abbrev hp (nx : Int) (rs : List (List Int)) : List Int := PureSl.pg nx rs
/-- A heap that is filled: the disk, its last page, the records there; whether it began, and where. -/
structure St where
  d : List Int
  t : List Bool
  pg : Int
  rs : List (List Int)
  beg : Bool
  first : Int
def nextS (s : St) : Int × St :=
  if (tkF s.t).2.1 = 0 then (0, if s.beg = true then ⟨(wrG s.d (tkF s.t).2.2 s.pg (hp (tkF s.t).1 s.rs)).1, (wrG s.d (tkF s.t).2.2 s.pg (hp (tkF s.t).1 s.rs)).2.1, (tkF s.t).1, [], true, s.first⟩ else ⟨s.d, (tkF s.t).2.2, (tkF s.t).1, [], true, (tkF s.t).1⟩)
  else ((tkF s.t).2.1, if s.beg = true then ⟨(wrG s.d (tkF s.t).2.2 s.pg (hp 0 s.rs)).1, (wrG s.d (tkF s.t).2.2 s.pg (hp 0 s.rs)).2.1, s.pg, s.rs, true, s.first⟩ else s)
theorem tkF_cases (t : List Bool) : tkF t = (0, 7, t) ∨ ∃ n, tkF t = (n, 0, t.set n.toNat true) ∧ 0 ≤ n ∧ n < t.length := by
  unfold tkF
  by_cases h : ix t 0 = -1
  · exact .inl (by rw [if_pos h])
  · refine .inr ⟨ix t 0, by rw [if_neg h], ?_⟩
    rcases ix_in t 0 with h1 | h1
    · exact absurd h1 h
    · omega
structure SOk (s : St) : Prop where
  rs : Ok 0 s.rs
  pg : 0 ≤ s.pg ∧ s.pg < 4294967296
  len : s.d.length = 512 * s.t.length
  n4 : 0 < s.t.length ∧ s.t.length ≤ 4096
  by_ : By s.d
theorem ok_link {rs : List (List Int)} {n : Int} (h : Ok 0 rs) (hn : 0 ≤ n ∧ n < 4294967296) : Ok n rs := ⟨h.sz, h.pos, h.by_, hn⟩
theorem wrG_dlen {d bs : List Int} {t : List Bool} {p : Int} (h : d.length = 512 * t.length) (h0 : 0 ≤ p) : (wrG d t p bs).1.length = 512 * (wrG d t p bs).2.1.length := by
  unfold wrG
  split
  · split
    · rw [length_splice _ _ _ (by omega), List.length_set]
      exact h
    · exact h
  · exact h
theorem nextS_ok {s : St} (h : SOk s) : SOk (nextS s).2 := by
  unfold nextS
  have hz : Ok 0 [] := PureSl.ok_nil 0 (by omega)
  have h4 := h.n4
  rcases tkF_cases s.t with e | ⟨n, e, h1, h2⟩
  · rw [e]
    simp only
    rw [if_neg (by decide)]
    split
    · refine ⟨h.rs, h.pg, wrG_dlen h.len h.pg.1, by rw [wrG_len]; exact h4, wrG_by _ _ h.by_ (PureSl.pg_by 0 s.rs h.rs.by_)⟩
    · exact h
  · rw [e]
    simp only [if_true]
    split
    · refine ⟨hz, ⟨h1, by show n < 4294967296; omega⟩, ?_, by rw [wrG_len, List.length_set]; exact h4, wrG_by _ _ h.by_ (PureSl.pg_by n s.rs h.rs.by_)⟩
      exact wrG_dlen (by rw [List.length_set]; exact h.len) h.pg.1
    · exact ⟨hz, ⟨h1, by show n < 4294967296; omega⟩, by rw [List.length_set]; exact h.len, by rw [List.length_set]; exact h4, h.by_⟩
theorem nextS_len (s : St) : (nextS s).2.t.length = s.t.length := by
  unfold nextS
  rcases tkF_cases s.t with e | ⟨n, e, h1, h2⟩
  · rw [e]
    simp only
    rw [if_neg (by decide)]
    split
    · rw [wrG_len]
    · rfl
  · rw [e]
    simp only [if_true]
    split
    · rw [wrG_len, List.length_set]
    · rw [List.length_set]
theorem nextS_zero {s : St} (h : (nextS s).1 = 0) : (nextS s).2.rs = [] ∧ (nextS s).2.beg = true := by
  unfold nextS at h ⊢
  split
  · split <;> exact ⟨rfl, rfl⟩
  · rename_i hn
    rw [if_neg hn] at h
    exact absurd h hn
/-- One record more: the error, the state behind it, where it stands. -/
def addS (s : St) (r : List Int) : Int × St × S50 :=
  if room s.rs < r.length then
    (if (nextS s).1 = 0 then (0, { (nextS s).2 with rs := (nextS s).2.rs ++ [r] }, ⟨(nextS s).2.pg, ((nextS s).2.rs.length : Int) % 65536⟩) else ((nextS s).1, (nextS s).2, ⟨0, 0⟩))
  else (0, { s with rs := s.rs ++ [r] }, ⟨s.pg, (s.rs.length : Int) % 65536⟩)
/-- The records are added, one by one; where each stands. -/
def fillS : List (List Int) → St → List S50 → Int × St × List S50
  | [], s, o => (0, s, o)
  | r :: l, s, o => if (addS s r).1 = 0 then fillS l (addS s r).2.1 (o ++ [(addS s r).2.2]) else ((addS s r).1, (addS s r).2.1, o)
theorem addS_ok {s : St} (h : SOk s) (r : List Int) (h0 : 0 < r.length) (h5 : r.length ≤ 500) (hy : By r) : SOk (addS s r).2.1 := by
  unfold addS
  split
  · split
    · rename_i hz
      have h1 := nextS_ok h
      obtain ⟨h2, h3⟩ := nextS_zero hz
      exact ⟨by rw [h2]; exact (PureSl.ok_nil 0 (by omega)).more r h0 hy h5, h1.pg, h1.len, h1.n4, h1.by_⟩
    · exact nextS_ok h
  · exact ⟨h.rs.more r h0 hy (by omega), h.pg, h.len, h.n4, h.by_⟩
theorem addS_len (s : St) (r : List Int) : (addS s r).2.1.t.length = s.t.length := by
  unfold addS
  split
  · split <;> exact nextS_len s
  · rfl
theorem addS_beg {s : St} (r : List Int) (h : s.beg = true) : (addS s r).2.1.beg = true := by
  have hn : (nextS s).2.beg = true := by
    unfold nextS
    rw [h]
    split <;> rfl
  unfold addS
  split
  · split <;> exact hn
  · exact h
def badR (r : List Int) : Bool := decide (r.length = 0 ∨ 500 < r.length)
/-- A heap over a disk: the error, the disk behind it, the first page, where the records stand. -/
def fillF (d : List Int) (t : List Bool) (l : List (List Int)) : Int × St × List S50 :=
  if l.any badR = true then (1, ⟨d, t, 0, [], false, 0⟩, []) else
  if (nextS ⟨d, t, 0, [], false, 0⟩).1 = 0 then
    (match fillS l (nextS ⟨d, t, 0, [], false, 0⟩).2 [] with
    | (e, s, o) => if e = 0 then (0, { s with d := (wrG s.d s.t s.pg (hp 0 s.rs)).1, t := (wrG s.d s.t s.pg (hp 0 s.rs)).2.1 }, o) else (e, s, o))
  else ((nextS ⟨d, t, 0, [], false, 0⟩).1, (nextS ⟨d, t, 0, [], false, 0⟩).2, [])
/-- The filler's block, the disk it writes to, the bytes of its last page. -/
def Fl (W : World) (D : Nat → Prop) (base gd gf : Nat) (s : St) : Prop :=
  Dk W D gd s.d s.t ∧ base ≤ gf ∧ ∃ v, W.heap[gf]? = some (.cells #[.pointer (some ⟨gd, 0, none⟩), .int .u32 s.pg, v] 102 (0, 0)) ∧ (s.beg = true → Kd.R (Kd.int .u8) 5 W base (fun k => base ≤ k) v (hp 0 s.rs)) ∧ (s.beg = false → v = .slice none 0 0)
end Go.Proofs.Ytpfegfkniilobaa.Hp
namespace Go.Proofs.Ytpfegfkniilobaa.Hp
open Go.RowKit Go.Proofs.YtpfegfkniilobaaW.PrintWords Go.Proofs.YtpfegfkniilobaaW.PrintLast Go.Proofs.YtpfegfkniilobaaW.PrintMore Go.Proofs.Ytpfegfkniilobaa.Byt Go.Proofs.Ytpfegfkniilobaa.Dsk Go.Proofs.Ytpfegfkniilobaa.XHeap
open Go.Proofs.Ytpfegfkniilobaa.PureSl (room Ok txt)
set_option linter.unusedVariables false
set_option linter.unusedSimpArgs false
set_option maxRecDepth 100000
theorem nil_C (W : World) : Kd.C (Kd.int .u8) W none 0 [] := (Kd.R_reads' (Kd.R_nil (Kd.int .u8) 5 W 0 (fun _ => True))).2.2
theorem wrG_nil (d : List Int) (t : List Bool) (p : Int) : (wrG d t p []).1 = d ∧ (wrG d t p []).2.1 = t := by
  unfold wrG
  split
  · rw [if_neg (by simp)]
    exact ⟨rfl, rfl⟩
  · exact ⟨rfl, rfl⟩
theorem nq_none (W : World) : (binOp .neq 52 (.slice none 0 0) (.slice none 0 0)).run Try.prog W = .ok (.bool false) W := by rw [run_neq_slice_nil W 52 5 none 0 0 Try.underlying52]; rfl
theorem nq_some (W : World) (a : Addr) (n c : Nat) : (binOp .neq 52 (.slice (some a) n c) (.slice none 0 0)).run Try.prog W = .ok (.bool true) W := by rw [run_neq_slice_nil W 52 5 (some a) n c Try.underlying52]; rfl
theorem dk_far {W : World} {D : Nat → Prop} {g gf j : Nat} {d : List Int} {t : List Bool} (h : Dk W D g d t) (hn : ∀ k, D k → k ≠ gf) (u : Value) : Dk (W.setCell ⟨gf, j, none⟩ u) D g d t := h.step fun k hk _ => Below.heap_setCell W ⟨gf, j, none⟩ u k (hn k hk)
/-- A row of a page's bytes: its head is no nil. -/
theorem row512 {W : World} {base : Nat} {ok : Nat → Prop} {v : Value} {xs : List Int} (h : Kd.R (Kd.int .u8) 5 W base ok v xs) (hl : xs.length = 512) : ∃ g c, v = .slice (some ⟨g, 0, none⟩) 512 c ∧ 512 ≤ c ∧ Kd.C (Kd.int .u8) W (some ⟨g, 0, none⟩) 512 xs := by
  obtain ⟨g, c, rfl, _⟩ := Kd.R_form h (by omega)
  have h3 := Kd.R_reads' h
  rw [hl] at h3
  exact ⟨g, c, by rw [hl], h3.2.1, h3.2.2⟩
theorem link_ok {rs : List (List Int)} {n : Int} (h : Ok 0 rs) (hn : 0 ≤ n ∧ n < 4294967296) (A : Option Addr) (c : Nat) (w : World) (hC : Kd.C (Kd.int .u8) w A 512 (hp 0 rs)) (hc : 512 ≤ c) : Calls Try.prog 81 #[.slice A 512 c, .int .u32 n] w fun e w' => ∃ v, e = .returned (.tuple #[v, .int .i64 0]) ∧ Kd.R (Kd.int .u8) 5 w' w.heap.size (fun _ => True) v (hp n rs) ∧ Below w.heap.size w w' := by
  have hx := slots_Link.calls 200 A c (hp 0 rs) n (hp n rs) 0 w (by rw [h.len]; exact hC) (by rw [h.len]; exact hc) (h.link (ok_link h hn) 0)
  rw [h.len] at hx
  exact hx
theorem new_page (w : World) : Calls Try.prog 82 #[.int .u32 0] w fun e w' => ∃ v, e = .returned v ∧ Kd.R (Kd.int .u8) 5 w' w.heap.size (fun _ => True) v (hp 0 []) ∧ Below w.heap.size w w' := slots_New.calls 0 (hp 0 []) w (PureSl.new_f 0 (by omega))
theorem V_of {w : World} {A : Option Addr} {n c base : Nat} {xs : List Int} (h : Kd.C (Kd.int .u8) w A n xs) (hn : n = xs.length) (hc : n ≤ c) : Kd.V (Kd.int .u8) 5 w base (fun k => k < w.heap.size) (.slice A n c) xs := by
  subst hn
  exact Kd.V_mk hc (Kd.C_F (Kd.heap_int _) h)
/-- A record is added to a page. -/
theorem add_page {rs : List (List Int)} (h : Ok 0 rs) (r : List Int) (hr : 0 < r.length) (hy : By r) (hf : r.length ≤ room rs) (A A1 : Option Addr) (c c1 : Nat) (w : World) (hC : Kd.C (Kd.int .u8) w A 512 (hp 0 rs)) (hc : 512 ≤ c) (hC1 : Kd.C (Kd.int .u8) w A1 r.length r) (hc1 : r.length ≤ c1) : Calls Try.prog 83 #[.slice A 512 c, .slice A1 r.length c1] w fun e w' => ∃ v, e = .returned (.tuple #[v, .int .i64 (rs.length : Int), .int .i64 0]) ∧ Kd.R (Kd.int .u8) 5 w' w.heap.size (fun _ => True) v (hp 0 (rs ++ [r])) ∧ Below w.heap.size w w' := by
  have hx := slots_Add.calls 200 A c (hp 0 rs) (fun k => k < w.heap.size) A1 c1 r (hp 0 (rs ++ [r])) (rs.length : Int) 0 w (by rw [h.len]; exact hC) (by rw [h.len]; exact hc) (V_of hC1 rfl hc1) (h.add 0 r hr hy hf)
  rw [h.len] at hx
  refine hx.mono ?_
  rintro e w' ⟨v, rfl, ho, hb⟩
  exact ⟨v, rfl, Kd.R_mono ho (fun _ _ => trivial), hb⟩
theorem add_not {rs : List (List Int)} (h : Ok 0 rs) (r : List Int) (hr : 0 < r.length) (hf : room rs < r.length) (A A1 : Option Addr) (c c1 : Nat) (w : World) (hC : Kd.C (Kd.int .u8) w A 512 (hp 0 rs)) (hc : 512 ≤ c) (hC1 : Kd.C (Kd.int .u8) w A1 r.length r) (hc1 : r.length ≤ c1) : Calls Try.prog 83 #[.slice A 512 c, .slice A1 r.length c1] w fun e w' => ∃ v, e = .returned (.tuple #[v, .int .i64 0, .int .i64 7]) ∧ Below w.heap.size w w' := by
  have hx := slots_Add.calls 200 A c (hp 0 rs) (fun k => k < w.heap.size) A1 c1 r [] 0 7 w (by rw [h.len]; exact hC) (by rw [h.len]; exact hc) (V_of hC1 rfl hc1) (h.add_full 0 r hr hf)
  rw [h.len] at hx
  refine hx.mono ?_
  rintro e w' ⟨v, rfl, ho, hb⟩
  exact ⟨v, rfl, hb⟩
section
variable {W : World} {D : Nat → Prop} {base gd gf : Nat} {s : St}
set_option maxHeartbeats 4000000 in
theorem next_full0 (hD : ∀ k, D k → k < base) (h : Fl W D base gd gf s) (ho : SOk s) (hb : s.beg = false) (ht : tkF s.t = (0, 7, s.t)) :
    Calls Try.prog 40 #[.pointer (some ⟨gf, 0, none⟩)] W fun e W' => e = .returned (.int .i64 7) ∧ Fl W' D base gd gf s ∧ Kp W W' D := by
  obtain ⟨hdk, hgf, v, hx, hb1, hb0⟩ := h
  obtain rfl := hb0 hb
  have hT := take_any hdk
  rw [ht] at hT
  have HT := Aside0.mk hT
  have HX := Aside0.mk hx
  have HD := Aside0.mk hD
  have HS := Aside0.mk (And.intro hb (And.intro hgf ho.pg))
  have hx0 := (blk_cell HX.out 0).trans rfl
  clear hdk hx hT hD hb hgf hb1 hb0 ho
  go_enter Try.func40, Try.ntmps40
  go_upto_region 3 with (go_at_call 80; (with_reducible refine HT.out.mono ?_); rintro en w1 ⟨rfl, hd1, hk1, hb1⟩; have HX1 := Aside0.mk (blk_kept HX.out hk1 (fun hd => by have := HD.out gf hd; have := HS.out.2.1; omega)); have HD1 := Aside0.mk hd1; have HK1 := Aside0.mk ((Kp.refl W D).call hk1 hb1 (fun _ hk => .inl hk)); clear hd1 hk1 hb1 hx0)
  have hy0 := (blk_cell HX1.out 0).trans rfl
  have hy1 := (blk_cell HX1.out 1).trans rfl
  have hy2 := (blk_cell HX1.out 2).trans rfl
  go_region_law (refine goes_ Try.func42 (by kernel_rfl) rfl #[.pointer (some ⟨gd, 0, none⟩), .int .u32 s.pg, .slice none 0 0] rfl rfl rfl (by simp [Act.eval, Act.put]) ?_; (with_reducible refine (write_all (HD1.out.below (below_drew1 (Below.refl _ _))) s.pg none 0 0 [] HS.out.2.2.1 HS.out.2.2.2 rfl (nil_C _)).mono ?_); rintro en w2 ⟨rfl, hd2, hk2, hb2⟩; refine ⟨_, rfl, ?_⟩; have HX2 := Aside0.mk (blk_kept (blk_drew HX1.out) hk2 (fun hd => by have := HD.out gf hd; have := HS.out.2.1; omega)); have HD2 := Aside0.mk hd2; have HK2 := Aside0.mk (HK1.out.drew.call hk2 hb2 (fun _ hk => .inl hk)); clear hd2 hk2 hb2 hy0 hy1 hy2)
  all_goals
    go_wp2
    go_ret
    have hd := HD2.out
    rw [(wrG_nil _ _ _).1, (wrG_nil _ _ _).2] at hd
    exact ⟨rfl, ⟨hd, HS.out.2.1, _, HX2.out, (fun h => by rw [HS.out.1] at h; cases h), fun _ => rfl⟩, HK2.out⟩
set_option maxHeartbeats 4000000 in
theorem next_full1 (hD : ∀ k, D k → k < base) (h : Fl W D base gd gf s) (ho : SOk s) (hb : s.beg = true) (ht : tkF s.t = (0, 7, s.t)) :
    Calls Try.prog 40 #[.pointer (some ⟨gf, 0, none⟩)] W fun e W' => e = .returned (.int .i64 7) ∧ Fl W' D base gd gf ⟨(wrG s.d s.t s.pg (hp 0 s.rs)).1, (wrG s.d s.t s.pg (hp 0 s.rs)).2.1, s.pg, s.rs, true, s.first⟩ ∧ Kp W W' (fun k => D k ∨ k = gf) := by
  obtain ⟨hdk, hgf, v, hx, hb1, hb0⟩ := h
  have hT := take_any hdk
  rw [ht] at hT
  have HT := Aside0.mk hT
  have HD := Aside0.mk hD
  have hl := ho.rs.len
  obtain ⟨g, c, rfl, hc, _⟩ := row512 (hb1 hb) hl
  have HR := Aside0.mk (hb1 hb)
  have HX := Aside0.mk hx
  have HS := Aside0.mk (And.intro hb (And.intro hgf ho.pg))
  have HL := Aside0.mk (And.intro hl hc)
  have hx0 := (blk_cell HX.out 0).trans rfl
  clear hdk hx hT hD hb hgf hb1 hb0 ho hl hc
  go_enter Try.func40, Try.ntmps40
  go_upto_region 3 with (go_at_call 80; (with_reducible refine HT.out.mono ?_); rintro en w1 ⟨rfl, hd1, hk1, hb1⟩; have HX1 := Aside0.mk (blk_kept HX.out hk1 (fun hd => by have := HD.out gf hd; have := HS.out.2.1; omega)); have HD1 := Aside0.mk hd1; have HK1 := Aside0.mk ((Kp.refl W (fun k => D k ∨ k = gf)).call hk1 hb1 (fun _ hk => .inl (.inl hk))); have HR1 := Aside0.mk (Kd.R_kept HR.out hk1 (fun k hE hDk => by have := HD.out k hDk; omega)); clear hd1 hk1 hb1 hx0)
  have hy0 := (blk_cell HX1.out 0).trans rfl
  have hy1 := (blk_cell HX1.out 1).trans rfl
  have hy2 := (blk_cell HX1.out 2).trans rfl
  go_region_law (refine goes_ Try.func42 (by kernel_rfl) rfl #[.pointer (some ⟨gd, 0, none⟩), .int .u32 s.pg, .slice (some ⟨g, 0, none⟩) 512 c] rfl rfl rfl (by simp [Act.eval, Act.put]) ?_; (with_reducible refine (write_all (HD1.out.below (below_drew1 (Below.refl _ _))) s.pg (some ⟨g, 0, none⟩) 512 c (hp 0 s.rs) HS.out.2.2.1 HS.out.2.2.2 HL.out.1 (R_Cn (Kd.R_drew HR1.out))).mono ?_); rintro en w2 ⟨rfl, hd2, hk2, hb2⟩; refine ⟨_, rfl, ?_⟩; have HX2 := Aside0.mk (blk_kept (blk_drew HX1.out) hk2 (fun hd => by have := HD.out gf hd; have := HS.out.2.1; omega)); have HR2 := Aside0.mk (Kd.R_kept (Kd.R_drew HR1.out) hk2 (fun k hE hDk => by have := HD.out k hDk; omega)); have HD2 := Aside0.mk hd2; have HK2 := Aside0.mk (HK1.out.drew.call hk2 hb2 (fun _ hk => .inl (.inl hk))); clear hd2 hk2 hb2 hy0 hy1 hy2)
  all_goals
    go_wp2
    go_ret
    exact ⟨rfl, ⟨HD2.out, HS.out.2.1, _, HX2.out, (fun _ => HR2.out), (fun h => by cases h)⟩, HK2.out⟩
set_option maxHeartbeats 4000000 in
theorem next_free0 {n : Int} (hD : ∀ k, D k → k < base) (hB : base ≤ W.heap.size) (h : Fl W D base gd gf s) (ho : SOk s) (hb : s.beg = false) (ht : tkF s.t = (n, 0, s.t.set n.toNat true)) :
    Calls Try.prog 40 #[.pointer (some ⟨gf, 0, none⟩)] W fun e W' => e = .returned (.int .i64 0) ∧ Fl W' D base gd gf ⟨s.d, s.t.set n.toNat true, n, [], true, n⟩ ∧ Kp W W' (fun k => D k ∨ k = gf) := by
  obtain ⟨hdk, hgf, v, hx, hb1, hb0⟩ := h
  have hT := take_any hdk
  rw [ht] at hT
  have HT := Aside0.mk hT
  have HD := Aside0.mk hD
  obtain rfl := hb0 hb
  have HX := Aside0.mk hx
  have HS := Aside0.mk (And.intro hb (And.intro hgf ho.pg))
  have HBB := Aside0.mk hB
  have hx0 := (blk_cell HX.out 0).trans rfl
  have nq := nq_none
  clear hdk hx hT hD hb hgf hb1 hb0 ho hB
  go_enter Try.func40, Try.ntmps40
  go_upto_region 5 with (go_at_call 80; (with_reducible refine HT.out.mono ?_); rintro en w1 ⟨rfl, hd1, hk1, hb1⟩; have HX1 := Aside0.mk (blk_kept HX.out hk1 (fun hd => by have := HD.out gf hd; have := HS.out.2.1; omega)); have HD1 := Aside0.mk hd1; have HK1 := Aside0.mk ((Kp.refl W (fun k => D k ∨ k = gf)).call hk1 hb1 (fun _ hk => .inl (.inl hk))); clear hd1 hk1 hb1 hx0)
  have hy2 := (blk_cell HX1.out 2).trans rfl
  have HD2 := HD1
  have HX2 := HX1
  have HK2 := HK1
  have HBS := Aside0.mk (Nat.le_trans HBB.out HK2.out.size)
  go_wp2_with (go_at_call 82; ((with_reducible refine (new_page _).mono ?_); rintro en w3 ⟨v3, rfl, ho3, hb3⟩; (obtain ⟨g3, c3, rfl, _, _⟩ := row512 ho3 (PureSl.ok_nil 0 (by omega)).len); have HD3 := Aside0.mk (HD2.out.below hb3); have HX3 := Aside0.mk (blk_below HX2.out hb3); have HK3 := Aside0.mk (HK2.out.below hb3); have HN3 := Aside0.mk (Kd.R_mono (Kd.R_bound (Kd.R_lower ho3 HBS.out)) (fun k hk => hk.2.1)); clear ho3 hb3; have hz0 := (blk_cell HX3.out 0).trans rfl; have hz1 := (blk_cell HX3.out 1).trans rfl; have hz2 := (blk_cell HX3.out 2).trans rfl; have hzf1 := blk_frozen HX3.out 1; have hzf2 := blk_frozen HX3.out 2; have hzl := blk_lt HX3.out; clear hy2))
  go_ret
  have hne : ∀ k, D k → k ≠ gf := fun k hk e => by have := HD.out k hk; have := HS.out.2.1; omega
  exact ⟨rfl, ⟨dk_far (dk_far HD3.out hne _) hne _, HS.out.2.1, .slice (some ⟨g3, 0, none⟩) 512 c3, blk_put (blk_put HX3.out 1 _ rfl) 2 _ rfl, (fun _ => Kd.R_set (Kd.R_set HN3.out HX3.out (by decide) 1 _) (blk_put HX3.out 1 _ rfl) (by decide) 2 _), (fun h => by cases h)⟩, (HK3.out.setCell (.inl (.inr rfl)) _).setCell (.inl (.inr rfl)) _⟩
set_option maxHeartbeats 4000000 in
theorem next_free1 {n : Int} (hD : ∀ k, D k → k < base) (hB : base ≤ W.heap.size) (h : Fl W D base gd gf s) (ho : SOk s) (hb : s.beg = true) (ht : tkF s.t = (n, 0, s.t.set n.toNat true)) (hn : 0 ≤ n ∧ n < 4294967296) :
    Calls Try.prog 40 #[.pointer (some ⟨gf, 0, none⟩)] W fun e W' => e = .returned (.int .i64 0) ∧ Fl W' D base gd gf ⟨(wrG s.d (s.t.set n.toNat true) s.pg (hp n s.rs)).1, (wrG s.d (s.t.set n.toNat true) s.pg (hp n s.rs)).2.1, n, [], true, s.first⟩ ∧ Kp W W' (fun k => D k ∨ k = gf) := by
  obtain ⟨hdk, hgf, v, hx, hb1, hb0⟩ := h
  have hT := take_any hdk
  rw [ht] at hT
  have HT := Aside0.mk hT
  have HD := Aside0.mk hD
  have hl := ho.rs.len
  obtain ⟨g, c, rfl, hc, _⟩ := row512 (hb1 hb) hl
  have HR := Aside0.mk (hb1 hb)
  have HX := Aside0.mk hx
  have HS := Aside0.mk (And.intro hb (And.intro hgf ho.pg))
  have HL := Aside0.mk (And.intro hl (And.intro hc (And.intro ho.rs hn)))
  have HBB := Aside0.mk hB
  have hx0 := (blk_cell HX.out 0).trans rfl
  have nq := nq_some
  clear hdk hx hT hD hb hgf hb1 hb0 ho hB hl hc hn
  go_enter Try.func40, Try.ntmps40
  go_upto_region 6 with (go_at_call 80; (with_reducible refine HT.out.mono ?_); rintro en w1 ⟨rfl, hd1, hk1, hb1⟩; have HX1 := Aside0.mk (blk_kept HX.out hk1 (fun hd => by have := HD.out gf hd; have := HS.out.2.1; omega)); have HD1 := Aside0.mk hd1; have HK1 := Aside0.mk ((Kp.refl W (fun k => D k ∨ k = gf)).call hk1 hb1 (fun _ hk => .inl (.inl hk))); have HR1 := Aside0.mk (Kd.R_kept HR.out hk1 (fun k hE hDk => by have := HD.out k hDk; omega)); have hy2 := (blk_cell HX1.out 2).trans rfl; clear hd1 hk1 hb1 hx0)
  go_upto_region 7 with (go_at_call 81; (with_reducible refine (link_ok HL.out.2.2.1 HL.out.2.2.2 (some ⟨g, 0, none⟩) c _ (R_Cn HR1.out) HL.out.2.1).mono ?_); rintro en w4 ⟨v4, rfl, ho4, hb4⟩; have HBS1 := Aside0.mk (Nat.le_trans HBB.out HK1.out.size); (obtain ⟨g4, c4, rfl, hc4, _⟩ := row512 ho4 (ok_link HL.out.2.2.1 HL.out.2.2.2).len); have HR4 := Aside0.mk (Kd.R_mono (Kd.R_bound (Kd.R_lower ho4 HBS1.out)) (fun k hk => hk.2.1)); have HD4 := Aside0.mk (HD1.out.below hb4); have HX4 := Aside0.mk (blk_below HX1.out hb4); have HK4 := Aside0.mk (HK1.out.below hb4); clear ho4 hb4 hy2 hc4; have hz2 := (blk_cell HX4.out 2).trans rfl; have hzf2 := blk_frozen HX4.out 2; have hzl := blk_lt HX4.out)
  have HNE := Aside0.mk (show ∀ k, D k → k ≠ gf from fun k hk e => by have := HD.out k hk; have := HS.out.2.1; omega)
  have HR5 := Aside0.mk (Kd.R_set HR4.out HX4.out (by decide) 2 (.slice (some ⟨g4, 0, none⟩) 512 c4))
  have HD5 := Aside0.mk (dk_far (j := 2) HD4.out HNE.out (.slice (some ⟨g4, 0, none⟩) 512 c4))
  have HX5 := Aside0.mk (blk_put HX4.out 2 (.slice (some ⟨g4, 0, none⟩) 512 c4) rfl)
  have HK5 := Aside0.mk (HK4.out.setCell (p := ⟨gf, 2, none⟩) (.inl (.inr rfl)) (.slice (some ⟨g4, 0, none⟩) 512 c4))
  clear hz2 hzf2 hzl HX4
  generalize w4.setCell _ _ = w5 at HR5 HD5 HX5 HK5 ⊢
  have hy0 := (blk_cell HX5.out 0).trans rfl
  have hy1 := (blk_cell HX5.out 1).trans rfl
  have hy2 := (blk_cell HX5.out 2).trans rfl
  go_region_law (refine goes_ Try.func42 (by kernel_rfl) rfl #[.pointer (some ⟨gd, 0, none⟩), .int .u32 s.pg, .slice (some ⟨g4, 0, none⟩) 512 c4] rfl rfl rfl (by simp [Act.eval, Act.put]) ?_; (with_reducible refine (write_all (HD5.out.below (below_drew1 (Below.refl _ _))) s.pg (some ⟨g4, 0, none⟩) 512 c4 (hp n s.rs) HS.out.2.2.1 HS.out.2.2.2 (ok_link HL.out.2.2.1 HL.out.2.2.2).len (R_Cn (Kd.R_drew HR5.out))).mono ?_); rintro en w2 ⟨rfl, hd2, hk2, hb2⟩; refine ⟨_, rfl, ?_⟩; have HX2 := Aside0.mk (blk_kept (blk_drew HX5.out) hk2 (fun hd => HNE.out gf hd rfl)); have HD2 := Aside0.mk hd2; have HK2 := Aside0.mk (HK5.out.drew.call hk2 hb2 (fun _ hk => .inl (.inl hk))); clear hd2 hk2 hb2 hy0 hy1 hy2)
  all_goals
    have HBS := Aside0.mk (Nat.le_trans HBB.out HK2.out.size)
    go_wp2_with (go_at_call 82; ((with_reducible refine (new_page _).mono ?_); rintro en w3 ⟨v3, rfl, ho3, hb3⟩; (obtain ⟨g3, c3, rfl, _, _⟩ := row512 ho3 (PureSl.ok_nil 0 (by omega)).len); have HD3 := Aside0.mk (HD2.out.below hb3); have HX3 := Aside0.mk (blk_below HX2.out hb3); have HK3 := Aside0.mk (HK2.out.below hb3); have HN3 := Aside0.mk (Kd.R_mono (Kd.R_bound (Kd.R_lower ho3 HBS.out)) (fun k hk => hk.2.1)); clear ho3 hb3; have hz0 := (blk_cell HX3.out 0).trans rfl; have hz1 := (blk_cell HX3.out 1).trans rfl; have hz2 := (blk_cell HX3.out 2).trans rfl; have hzf1 := blk_frozen HX3.out 1; have hzf2 := blk_frozen HX3.out 2; have hzl := blk_lt HX3.out))
    go_ret
    exact ⟨rfl, ⟨dk_far (dk_far HD3.out HNE.out _) HNE.out _, HS.out.2.1, .slice (some ⟨g3, 0, none⟩) 512 c3, blk_put (blk_put HX3.out 1 _ rfl) 2 _ rfl, (fun _ => Kd.R_set (Kd.R_set HN3.out HX3.out (by decide) 1 _) (blk_put HX3.out 1 _ rfl) (by decide) 2 _), (fun h => by cases h)⟩, (HK3.out.setCell (.inl (.inr rfl)) _).setCell (.inl (.inr rfl)) _⟩
/-- Another page: the error's number, and the filler behind it. -/
theorem next_ok (hD : ∀ k, D k → k < base) (hB : base ≤ W.heap.size) (h : Fl W D base gd gf s) (ho : SOk s) :
    Calls Try.prog 40 #[.pointer (some ⟨gf, 0, none⟩)] W fun e W' => e = .returned (.int .i64 (nextS s).1) ∧ Fl W' D base gd gf (nextS s).2 ∧ Kp W W' (fun k => D k ∨ k = gf) := by
  unfold nextS
  rcases tkF_cases s.t with e | ⟨n, e, h1, h2⟩
  · rw [e]
    simp only
    rw [if_neg (by decide)]
    cases hb : s.beg
    · refine (next_full0 hD h ho hb e).mono ?_
      rintro en w' ⟨rfl, h1, h2⟩
      exact ⟨rfl, h1, h2.then_ (Kp.refl _ (fun _ => False)) (fun _ hk => hk.elim) |> fun k => ⟨k.size, fun i hi hn => k.same i hi (fun hd => hn (.inl hd)), k.os, k.tape, k.output⟩⟩
    · exact next_full1 hD h ho hb e
  · rw [e]
    simp only [if_true]
    have hn : 0 ≤ n ∧ n < 4294967296 := by have := ho.n4; omega
    cases hb : s.beg
    · exact next_free0 hD hB h ho hb e
    · exact next_free1 hD hB h ho hb e hn
end
end Go.Proofs.Ytpfegfkniilobaa.Hp
namespace Go.Proofs.Ytpfegfkniilobaa.Hp
open Go.RowKit Go.Proofs.YtpfegfkniilobaaW.PrintWords Go.Proofs.YtpfegfkniilobaaW.PrintLast Go.Proofs.YtpfegfkniilobaaW.PrintMore Go.Proofs.Ytpfegfkniilobaa.Byt Go.Proofs.Ytpfegfkniilobaa.Dsk Go.Proofs.Ytpfegfkniilobaa.XHeap
open Go.Proofs.Ytpfegfkniilobaa.PureSl (room Ok txt)
set_option linter.unusedVariables false
set_option linter.unusedSimpArgs false
set_option maxRecDepth 100000
theorem results_cell1 {P : Program} {fn : Func} {p u : Tmp} {ty : TypeId} (h : fn.results = #[.cell p ty, .tmp u]) (tmps : Array Value) (w : World) (g : Nat) (t : TypeId) (cs : Array Value) (fr : Nat × Nat) (d : TypeDesc)
    (hp : tmps.getD p undef = .pointer (some ⟨g, 0, none⟩)) (hg : w.heap[g]? = some (.cells cs t fr))
    (hu : P.underlying ty = some d) (hd : (match d with | .struct _ | .array _ _ => true | _ => false) = true) (hi : (P.info? ty).map (·.size) = some cs.size) :
    (results fn tmps).run P w = .ok (.tuple #[.agg cs, tmps.getD u undef]) w := by
  have hp' : tmps[p]?.getD undef = .pointer (some ⟨g, 0, none⟩) := by simpa using hp
  simp [results, h, hp', asAddr, run_loadVar_row w g t ty cs fr d hg hu hd hi]
theorem Fl.below {W W2 : World} {D : Nat → Prop} {base gd gf : Nat} {s : St} (h : Fl W D base gd gf s) (hb : Below W.heap.size W W2) : Fl W2 D base gd gf s := by
  obtain ⟨h1, h2, v, h3, h4, h5⟩ := h
  exact ⟨h1.below hb, h2, v, blk_below h3 hb, fun h => Kd.R_below (h4 h) hb, h5⟩
theorem Fl.at {W : World} {D : Nat → Prop} {base gd gf : Nat} {s : St} (h : Fl W D base gd gf s) (ho : SOk s) (hb : s.beg = true) : ∃ g c, Dk W D gd s.d s.t ∧ base ≤ gf ∧ W.heap[gf]? = some (.cells #[.pointer (some ⟨gd, 0, none⟩), .int .u32 s.pg, .slice (some ⟨g, 0, none⟩) 512 c] 102 (0, 0)) ∧ Kd.R (Kd.int .u8) 5 W base (fun k => base ≤ k) (.slice (some ⟨g, 0, none⟩) 512 c) (hp 0 s.rs) ∧ 512 ≤ c := by
  obtain ⟨h1, h2, v, h3, h4, h5⟩ := h
  obtain ⟨g, c, rfl, hc, _⟩ := row512 (h4 hb) ho.rs.len
  exact ⟨g, c, h1, h2, h3, h4 hb, hc⟩
section
variable {W : World} {D okr : Nat → Prop} {base gd gf : Nat} {s : St}
abbrev Z50 : Obj := .cells #[.int .u32 0, .int .u16 0] 50
set_option maxHeartbeats 4000000 in
theorem add_fits (hD : ∀ k, D k → k < base) (hB : base ≤ W.heap.size) (h : Fl W D base gd gf s) (ho : SOk s) (hb : s.beg = true) (r : List Int) (hr : 0 < r.length) (hy : By r) (hf : r.length ≤ room s.rs)
    (A1 : Option Addr) (c1 : Nat) (hC1 : Kd.C (Kd.int .u8) W A1 r.length r) (hc1 : r.length ≤ c1) :
    Calls Try.prog 41 #[.pointer (some ⟨gf, 0, none⟩), .slice A1 r.length c1] W fun e W' => e = .returned (.tuple #[.agg #[.int .u32 s.pg, .int .u16 ((s.rs.length : Int) % 65536)], .int .i64 0]) ∧ Fl W' D base gd gf { s with rs := s.rs ++ [r] } ∧ Kp W W' (fun k => D k ∨ k = gf) := by
  obtain ⟨g, c, hdk, hgf, hx, hR, hc⟩ := h.at ho hb
  have hgl := blk_lt hx
  have HDK := Aside0.mk (hdk.alloc Z50)
  have HX := Aside0.mk (blk_alloc hx Z50)
  have HR := Aside0.mk (Kd.R_alloc hR Z50)
  have HQ := Aside0.mk (blk_new W Z50)
  have HK := Aside0.mk ((Kp.refl W (fun k => D k ∨ k = gf)).below (below_alloc (Below.refl _ _) Z50))
  have HC1 := Aside0.mk (And.intro (Kd.C_alloc hC1 Z50) hc1)
  have HD := Aside0.mk hD
  have HS := Aside0.mk (And.intro hgf (And.intro hc (And.intro ho.rs (And.intro hr (And.intro hy hf)))))
  have HBB := Aside0.mk (show base ≤ (W.alloc Z50).heap.size by simp; omega)
  have HNQ := Aside0.mk (show gf ≠ W.heap.size by omega)
  have HND := Aside0.mk (show ∀ k, D k → k ≠ W.heap.size from fun k hk => by have := hD k hk; omega)
  have HNF := Aside0.mk (show ∀ k, D k → k ≠ gf from fun k hk => by have := hD k hk; omega)
  have hx2 := (blk_cell HX.out 2).trans rfl
  have HBE := Aside0.mk hb
  have u16 : (s.rs.length : Int) % 65536 = IntKind.u16.wrap (s.rs.length : Int) := rfl
  rw [u16]
  clear h hdk hgf hx hR hc hC1 hc1 hD hB hgl ho hb hr hy hf u16
  go_enter Try.func41, Try.ntmps41
  go_upto_region 9 with (go_at_call 83; (with_reducible refine (add_page HS.out.2.2.1 r HS.out.2.2.2.1 HS.out.2.2.2.2.1 HS.out.2.2.2.2.2 (some ⟨g, 0, none⟩) A1 c c1 _ (R_Cn HR.out) HS.out.2.1 HC1.out.1 HC1.out.2).mono ?_); rintro en w3 ⟨v3, rfl, ho3, hb3⟩; (obtain ⟨g3, c3, rfl, _, _⟩ := row512 ho3 (HS.out.2.2.1.more r HS.out.2.2.2.1 HS.out.2.2.2.2.1 HS.out.2.2.2.2.2).len); have HD3 := Aside0.mk (HDK.out.below hb3); have HX3 := Aside0.mk (blk_below HX.out hb3); have HQ3 := Aside0.mk (blk_below HQ.out hb3); have HK3 := Aside0.mk (HK.out.below hb3); have HN3 := Aside0.mk (Kd.R_mono (Kd.R_bound (Kd.R_lower ho3 HBB.out)) (fun k hk => hk.2.1)); clear ho3 hb3 hx2)
  have hz2 := (blk_cell HX3.out 2).trans rfl
  have hzf2 := blk_frozen HX3.out 2
  have hzl := blk_lt HX3.out
  have hz1 := (blk_cell HX3.out 1).trans rfl
  have hq0 := (blk_cell HQ3.out 0).trans rfl
  have hq1 := (blk_cell HQ3.out 1).trans rfl
  have hqf0 := blk_frozen HQ3.out 0
  have hqf1 := blk_frozen HQ3.out 1
  have hql := blk_lt HQ3.out
  have hne := HNQ.out
  have hne2 := HNQ.out.symm
  go_wp2
  have hX4 := blk_put HX3.out 2 (.slice (some ⟨g3, 0, none⟩) 512 c3) rfl
  have hQ4 := blk_far (p := ⟨gf, 2, none⟩) HQ3.out HNQ.out.symm (.slice (some ⟨g3, 0, none⟩) 512 c3)
  refine bodyPost_ret (results_cell1 rfl _ _ W.heap.size 50 #[.int .u32 s.pg, .int .u16 (IntKind.u16.wrap (s.rs.length : Int))] (0, 0) _ rfl (blk_put (blk_put hQ4 0 _ rfl) 1 _ rfl) Try.underlying50 rfl (by kernel_rfl)) rfl ?_
  refine ⟨rfl, ⟨dk_far (dk_far (dk_far HD3.out HNF.out _) HND.out _) HND.out _, HS.out.1, .slice (some ⟨g3, 0, none⟩) 512 c3, blk_far (p := ⟨W.heap.size, 1, none⟩) (blk_far (p := ⟨W.heap.size, 0, none⟩) hX4 HNQ.out _) HNQ.out _, (fun _ => ?_), (fun h => by have h2 := HBE.out; rw [show s.beg = false from h] at h2; cases h2)⟩, ((HK3.out.setCell (.inl (.inr rfl)) _).setCell (.inr (Nat.le_refl _)) _).setCell (.inr (Nat.le_refl _)) _⟩
  exact Kd.R_set (Kd.R_set (Kd.R_set HN3.out HX3.out (by decide) 2 _) hQ4 (by decide) 0 _) (blk_put hQ4 0 _ rfl) (by decide) 1 _
set_option maxHeartbeats 4000000 in
theorem add_stop (hD : ∀ k, D k → k < base) (hB : base ≤ W.heap.size) (h : Fl W D base gd gf s) (ho : SOk s) (hb : s.beg = true) (r : List Int) (hr : 0 < r.length) (hy : By r) (hf : room s.rs < r.length)
    (A1 : Option Addr) (c1 : Nat) (hC1 : ∀ W', (∀ k, okr k → k < W.heap.size → W'.heap[k]? = W.heap[k]?) → Kd.C (Kd.int .u8) W' A1 r.length r) (hc1 : r.length ≤ c1) (hokr : ∀ k, okr k → ¬ D k ∧ k < base) (hz : (nextS s).1 ≠ 0) :
    Calls Try.prog 41 #[.pointer (some ⟨gf, 0, none⟩), .slice A1 r.length c1] W fun e W' => e = .returned (.tuple #[.agg #[.int .u32 0, .int .u16 0], .int .i64 (nextS s).1]) ∧ Fl W' D base gd gf (nextS s).2 ∧ Kp W W' (fun k => D k ∨ k = gf) := by
  obtain ⟨g, c, hdk, hgf, hx, hR, hc⟩ := h.at ho hb
  have hgl := blk_lt hx
  have HFL := Aside0.mk (h.below (below_alloc (Below.refl _ _) Z50))
  have HX := Aside0.mk (blk_alloc hx Z50)
  have HR := Aside0.mk (Kd.R_alloc hR Z50)
  have HQ := Aside0.mk (blk_new W Z50)
  have HK := Aside0.mk ((Kp.refl W (fun k => D k ∨ k = gf)).below (below_alloc (Below.refl _ _) Z50))
  have HC1 := Aside0.mk (And.intro hC1 (And.intro hc1 hokr))
  have HD := Aside0.mk hD
  have HS := Aside0.mk (And.intro hgf (And.intro hc (And.intro ho (And.intro hr (And.intro hy (And.intro hf hb))))))
  have HBB := Aside0.mk (show base ≤ (W.alloc Z50).heap.size by simp; omega)
  have HNQ := Aside0.mk (And.intro (show gf ≠ W.heap.size by omega) hgl)
  have HND := Aside0.mk (show ∀ k, D k → k ≠ W.heap.size from fun k hk => by have := hD k hk; omega)
  have HNF := Aside0.mk (show ∀ k, D k → k ≠ gf from fun k hk => by have := hD k hk; omega)
  have HBW := Aside0.mk hB
  have hx2 := (blk_cell HX.out 2).trans rfl
  have c1_ : ((nextS s).1 != 0) = true := bne_iff_ne.mpr hz
  generalize hE : (nextS s).1 = E at c1_ hz
  have HE := Aside0.mk hE
  clear h hdk hgf hx hR hc hC1 hc1 hD hB hgl ho hb hr hy hf hokr hz hE
  go_enter Try.func41, Try.ntmps41
  go_upto_region 3 with (go_at_call 83; (with_reducible refine (add_not HS.out.2.2.1.rs r HS.out.2.2.2.1 HS.out.2.2.2.2.2.1 (some ⟨g, 0, none⟩) A1 c c1 _ (R_Cn HR.out) HS.out.2.1 (HC1.out.1 _ (fun k hk hl => HK.out.same k hl (fun hd => hd.elim (HC1.out.2.2 k hk).1 (fun e => by have h1 := (HC1.out.2.2 k hk).2; have h2 := HS.out.1; omega)))) HC1.out.2.1).mono ?_); rintro en w2 ⟨v2, rfl, hb2⟩; have HFL2 := Aside0.mk (HFL.out.below hb2); have HQ2 := Aside0.mk (blk_below HQ.out hb2); have HK2 := Aside0.mk (HK.out.below hb2); have HB2 := Aside0.mk (Nat.le_trans HBB.out hb2.size); clear hb2 hx2)
  go_upto_region 5 with (go_at_call 40; (have hN := next_ok HD.out HB2.out HFL2.out HS.out.2.2.1); rw [HE.out] at hN; (with_reducible refine hN.mono ?_); clear hN; rintro en w3 ⟨rfl, hf3, hk3⟩; have HFL3 := Aside0.mk hf3; have HQ3 := Aside0.mk (blk_kept HQ2.out hk3.kept (fun hd => hd.elim (fun hd => HND.out _ hd rfl) (fun e => HNQ.out.1 e.symm))); have HK3 := Aside0.mk (HK2.out.then_ hk3 (fun _ h => .inl h)); clear hf3 hk3)
  have hq0 := (blk_cell HQ3.out 0).trans rfl
  have hq1 := (blk_cell HQ3.out 1).trans rfl
  have hqf0 := blk_frozen HQ3.out 0
  have hqf1 := blk_frozen HQ3.out 1
  have hql := blk_lt HQ3.out
  go_wp2
  refine bodyPost_ret (results_cell1 rfl _ _ W.heap.size 50 #[.int .u32 0, .int .u16 0] (0, 0) _ rfl (blk_put (blk_put HQ3.out 0 _ rfl) 1 _ rfl) Try.underlying50 rfl (by kernel_rfl)) rfl ?_
  obtain ⟨hd4, hg4, v, hx4, hr4, hn4⟩ := HFL3.out
  refine ⟨rfl, ⟨dk_far (dk_far hd4 HND.out _) HND.out _, HS.out.1, v, blk_far (p := ⟨W.heap.size, 1, none⟩) (blk_far (p := ⟨W.heap.size, 0, none⟩) hx4 HNQ.out.1 _) HNQ.out.1 _, (fun hb => ?_), hn4⟩, (HK3.out.setCell (.inr (Nat.le_refl _)) _).setCell (.inr (Nat.le_refl _)) _⟩
  exact Kd.R_set (Kd.R_set (hr4 hb) HQ3.out (by decide) 0 _) (blk_put HQ3.out 0 _ rfl) (by decide) 1 _
set_option maxHeartbeats 4000000 in
theorem add_goes (hD : ∀ k, D k → k < base) (hB : base ≤ W.heap.size) (h : Fl W D base gd gf s) (ho : SOk s) (hb : s.beg = true) (r : List Int) (hr : 0 < r.length) (hy : By r) (hf : room s.rs < r.length)
    (A1 : Option Addr) (c1 : Nat) (hC1 : ∀ W', (∀ k, okr k → k < W.heap.size → W'.heap[k]? = W.heap[k]?) → Kd.C (Kd.int .u8) W' A1 r.length r) (hc1 : r.length ≤ c1) (hokr : ∀ k, okr k → ¬ D k ∧ k < base) (hz : (nextS s).1 = 0) (h5 : r.length ≤ 500) :
    Calls Try.prog 41 #[.pointer (some ⟨gf, 0, none⟩), .slice A1 r.length c1] W fun e W' => e = .returned (.tuple #[.agg #[.int .u32 (nextS s).2.pg, .int .u16 (((nextS s).2.rs.length : Int) % 65536)], .int .i64 0]) ∧ Fl W' D base gd gf { (nextS s).2 with rs := (nextS s).2.rs ++ [r] } ∧ Kp W W' (fun k => D k ∨ k = gf) := by
  obtain ⟨g, c, hdk, hgf, hx, hR, hc⟩ := h.at ho hb
  have hgl := blk_lt hx
  have HFL := Aside0.mk (h.below (below_alloc (Below.refl _ _) Z50))
  have HX := Aside0.mk (blk_alloc hx Z50)
  have HR := Aside0.mk (Kd.R_alloc hR Z50)
  have HQ := Aside0.mk (blk_new W Z50)
  have HK := Aside0.mk ((Kp.refl W (fun k => D k ∨ k = gf)).below (below_alloc (Below.refl _ _) Z50))
  have HC1 := Aside0.mk (And.intro hC1 (And.intro hc1 hokr))
  have HD := Aside0.mk hD
  have HS := Aside0.mk (And.intro hgf (And.intro hc (And.intro ho (And.intro hr (And.intro hy (And.intro hf hb))))))
  have HBB := Aside0.mk (show base ≤ (W.alloc Z50).heap.size by simp; omega)
  have HNQ := Aside0.mk (And.intro (show gf ≠ W.heap.size by omega) hgl)
  have HND := Aside0.mk (show ∀ k, D k → k ≠ W.heap.size from fun k hk => by have := hD k hk; omega)
  have HNF := Aside0.mk (show ∀ k, D k → k ≠ gf from fun k hk => by have := hD k hk; omega)
  have HBW := Aside0.mk hB
  have hx2 := (blk_cell HX.out 2).trans rfl
  have ho2 := nextS_ok ho
  obtain ⟨hrs, hbg⟩ := nextS_zero hz
  have hfit : r.length ≤ room (nextS s).2.rs := by rw [hrs]; exact h5
  generalize hT : (nextS s).2 = T at ho2 hrs hbg hfit ⊢
  have HE := Aside0.mk (And.intro hz hT)
  have HT := Aside0.mk (And.intro ho2 (And.intro hbg hfit))
  have u16 : (T.rs.length : Int) % 65536 = IntKind.u16.wrap (T.rs.length : Int) := rfl
  rw [u16]
  clear h hdk hgf hx hR hc hC1 hc1 hD hB hgl ho hb hr hy hf hokr hz hT ho2 hrs hbg hfit u16
  go_enter Try.func41, Try.ntmps41
  go_upto_region 3 with (go_at_call 83; (with_reducible refine (add_not HS.out.2.2.1.rs r HS.out.2.2.2.1 HS.out.2.2.2.2.2.1 (some ⟨g, 0, none⟩) A1 c c1 _ (R_Cn HR.out) HS.out.2.1 (HC1.out.1 _ (fun k hk hl => HK.out.same k hl (fun hd => hd.elim (HC1.out.2.2 k hk).1 (fun e => by have h1 := (HC1.out.2.2 k hk).2; have h2 := HS.out.1; omega)))) HC1.out.2.1).mono ?_); rintro en w2 ⟨v2, rfl, hb2⟩; have HFL2 := Aside0.mk (HFL.out.below hb2); have HQ2 := Aside0.mk (blk_below HQ.out hb2); have HK2 := Aside0.mk (HK.out.below hb2); have HB2 := Aside0.mk (Nat.le_trans HBB.out hb2.size); clear hb2 hx2)
  go_upto_region 6 with (go_at_call 40; (have hN := next_ok HD.out HB2.out HFL2.out HS.out.2.2.1); rw [HE.out.1, HE.out.2] at hN; (with_reducible refine hN.mono ?_); clear hN; rintro en w3 ⟨rfl, hf3, hk3⟩; (obtain ⟨g3, c3, hd3, _, hx3, hr3, hc3⟩ := hf3.at HT.out.1 HT.out.2.1); have HD3 := Aside0.mk hd3; have HX3 := Aside0.mk hx3; have HR3 := Aside0.mk hr3; have HC3 := Aside0.mk hc3; have HQ3 := Aside0.mk (blk_kept HQ2.out hk3.kept (fun hd => hd.elim (fun hd => HND.out _ hd rfl) (fun e => HNQ.out.1 e.symm))); have HK3 := Aside0.mk (HK2.out.then_ hk3 (fun _ h => .inl h)); clear hf3 hk3 hd3 hx3 hr3 hc3; have hw2 := (blk_cell HX3.out 2).trans rfl)
  have HB3 := Aside0.mk (show base ≤ w3.heap.size from Nat.le_trans HBW.out HK3.out.size)
  go_upto_region 9 with (go_at_call 83; (with_reducible refine (add_page HT.out.1.rs r HS.out.2.2.2.1 HS.out.2.2.2.2.1 HT.out.2.2 (some ⟨g3, 0, none⟩) A1 c3 c1 _ (R_Cn HR3.out) HC3.out (HC1.out.1 _ (fun k hk hl => HK3.out.same k hl (fun hd => hd.elim (HC1.out.2.2 k hk).1 (fun e => by have h1 := (HC1.out.2.2 k hk).2; have h2 := HS.out.1; omega)))) HC1.out.2.1).mono ?_); rintro en w4 ⟨v4, rfl, ho4, hb4⟩; (obtain ⟨g4, c4, rfl, _, _⟩ := row512 ho4 (HT.out.1.rs.more r HS.out.2.2.2.1 HS.out.2.2.2.2.1 HT.out.2.2).len); have HD4 := Aside0.mk (HD3.out.below hb4); have HX4 := Aside0.mk (blk_below HX3.out hb4); have HQ4 := Aside0.mk (blk_below HQ3.out hb4); have HK4 := Aside0.mk (HK3.out.below hb4); have HN4 := Aside0.mk (Kd.R_mono (Kd.R_bound (Kd.R_lower ho4 HB3.out)) (fun k hk => hk.2.1)); clear ho4 hb4 hw2)
  have hz2 := (blk_cell HX4.out 2).trans rfl
  have hzf2 := blk_frozen HX4.out 2
  have hzl := blk_lt HX4.out
  have hz1 := (blk_cell HX4.out 1).trans rfl
  have hq0 := (blk_cell HQ4.out 0).trans rfl
  have hq1 := (blk_cell HQ4.out 1).trans rfl
  have hqf0 := blk_frozen HQ4.out 0
  have hqf1 := blk_frozen HQ4.out 1
  have hql := blk_lt HQ4.out
  have hne := HNQ.out.1
  have hne2 := HNQ.out.1.symm
  go_wp2
  have hX4 := blk_put HX4.out 2 (.slice (some ⟨g4, 0, none⟩) 512 c4) rfl
  have hQ4 := blk_far (p := ⟨gf, 2, none⟩) HQ4.out HNQ.out.1.symm (.slice (some ⟨g4, 0, none⟩) 512 c4)
  refine bodyPost_ret (results_cell1 rfl _ _ W.heap.size 50 #[.int .u32 T.pg, .int .u16 (IntKind.u16.wrap (T.rs.length : Int))] (0, 0) _ rfl (blk_put (blk_put hQ4 0 _ rfl) 1 _ rfl) Try.underlying50 rfl (by kernel_rfl)) rfl ?_
  refine ⟨rfl, ⟨dk_far (dk_far (dk_far HD4.out HNF.out _) HND.out _) HND.out _, HS.out.1, .slice (some ⟨g4, 0, none⟩) 512 c4, blk_far (p := ⟨W.heap.size, 1, none⟩) (blk_far (p := ⟨W.heap.size, 0, none⟩) hX4 HNQ.out.1 _) HNQ.out.1 _, (fun _ => ?_), (fun h => by have h2 := HT.out.2.1; rw [show T.beg = false from h] at h2; cases h2)⟩, ((HK4.out.setCell (.inl (.inr rfl)) _).setCell (.inr (Nat.le_refl _)) _).setCell (.inr (Nat.le_refl _)) _⟩
  exact Kd.R_set (Kd.R_set (Kd.R_set HN4.out HX4.out (by decide) 2 _) hQ4 (by decide) 0 _) (blk_put hQ4 0 _ rfl) (by decide) 1 _
/-- A record more: the error, where it stands, and the filler behind it. -/
theorem add_ok (hD : ∀ k, D k → k < base) (hB : base ≤ W.heap.size) (h : Fl W D base gd gf s) (ho : SOk s) (hb : s.beg = true) (r : List Int) (hr : 0 < r.length) (h5 : r.length ≤ 500) (hy : By r)
    (A1 : Option Addr) (c1 : Nat) (hC1 : ∀ W', (∀ k, okr k → k < W.heap.size → W'.heap[k]? = W.heap[k]?) → Kd.C (Kd.int .u8) W' A1 r.length r) (hc1 : r.length ≤ c1) (hokr : ∀ k, okr k → ¬ D k ∧ k < base) :
    Calls Try.prog 41 #[.pointer (some ⟨gf, 0, none⟩), .slice A1 r.length c1] W fun e W' => e = .returned (.tuple #[.agg #[.int .u32 (addS s r).2.2.f0, .int .u16 (addS s r).2.2.f1], .int .i64 (addS s r).1]) ∧ Fl W' D base gd gf (addS s r).2.1 ∧ Kp W W' (fun k => D k ∨ k = gf) := by
  unfold addS
  by_cases hf : room s.rs < r.length
  · rw [if_pos hf]
    by_cases hz : (nextS s).1 = 0
    · rw [if_pos hz]
      exact add_goes hD hB h ho hb r hr hy hf A1 c1 hC1 hc1 hokr hz h5
    · rw [if_neg hz]
      exact add_stop hD hB h ho hb r hr hy hf A1 c1 hC1 hc1 hokr hz
  · rw [if_neg hf]
    exact add_fits hD hB h ho hb r hr hy (by omega) A1 c1 (hC1 W (fun _ _ _ => rfl)) hc1
end
end Go.Proofs.Ytpfegfkniilobaa.Hp
namespace Go.Proofs.Ytpfegfkniilobaa.Hp
open Go.RowKit Go.Proofs.YtpfegfkniilobaaW.PrintWords Go.Proofs.YtpfegfkniilobaaW.PrintLast Go.Proofs.YtpfegfkniilobaaW.PrintMore Go.Proofs.Ytpfegfkniilobaa.Byt Go.Proofs.Ytpfegfkniilobaa.Dsk Go.Proofs.Ytpfegfkniilobaa.XHeap
open Go.Proofs.Ytpfegfkniilobaa.PureSl (room Ok txt)
set_option linter.unusedVariables false
set_option linter.unusedSimpArgs false
set_option maxRecDepth 100000
theorem info50 : (Try.prog.info? 50).map (fun i => (i.zero, i.size, i.bytes)) = some (some (.agg #[(.int .u32 0), (.int .u16 0)]), 2, 8) := by kernel_rfl
/-- A record of a row that is only read: its slice, in all worlds that keep what it leads to. -/
theorem rec_at {w : World} {okr : Nat → Prop} {A : Option Addr} {l : List (List Int)} (h : Kd.F (Kd.slice 5 (Kd.int .u8)) w okr A l.length l) (i : Int) (h0 : 0 ≤ i) (h1 : i < l.length) :
    ∃ ad A0 c0, A = some ad ∧ (rd_L1 l i).length ≤ c0 ∧ ∀ W', (∀ k, okr k → k < w.heap.size → W'.heap[k]? = w.heap[k]?) → W'.cell? (ad.add i.toNat) = some (.slice A0 (rd_L1 l i).length c0) ∧ Kd.C (Kd.int .u8) W' A0 (rd_L1 l i).length (rd_L1 l i) := by
  obtain ⟨ad, A0, c0, hA, hcell, hl, hC⟩ := at_L1 (Kd.F_now h) i h0 h1
  have hok := Kd.F_in h hA (by omega) (by decide)
  refine ⟨ad, A0, c0, hA, hl, fun W' hW => ?_⟩
  obtain ⟨ad', A0', c0', hA', hcell', hl', hC'⟩ := at_L1 (h W' hW) i h0 h1
  rw [hA] at hA'
  injection hA' with e
  subst e
  have hbl : (ad.add i.toNat).block = ad.block := by unfold Addr.add; split <;> rfl
  have hc2 : W'.cell? (ad.add i.toNat) = w.cell? (ad.add i.toNat) := World.cell?_of_block (by rw [hbl]; exact hW _ hok (by have := World.block_lt_of_cell? w _ hcell; rwa [hbl] at this))
  rw [hcell] at hc2
  rw [hcell'] at hc2
  injection hc2 with e
  injection e with e1 e2 e3
  subst e1 e3
  exact ⟨hcell', hC'⟩
theorem badR_false {r : List Int} : badR r = false ↔ 0 < r.length ∧ r.length ≤ 500 := by
  simp only [badR, decide_eq_false_iff_not]
  omega
theorem rd_mem (l : List (List Int)) (i : Int) (h0 : 0 ≤ i) (h1 : i < l.length) : rd_L1 l i ∈ l := by
  rw [rd_L1, List.getD_eq_getElem?_getD, List.getElem?_eq_getElem (by omega)]
  exact List.getElem_mem _
theorem rd_drop (l : List (List Int)) (i : Int) (h0 : 0 ≤ i) (h1 : i < (l.length : Int)) : l.drop i.toNat = rd_L1 l i :: l.drop (i + 1).toNat := by
  have h : i.toNat < l.length := by omega
  rw [List.drop_eq_getElem_cons h, show (i + 1).toNat = i.toNat + 1 by omega]
  simp [rd_L1, h]
section
variable {w : World} {D okr : Nat → Prop} {gd : Nat} {d : List Int} {t : List Bool}
set_option maxHeartbeats 4000000 in
theorem fill_bad (A : Option Addr) (c : Nat) (l : List (List Int)) (hF : Kd.F (Kd.slice 5 (Kd.int .u8)) w okr A l.length l) (hl : l.length ≤ 100000) (hbad : l.any badR = true) :
    Calls Try.prog 14 #[.pointer (some ⟨gd, 0, none⟩), .slice A l.length c] w fun e W' => e = .returned (.tuple #[.int .u32 0, .slice none 0 0, .int .i64 1]) ∧ W' = w := by
  have HF := Aside0.mk hF
  have HB := Aside0.mk hbad
  have HL := Aside0.mk hl
  clear hF hbad hl
  go_enter Try.func14, Try.ntmps14
  go_wp2
  go_loopg [19] l.length (fun kq v19 w' => ∃ i : Int, v19 = .int .i64 i ∧ Aside0 (0 ≤ i ∧ (kq : Int) + i = (l.length : Int)) ∧ Aside0 ((l.drop i.toNat).any badR = true) ∧ w' = w)
  case atStart => exact ⟨0, rfl, ⟨by omega⟩, HB, rfl⟩
  case round =>
    obtain ⟨i, rfl, HI, HN, rfl⟩ := hrel
    have c2 : i < (l.length : Int) := by
      rcases Int.lt_or_le i l.length with h | h
      · exact h
      · have hn := HN.out
        rw [List.drop_of_length_le (by have := HI.out; omega)] at hn
        cases hn
    have c2b0 : decide (i < (l.length : Int)) = true := decide_eq_true c2
    obtain ⟨ad, A0, c0, e1, hlc, hall⟩ := rec_at HF.out i HI.out.1 c2
    subst e1
    obtain ⟨hx0, _⟩ := hall wr (fun _ _ _ => rfl)
    have p9 : (0 ≤ i) = True := eq_true HI.out.1
    have q9 : (i < (l.length : Int)) = True := eq_true c2
    have w2 : wrap64 (i + 1) = i + 1 := wr_in _ (by have := HI.out; have := HL.out; omega)
    have hn := HN.out
    rw [rd_drop l i HI.out.1 c2, List.any_cons, Bool.or_eq_true] at hn
    generalize rd_L1 l i = r at hx0 hn hall hlc
    clear hall hlc
    by_cases h0 : r.length = 0
    · have e0 : ((r.length : Int) == 0) = true := beq_iff_eq.mpr (by omega)
      clear hn h0 c2
      go_wp2
      go_ret3
      exact ⟨rfl, rfl⟩
    · have e0 : ((r.length : Int) == 0) = false := beq_eq_false_iff_ne.mpr (by omega)
      by_cases h5 : 500 < r.length
      · have e5 : decide (500 < (r.length : Int)) = true := decide_eq_true (by omega)
        have e6 : decide (500 < r.length) = true := decide_eq_true h5
        clear hn h0 h5 c2
        go_wp2
        go_ret3
        exact ⟨rfl, rfl⟩
      · have e5 : decide (500 < (r.length : Int)) = false := decide_eq_false (by omega)
        have e6 : decide (500 < r.length) = false := decide_eq_false h5
        have hn2 := hn.resolve_left (fun h => by rw [badR_false.mpr ⟨by omega, by omega⟩] at h; cases h)
        have HN2 := Aside0.mk hn2
        have HC2 := Aside0.mk c2
        clear hn h0 h5 hn2 c2
        go_wp2
        go_roundg (gk - 1)
        case measure => have h1 := HI.out; have h2 := HC2.out; omega
        case rel =>
          have h1 := HI.out
          have h2 := HC2.out
          exact ⟨i + 1, by first | rfl | rw [w2], ⟨by omega⟩, HN2, rfl⟩
end
theorem nextS_first {s : St} (h : s.beg = false) (hz : (nextS s).1 = 0) : (nextS s).2.first = (nextS s).2.pg := by
  unfold nextS at hz ⊢
  rw [h] at hz ⊢
  split
  · rfl
  · rename_i hn
    rw [if_neg hn] at hz
    exact absurd hz hn
theorem nextS_keep {s : St} (h : s.beg = true) : (nextS s).2.first = s.first := by
  unfold nextS
  rw [h]
  split <;> rfl
theorem addS_first {s : St} (r : List Int) (h : s.beg = true) : (addS s r).2.1.first = s.first := by
  unfold addS
  split
  · split <;> exact nextS_keep h
  · rfl
section
variable {w : World} {D okr : Nat → Prop} {gd : Nat} {d : List Int} {t : List Bool}
abbrev F0 (gd : Nat) : Obj := .cells #[.pointer (some ⟨gd, 0, none⟩), .int .u32 0, .slice none 0 0] 102
abbrev s0_ (d : List Int) (t : List Bool) : St := ⟨d, t, 0, [], false, 0⟩
theorem s0_ok {w : World} (h : Dk w D gd d t) (hy : By d) : SOk (s0_ d t) := ⟨PureSl.ok_nil 0 (by omega), ⟨by show (0 : Int) ≤ 0; omega, by show (0 : Int) < 4294967296; omega⟩, h.2.1, ⟨h.2.2.1, h.2.2.2.1⟩, hy⟩
theorem s0_fl (h : Dk w D gd d t) (hy : By d) : Fl (w.alloc (F0 gd)) D w.heap.size gd w.heap.size (s0_ d t) :=
  ⟨h.alloc _, Nat.le_refl _, .slice none 0 0, blk_new w _, (fun h => by cases h), fun _ => rfl⟩
set_option maxHeartbeats 4000000 in
theorem fill_none (hD : ∀ k, D k → k < w.heap.size) (h : Dk w D gd d t) (hy : By d) (A : Option Addr) (c : Nat) (l : List (List Int)) (hF : Kd.F (Kd.slice 5 (Kd.int .u8)) w okr A l.length l) (hl : l.length ≤ 100000) (hg : l.any badR = false)
    (hz : (nextS (s0_ d t)).1 ≠ 0) :
    Calls Try.prog 14 #[.pointer (some ⟨gd, 0, none⟩), .slice A l.length c] w fun e W' => e = .returned (.tuple #[.int .u32 0, .slice none 0 0, .int .i64 (nextS (s0_ d t)).1]) ∧ Dk W' D gd (nextS (s0_ d t)).2.d (nextS (s0_ d t)).2.t ∧ Kp w W' D := by
  have HF := Aside0.mk hF
  have HL := Aside0.mk hl
  have HG := Aside0.mk (show ∀ r ∈ l, badR r = false by simpa using hg)
  have HN := Aside0.mk (next_ok hD (by simp) (s0_fl h hy) (s0_ok h hy))
  have HK := Aside0.mk ((Kp.refl w D).below (below_alloc (Below.refl _ _) (F0 gd)))
  have c1_ : ((nextS (s0_ d t)).1 != 0) = true := bne_iff_ne.mpr hz
  generalize nextS (s0_ d t) = T at HN c1_ hz ⊢
  clear hF hl hg h hy hz
  go_enter Try.func14, Try.ntmps14
  go_wp2
  go_loopg [19] l.length (fun kq v19 w' => ∃ i : Int, v19 = .int .i64 i ∧ Aside0 (0 ≤ i ∧ (kq : Int) + i = (l.length : Int)) ∧ w' = w)
  case atStart => exact ⟨0, rfl, ⟨by omega⟩, rfl⟩
  case round =>
    obtain ⟨i, rfl, HI, hwr⟩ := hrel
    obtain rfl := hwr.symm
    by_cases c2 : i < (l.length : Int)
    · have c2b0 : decide (i < (l.length : Int)) = true := decide_eq_true c2
      obtain ⟨ad, A0, c0, e1, hlc, hall⟩ := rec_at HF.out i HI.out.1 c2
      subst e1
      obtain ⟨hx0, _⟩ := hall w (fun _ _ _ => rfl)
      have p9 : (0 ≤ i) = True := eq_true HI.out.1
      have q9 : (i < (l.length : Int)) = True := eq_true c2
      have w2 : wrap64 (i + 1) = i + 1 := wr_in _ (by have := HI.out; have := HL.out; omega)
      have hg := badR_false.mp (HG.out _ (rd_mem l i HI.out.1 c2))
      generalize rd_L1 l i = r at hx0 hg hall hlc
      have e0 : ((r.length : Int) == 0) = false := beq_eq_false_iff_ne.mpr (by omega)
      have e5 : decide (500 < (r.length : Int)) = false := decide_eq_false (by omega)
      have e6 : decide (500 < r.length) = false := decide_eq_false (by omega)
      have HC2 := Aside0.mk c2
      clear hall hlc hg c2
      go_wp2
      go_roundg (gk - 1)
      case measure => have h1 := HI.out; have h2 := HC2.out; omega
      case rel =>
        have h1 := HI.out
        have h2 := HC2.out
        exact ⟨i + 1, by first | rfl | rw [w2], ⟨by omega⟩, rfl⟩
    · have c2b0 : decide (i < (l.length : Int)) = false := decide_eq_false c2
      clear c2 HI
      go_wp2_with (go_at_call 40; (with_reducible refine HN.out.mono ?_); rintro en w3 ⟨rfl, hf3, hk3⟩; have HF3 := Aside0.mk hf3; have HK3 := Aside0.mk (HK.out.then_ hk3 (fun i h => h.elim .inl (fun e => .inr (by omega)))); clear hf3 hk3)
      go_ret3
      exact ⟨rfl, HF3.out.1, HK3.out⟩
set_option maxHeartbeats 8000000 in
theorem fill_goes (hD : ∀ k, D k → k < w.heap.size) (h : Dk w D gd d t) (hy : By d) (A : Option Addr) (c : Nat) (l : List (List Int)) (hF : Kd.F (Kd.slice 5 (Kd.int .u8)) w okr A l.length l) (hokr : ∀ k, okr k → ¬ D k ∧ k < w.heap.size) (hl : l.length ≤ 100000) (hby : ∀ r ∈ l, By r) (hg : l.any badR = false)
    (hz : (nextS (s0_ d t)).1 = 0) (E : Int) (S : St) (O : List S50) (he : fillS l (nextS (s0_ d t)).2 [] = (E, S, O)) (X : Int × List Int × List Bool × List S50) (hX : X = if E = 0 then (S.first, (wrG S.d S.t S.pg (hp 0 S.rs)).1, (wrG S.d S.t S.pg (hp 0 S.rs)).2.1, O) else (0, S.d, S.t, [])) :
    Calls Try.prog 14 #[.pointer (some ⟨gd, 0, none⟩), .slice A l.length c] w fun e W' => ∃ v, e = .returned (.tuple #[.int .u32 X.1, v, .int .i64 E]) ∧ Dk W' D gd X.2.1 X.2.2.1 ∧ Kp w W' D ∧ Kd.R k50 50 W' w.heap.size (fun _ => True) v X.2.2.2 := by
  have HF := Aside0.mk hF
  have HL := Aside0.mk hl
  have HG := Aside0.mk (show ∀ r ∈ l, badR r = false by simpa using hg)
  have HY := Aside0.mk hby
  have HD := Aside0.mk hD
  have HOR := Aside0.mk hokr
  have HN := Aside0.mk (next_ok hD (by simp) (s0_fl h hy) (s0_ok h hy))
  have HK := Aside0.mk ((Kp.refl w D).below (below_alloc (Below.refl _ _) (F0 gd)))
  have HT := Aside0.mk (And.intro (nextS_ok (s0_ok h hy)) (And.intro (nextS_zero hz).2 (nextS_first (s := s0_ d t) rfl hz)))
  rw [hz] at HN
  generalize (nextS (s0_ d t)).2 = T at HN HT he
  have HE := Aside0.mk he
  have HXX := Aside0.mk hX
  clear hX
  clear hF hl hg h hy hz hby hD hokr he
  go_enter Try.func14, Try.ntmps14
  go_wp2
  go_loopg [19] l.length (fun kq v19 w' => ∃ i : Int, v19 = .int .i64 i ∧ Aside0 (0 ≤ i ∧ (kq : Int) + i = (l.length : Int)) ∧ w' = w)
  case atStart => exact ⟨0, rfl, ⟨by omega⟩, rfl⟩
  case round =>
    obtain ⟨i, rfl, HI, hwr⟩ := hrel
    obtain rfl := hwr.symm
    by_cases c2 : i < (l.length : Int)
    · have c2b0 : decide (i < (l.length : Int)) = true := decide_eq_true c2
      obtain ⟨ad, A0, c0, e1, hlc, hall⟩ := rec_at HF.out i HI.out.1 c2
      subst e1
      obtain ⟨hx0, _⟩ := hall w (fun _ _ _ => rfl)
      have p9 : (0 ≤ i) = True := eq_true HI.out.1
      have q9 : (i < (l.length : Int)) = True := eq_true c2
      have w2 : wrap64 (i + 1) = i + 1 := wr_in _ (by have := HI.out; have := HL.out; omega)
      have hg := badR_false.mp (HG.out _ (rd_mem l i HI.out.1 c2))
      generalize rd_L1 l i = r at hx0 hg hall hlc
      have e0 : ((r.length : Int) == 0) = false := beq_eq_false_iff_ne.mpr (by omega)
      have e5 : decide (500 < (r.length : Int)) = false := decide_eq_false (by omega)
      have e6 : decide (500 < r.length) = false := decide_eq_false (by omega)
      have HC2 := Aside0.mk c2
      clear hall hlc hg c2
      go_wp2
      go_roundg (gk - 1)
      case measure => have h1 := HI.out; have h2 := HC2.out; omega
      case rel =>
        have h1 := HI.out
        have h2 := HC2.out
        exact ⟨i + 1, by first | rfl | rw [w2], ⟨by omega⟩, rfl⟩
    · have c2b0 : decide (i < (l.length : Int)) = false := decide_eq_false c2
      clear c2 HI
      go_upto_region 11 with (go_at_call 40; (with_reducible refine HN.out.mono ?_); rintro en w3 ⟨rfl, hf3, hk3⟩; have HF3 := Aside0.mk hf3; have HK3 := Aside0.mk (HK.out.then_ hk3 (fun i h => h.elim .inl (fun e => .inr (by omega)))); clear hf3 hk3)
      obtain ⟨g3, c3, _, _, hx3, _, _⟩ := HF3.out.at HT.out.1 HT.out.2.1
      have hx1 := (blk_cell hx3 1).trans rfl
      clear hx3
      rw [← HT.out.2.2] at hx1
      go_wp2
      clear hx1
      go_loopg [12, 46] l.length (fun kq v12 v46 w' => ∃ (i : Int) (s : St) (o : List S50) (v : Value), v12 = v ∧ v46 = .int .i64 i ∧ Aside0 (0 ≤ i ∧ (kq : Int) + i = (l.length : Int)) ∧ Aside0 (fillS (l.drop i.toNat) s o = (E, S, O)) ∧ Aside0 (SOk s ∧ s.beg = true ∧ s.first = T.first ∧ o.length ≤ i.toNat) ∧ Aside0 (Fl w' D w.heap.size gd w.heap.size s) ∧ Aside0 (Kd.R k50 50 w' w.heap.size (fun k => w.heap.size ≤ k ∧ k ≠ w.heap.size) v o) ∧ Aside0 (Kp w w' D))
      case atStart => exact ⟨0, T, [], _, rfl, rfl, ⟨by omega⟩, ⟨by simpa using HE.out⟩, ⟨HT.out.1, HT.out.2.1, rfl, by simp⟩, HF3, ⟨Kd.R_nil _ _ _ _ _⟩, HK3⟩
      case round =>
        clear HF3 HK3 HN HE
        obtain ⟨i, s, o, v, rfl, rfl, HI, HQ, HSO, HFL, HO, HKP⟩ := hrel
        obtain ⟨Av, cv, ev⟩ := Kd.R_slice HO.out
        generalize List.length _ = nv_ at ev
        subst ev
        by_cases c2 : i < (l.length : Int)
        · have c2b0 : decide (i < (l.length : Int)) = true := decide_eq_true c2
          obtain ⟨ad, A0, c0, e1, hlc, hall⟩ := rec_at HF.out i HI.out.1 c2
          subst e1
          have hag : ∀ W', Kp w W' D → ∀ k, okr k → k < w.heap.size → W'.heap[k]? = w.heap[k]? := fun W' hk k hok hlt => hk.same k hlt (HOR.out k hok).1
          obtain ⟨hx0, _⟩ := hall wr (hag wr HKP.out)
          have p9 : (0 ≤ i) = True := eq_true HI.out.1
          have q9 : (i < (l.length : Int)) = True := eq_true c2
          have w2 : wrap64 (i + 1) = i + 1 := wr_in _ (by have := HI.out; have := HL.out; omega)
          have hq := HQ.out
          rw [rd_drop l i HI.out.1 c2] at hq
          have hgr := badR_false.mp (HG.out _ (rd_mem l i HI.out.1 c2))
          have hyr := HY.out _ (rd_mem l i HI.out.1 c2)
          generalize rd_L1 l i = r at hx0 hq hgr hyr hall hlc
          have HA := Aside0.mk (add_ok (okr := okr) HD.out HKP.out.size HFL.out HSO.out.1 HSO.out.2.1 r hgr.1 hgr.2 hyr A0 c0 (fun W' hW => (hall W' (fun k hok hlt => (hW k hok (Nat.lt_of_lt_of_le hlt HKP.out.size)).trans (hag wr HKP.out k hok hlt))).2) hlc HOR.out)
          have hso := addS_ok HSO.out.1 r hgr.1 hgr.2 hyr
          have hsb := addS_beg r HSO.out.2.1
          have hsf := (addS_first r HSO.out.2.1).trans HSO.out.2.2.1
          have HC2 := Aside0.mk c2
          clear hall hlc c2 hgr hyr hag
          rw [fillS] at hq
          by_cases hz : (addS s r).1 = 0
          · rw [if_pos hz] at hq
            rw [hz] at HA
            obtain ⟨⟨x0, x1⟩, hx⟩ : ∃ x, x = (addS s r).2.2 := ⟨_, rfl⟩
            rw [← hx] at HA hq
            generalize (addS s r).2.1 = T2 at HA hq hso hsb hsf
            have HQ2 := Aside0.mk hq
            have HS2 := Aside0.mk (And.intro hso (And.intro hsb hsf))
            clear hq hso hsb hsf hz hx HQ
            go_wp2_with (first
              | (go_at_call 41; (with_reducible refine HA.out.mono ?_); rintro en w3 ⟨rfl, hf3, hk3⟩; have HF3 := Aside0.mk hf3; have HK3 := Aside0.mk (HKP.out.then_ hk3 (fun i h => h.elim .inl (fun e => .inr (by omega)))); have HO3 := Aside0.mk (Kd.R_kept HO.out hk3.kept (fun k hk h => h.elim (fun h => by have := HD.out k h; omega) hk.2)); have HX3 := Aside0.mk (blk_new w3 (.cells #[.int .u32 x0, .int .u16 x1] 50)); have HF4 := Aside0.mk (HF3.out.below (below_alloc (Below.refl _ _) (.cells #[.int .u32 x0, .int .u16 x1] 50))); have HK4 := Aside0.mk (HK3.out.below (below_alloc (Below.refl _ _) (.cells #[.int .u32 x0, .int .u16 x1] 50))); have HO4 := Aside0.mk (Kd.R_alloc HO3.out (.cells #[.int .u32 x0, .int .u16 x1] 50)); clear hf3 hk3; have hy0 := (blk_cell HX3.out 0).trans rfl; have hy1 := (blk_cell HX3.out 1).trans rfl)
              | ((with_reducible refine gate_builtin (b := .append) (xs := #[.tmp 59, .tmp 61]) rfl ?_); at_builtin; refine Kd.R_append k50 (w0 := w3.alloc (.cells #[.int .u32 x0, .int .u16 x1] 50)) w.heap.size rfl (.tmp 59) (.tmp 61) 37 50 (.agg #[(.int .u32 0), (.int .u16 0)]) 8 rfl Try.underlying37 info50 rfl (by decide) (by omega) (.slice Av nv_ cv) o ⟨x0, x1⟩ [.int .u32 x0, .int .u16 x1] (fun k => w.heap.size ≤ k ∧ k ≠ w.heap.size) (fun _ => False) rfl (by first | (go_simp; done) | (go_simp; rfl)) (k50_mkM _ _ _ ⟨x0, x1⟩) (fun _ hk => hk.elim) (fun k hk => by have h1 := HK3.out.size; simp at hk; omega) HO4.out (Below.refl _ _) (by have h1 := HK3.out.size; simp; omega) (by have h1 := HI.out; have h2 := HSO.out.2.2.2; have h3 := HL.out; have h4 := HC2.out; omega) ?_; intro v6 w6 ho hb hg_ hat; (obtain ⟨A6, c6, e6⟩ := Kd.R_slice ho); generalize List.length _ = nn at e6; subst e6; clear hy0 hy1; have HO6 := Aside0.mk ho; have HG6 := Aside0.mk hg_; clear ho hb hg_ hat))
            go_roundg (gk - 1)
            case measure => have h1 := HI.out; have h2 := HC2.out; omega
            case rel =>
              have h1 := HI.out
              have h2 := HC2.out
              have hown : ∀ k, (Value.slice Av nv_ cv).ownBlock = some k → w.heap.size ≤ k ∧ k ≠ w.heap.size := HO4.out.1
              refine ⟨i + 1, T2, o ++ [⟨x0, x1⟩], .slice A6 nn c6, rfl, by first | rfl | rw [w2], ⟨by omega⟩, HQ2, ⟨HS2.out.1, HS2.out.2.1, HS2.out.2.2, by rw [List.length_append, List.length_singleton]; have := HSO.out.2.2.2; omega⟩, ⟨?_⟩, HO6, ⟨HK4.out.grown HG6.out (fun k hk => .inr (hown k hk).1)⟩⟩
              obtain ⟨hd4, hg4, v4, hx4, hr4, hn4⟩ := HF4.out
              exact ⟨hd4.step (fun k hk hlt => HG6.out.block k hlt (fun e => by have h1 := HD.out k hk; have h2 := (hown k e.symm).1; omega)), hg4, v4, blk_grown hx4 HG6.out (fun e => (hown _ e.symm).2 rfl), (fun hb => Kd.R_over (hr4 hb) HO4.out (by decide) HG6.out), hn4⟩
          · rw [if_neg hz] at hq
            injection hq with hq1 hq2
            injection hq2 with hq2 hq3
            obtain ⟨x, hx⟩ : ∃ x, x = (addS s r).2.2 := ⟨_, rfl⟩
            rw [← hx] at HA
            rw [hq1] at hz
            rw [hq1, hq2] at HA
            have hze : ¬ E = 0 := hz
            have c1_ : (E != 0) = true := bne_iff_ne.mpr hz
            clear hq1 hq2 hq3 hso hsb hsf hz hx HQ
            have HZE := Aside0.mk hze
            clear hze
            go_wp2_with (go_at_call 41; (with_reducible refine HA.out.mono ?_); rintro en w3 ⟨rfl, hf3, hk3⟩; have HF3 := Aside0.mk hf3; have HK3 := Aside0.mk (HKP.out.then_ hk3 (fun i h => h.elim .inl (fun e => .inr (by omega)))); clear hf3 hk3)
            go_ret3
            have hx := HXX.out
            rw [if_neg HZE.out] at hx
            subst hx
            exact ⟨_, rfl, (HF3.out.1).alloc _, HK3.out.below (below_alloc (Below.refl _ _) _), Kd.R_nil _ _ _ _ _⟩
        · have c2b0 : decide (i < (l.length : Int)) = false := decide_eq_false c2
          have hq := HQ.out
          rw [List.drop_of_length_le (by have := HI.out; omega), fillS] at hq
          injection hq with hq1 hq2
          injection hq2 with hq2 hq3
          subst hq1 hq2 hq3
          obtain ⟨g4, c4, hd4, hg4, hx4, hr4, hc4⟩ := HFL.out.at HSO.out.1 HSO.out.2.1
          have HD4 := Aside0.mk hd4
          have HX4 := Aside0.mk hx4
          have HR4 := Aside0.mk (And.intro hr4 hc4)
          have HL4 := Aside0.mk HSO.out.1.rs.len
          have hy0 := (blk_cell HX4.out 0).trans rfl
          have hy1 := (blk_cell HX4.out 1).trans rfl
          have hy2 := (blk_cell HX4.out 2).trans rfl
          clear hd4 hx4 hr4 hc4 hg4 c2 HQ
          go_upto_region 21 with fail
          go_region_law (refine goes_ Try.func42 (by kernel_rfl) rfl #[.pointer (some ⟨gd, 0, none⟩), .int .u32 s.pg, .slice (some ⟨g4, 0, none⟩) 512 c4] rfl rfl rfl (by simp [Act.eval, Act.put]) ?_; (with_reducible refine (write_all (HD4.out.below (below_drew1 (Below.refl _ _))) s.pg (some ⟨g4, 0, none⟩) 512 c4 (hp 0 s.rs) HSO.out.1.pg.1 HSO.out.1.pg.2 HL4.out (R_Cn (Kd.R_drew HR4.out.1))).mono ?_); rintro en w2 ⟨rfl, hd2, hk2, hb2⟩; refine ⟨_, rfl, ?_⟩; have HD2 := Aside0.mk hd2; have HO2 := Aside0.mk (Kd.R_kept (Kd.R_drew HO.out) hk2 (fun k hk h => by have := HD.out k h; omega)); have HK2 := Aside0.mk (HKP.out.drew.call hk2 hb2 (fun _ hk => .inl hk)); clear hd2 hk2 hb2 hy0 hy1 hy2)
          all_goals
            go_wp2
            go_ret3
            have hx := HXX.out
            rw [if_pos (by first | rfl | trivial), HSO.out.2.2.1] at hx
            subst hx
            exact ⟨_, rfl, HD2.out, HK2.out, Kd.R_mono HO2.out (fun _ _ => trivial)⟩
/-- heap.Fill: the error, the disk behind it, the first page and the records' places if there is none. -/
theorem fill_ok (hD : ∀ k, D k → k < w.heap.size) (h : Dk w D gd d t) (hy : By d) (A : Option Addr) (c : Nat) (l : List (List Int)) (hF : Kd.F (Kd.slice 5 (Kd.int .u8)) w okr A l.length l) (hokr : ∀ k, okr k → ¬ D k ∧ k < w.heap.size) (hl : l.length ≤ 100000) (hby : ∀ r ∈ l, By r) :
    Calls Try.prog 14 #[.pointer (some ⟨gd, 0, none⟩), .slice A l.length c] w fun e W' => ∃ v, e = .returned (.tuple #[.int .u32 (if (fillF d t l).1 = 0 then (fillF d t l).2.1.first else 0), v, .int .i64 (fillF d t l).1]) ∧ Dk W' D gd (fillF d t l).2.1.d (fillF d t l).2.1.t ∧ Kp w W' D ∧ Kd.R k50 50 W' w.heap.size (fun _ => True) v (if (fillF d t l).1 = 0 then (fillF d t l).2.2 else []) := by
  unfold fillF
  by_cases hg : l.any badR = true
  · rw [if_pos hg]
    refine (fill_bad A c l hF hl hg).mono ?_
    rintro e W' ⟨rfl, rfl⟩
    exact ⟨_, rfl, h, Kp.refl _ _, Kd.R_nil _ _ _ _ _⟩
  · rw [if_neg hg]
    have hg2 : l.any badR = false := by simpa using hg
    by_cases hz : (nextS (s0_ d t)).1 = 0
    · rw [if_pos hz]
      obtain ⟨E, S, O, he⟩ : ∃ E S O, fillS l (nextS (s0_ d t)).2 [] = (E, S, O) := ⟨_, _, _, rfl⟩
      have hx := fill_goes hD h hy A c l hF hokr hl hby hg2 hz E S O he _ rfl
      rw [he]
      by_cases h0 : E = 0
      · subst h0
        simp only [if_true] at hx ⊢
        exact hx
      · simp only [if_neg h0] at hx ⊢
        exact hx
    · rw [if_neg hz]
      refine (fill_none hD h hy A c l hF hl hg2 hz).mono ?_
      rintro e W' ⟨rfl, h1, h2⟩
      simp only [if_neg hz]
      exact ⟨_, rfl, h1, h2, Kd.R_nil _ _ _ _ _⟩
end
end Go.Proofs.Ytpfegfkniilobaa.Hp
namespace Go.Proofs.Ytpfegfkniilobaa.Hp
open Go.RowKit Go.Proofs.YtpfegfkniilobaaW.PrintWords Go.Proofs.YtpfegfkniilobaaW.PrintLast Go.Proofs.YtpfegfkniilobaaW.PrintMore Go.Proofs.Ytpfegfkniilobaa.Byt Go.Proofs.Ytpfegfkniilobaa.Dsk Go.Proofs.Ytpfegfkniilobaa.XHeap
open Go.Proofs.Ytpfegfkniilobaa.PureSl (room Ok txt)
set_option linter.unusedVariables false
set_option linter.unusedSimpArgs false
set_option maxRecDepth 100000
/-- The rows of the reference's heap: pages, what is taken, records, places; pages and records lie apart. -/
structure Hv (w0 W : World) (v0 v1 v5 v6 : Value) (P : List ByteArray) (T : List Bool) (R : List ByteArray) (O : List S50) : Prop where
  r0 : Kd.R Kd.string 9 W w0.heap.size (fun _ => True) v0 P
  r1 : Kd.R Kd.bool 4 W w0.heap.size (fun _ => True) v1 T
  r5 : Kd.R Kd.string 9 W w0.heap.size (fun _ => True) v5 R
  r6 : Kd.R k50 50 W w0.heap.size (fun _ => True) v6 O
  ap : ∀ k, v0.ownBlock = some k → v5.ownBlock ≠ some k
/-- The blocks of a heap's rows. -/
def Sv (v0 v1 v5 v6 : Value) (k : Nat) : Prop := some k = v0.ownBlock ∨ some k = v1.ownBlock ∨ some k = v5.ownBlock ∨ some k = v6.ownBlock
section
variable {w0 W W2 : World} {v0 v1 v5 v6 : Value} {P R : List ByteArray} {T : List Bool} {O : List S50}
theorem own_lt {α : Type} {d : Kd α} {e base : Nat} {ok : Nat → Prop} {v : Value} {xs : List α} (h : d.R e W base ok v xs) {k : Nat} (hk : v.ownBlock = some k) : k < W.heap.size := by
  obtain ⟨cells, hc⟩ := Kd.R_typed h k hk
  exact blk_lt hc
end
end Go.Proofs.Ytpfegfkniilobaa.Hp
namespace Go.Proofs.Ytpfegfkniilobaa.Hp
open Go.RowKit Go.Proofs.YtpfegfkniilobaaW.PrintWords Go.Proofs.YtpfegfkniilobaaW.PrintLast Go.Proofs.YtpfegfkniilobaaW.PrintMore Go.Proofs.Ytpfegfkniilobaa.Byt Go.Proofs.Ytpfegfkniilobaa.Dsk Go.Proofs.Ytpfegfkniilobaa.XHeap
open Go.Proofs.Ytpfegfkniilobaa.PureSl (room Ok txt)
set_option linter.unusedVariables false
set_option linter.unusedSimpArgs false
set_option maxRecDepth 100000
section
variable {w0 w : World} {O : List S50} {s : St} {n : Nat} {A0 A1 A5 A6 : Option Addr} {n0 c0 c1 n5 c5 n6 c6 : Nat}
end
end Go.Proofs.Ytpfegfkniilobaa.Hp
