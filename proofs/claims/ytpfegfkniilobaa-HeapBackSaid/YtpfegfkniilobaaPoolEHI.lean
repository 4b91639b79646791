/- Get of any page; a disk of pages with their bytes; a nil pool's Head. Conditions: stated in each theorem. -/
import Derived.Test.YtpfegfkniilobaaPoolD
import Derived.Test.YtpfegfkniilobaaPureSlotsC
namespace Go.Proofs.Ytpfegfkniilobaa.Pool
open Go.Proofs.YtpfegfkniilobaaW
open Go.RowKit Go.Proofs.YtpfegfkniilobaaW.PrintWords Go.Proofs.YtpfegfkniilobaaW.PrintLast Go.Proofs.YtpfegfkniilobaaW.PrintMore Go.Proofs.Ytpfegfkniilobaa.Byt Go.Proofs.Ytpfegfkniilobaa.Dsk
set_option linter.unusedVariables false
set_option linter.unusedSimpArgs false
set_option maxRecDepth 100000
/-- What a get does to the order. -/
def lru (size : Int) (order : List Int) (p : Int) : List Int := if p ∈ order then order.erase p ++ [p] else (if (order.length : Int) = size then order.drop 1 else order) ++ [p]
/-- A pool, whatever its map and row are. -/
def Pw (w : World) (ok : Nat → Prop) (g gd : Nat) (size : Int) (order : List Int) (rd ht : Int) (pgf : Int → List Int) (N : Nat) : Prop := ∃ gm n D vo, Pl w ok g gd size order order rd ht pgf N gm n D vo
section
variable {w w' : World} {ok ok' : Nat → Prop} {g gd : Nat} {size : Int} {order : List Int} {rd ht : Int} {pgf : Int → List Int} {N : Nat}
theorem Pw.step (h : Pw w ok g gd size order rd ht pgf N) (hm : ∀ k, ok k → k < w.heap.size → w'.heap[k]? = w.heap[k]?) : Pw w' ok g gd size order rd ht pgf N := by
  obtain ⟨gm, n, D, vo, h⟩ := h
  exact ⟨gm, n, D, vo, h.step hm⟩
theorem Pw.mono (h : Pw w ok g gd size order rd ht pgf N) (hm : ∀ k, ok k → ok' k) : Pw w ok' g gd size order rd ht pgf N := by
  obtain ⟨gm, n, D, vo, h⟩ := h
  exact ⟨gm, n, D, vo, h.mono hm⟩
theorem Pw.bound (h : Pw w ok g gd size order rd ht pgf N) : Pw w (fun k => ok k ∧ k < w.heap.size) g gd size order rd ht pgf N := by
  obtain ⟨gm, n, D, vo, h⟩ := h
  exact ⟨gm, n, D, vo, h.bound⟩
theorem Pw.len (h : Pw w ok g gd size order rd ht pgf N) : (order.length : Int) ≤ size := by
  obtain ⟨gm, n, D, vo, h⟩ := h
  exact h.len
end
theorem Pl.more {w : World} {ok : Nat → Prop} {g gd : Nat} {size : Int} {order ks : List Int} {rd ht : Int} {pgf : Int → List Int} {N gm n : Nat} {D : DataW Unit} {vo : Value} (h : Pl w ok g gd size order ks rd ht pgf N gm n D vo) : Pl w ok g gd size order ks rd ht pgf (N + 1) gm n D vo where
  og := h.og
  om := h.om
  box := h.box
  row := h.row
  map := h.map
  has := h.has
  val := h.val
  rng := h.rng
  nod := h.nod
  len := h.len
  len2 := h.len2
  plen := h.plen
  nb := Nat.le_succ_of_le h.nb
/-- A page that the disk has not is refused. -/
theorem get_out {w : World} {ok okd : Nat → Prop} {g gd : Nat} {size : Int} {order : List Int} {rd ht : Int} {pgf : Int → List Int} {N gm n : Nat} {D : DataW Unit} {vo : Value} {d : List Int} {t : List Bool} (h : Pl w ok g gd size order order rd ht pgf N gm n D vo) (hd : Dk w okd gd d t) (p : Int) (hp : 0 ≤ p) (hp2 : p < 4294967296) (hpt : (t.length : Int) ≤ p) (hnew : p ∉ order) :
    Calls Try.prog 92 #[.pointer (some ⟨g, 0, none⟩), .int .u32 p] w fun e w' => e = .returned (.tuple #[.slice none 0 0, .int .i64 8]) ∧ Below w.heap.size w w' := by
  have hhas := h.has p hp hp2
  rw [decide_eq_false hnew] at hhas
  have HB1 := Aside0.mk (blk_new w (.cells #[.int .u32 p] 36))
  have HP1 := Aside0.mk (h.alloc (.cells #[.int .u32 p] 36))
  have HD1 := Aside0.mk (hd.alloc (.cells #[.int .u32 p] 36))
  have hl := fun m : Nat => look_run ((HP1.out.drewN m).map) ⟨hp, hp2⟩ (v := .slice none 0 0) (ps := []) (by rw [Maps.atKey_of_not_has hhas]; rfl) hhas
  have hx2 := (blk_cell HP1.out.box 2).trans rfl
  have hb0 := (blk_cell HB1.out 0).trans rfl
  have HK1 := Aside0.mk (below_alloc (Below.refl w.heap.size w) (.cells #[.int .u32 p] 36))
  have HL := Aside0.mk (And.intro hp (And.intro hp2 hpt))
  clear hhas h hd hp hp2 hpt hnew
  go_enter Try.func92, Try.ntmps92
  go_wp2
  generalize hw1 : w.alloc (.cells #[.int .u32 p] 36) = w1 at HB1 HP1 HD1 hl hx2 hb0 HK1 ⊢
  clear hw1
  go_quiet (fail)
  have HP2 := Aside0.mk (HP1.out.drewN nq)
  have HB2 := Aside0.mk (blk_drewN HB1.out nq)
  have HD2 := Aside0.mk (HD1.out.drewN nq)
  have HK2 := Aside0.mk (pw_below_drewN HK1.out nq)
  generalize w1.drewN nq = w2 at HP2 HB2 HD2 HK2 ⊢
  clear hl hx2 hb0
  have hx0 := (blk_cell HP2.out.box 0).trans rfl
  have hb0 := (blk_cell HB2.out 0).trans rfl
  go_upto_region 9 with fail
  go_cut [8, 9] (fun s8 s9 wc => s8 = .slice none 0 0 ∧ s9 = .int .i64 8 ∧ Aside0 (Below w.heap.size w wc))
  case first =>
    go_region_with (go_at_call 116; (with_reducible refine (read_out (HD2.out.step (w' := w2.drew) (fun _ _ _ => rfl)) p HL.out.1 HL.out.2.2 HL.out.2.1).mono ?_); rintro en w3 ⟨rfl, rfl⟩)
    all_goals
      go_wp2
      go_meet
      exact ⟨rfl, rfl, ⟨below_drew1 HK2.out⟩⟩
  case rest =>
    obtain ⟨rfl, rfl, HB⟩ := hcut
    clear hx0 hb0
    go_wp2
    go_ret2
    exact ⟨rfl, HB.out⟩
/-- Any page that the disk has is got. -/
theorem get_ok {w : World} {ok okd : Nat → Prop} {g gd : Nat} {size : Int} {order : List Int} {rd ht : Int} {pgf : Int → List Int} {N : Nat} {d : List Int} {t : List Bool} (h : Pw w ok g gd size order rd ht pgf N) (hd : Dk w okd gd d t) (hsz : 1 ≤ size) (hN : N ≤ 1000000) (p : Int) (hp : 0 ≤ p) (hpt : p < t.length) (hpg : ∀ q, pgf q = pg d q.toNat) (h4 : order.length < 4096) (hr : 0 ≤ rd ∧ rd ≤ 1000000 ∧ 0 ≤ ht ∧ ht ≤ 1000000) :
    Calls Try.prog 92 #[.pointer (some ⟨g, 0, none⟩), .int .u32 p] w fun e w' => ∃ v, e = .returned (.tuple #[v, .int .i64 0]) ∧ Kd.R (Kd.int .u8) 5 w' w.heap.size (fun _ => True) v (pg d p.toNat) ∧ Pw w' (fun k => (ok k ∨ w.heap.size ≤ k) ∧ some k ≠ v.ownBlock) g gd size (lru size order p) (if p ∈ order then rd else rd + 1) (if p ∈ order then ht + 1 else ht) pgf (N + 1) ∧ Kp w w' ok := by
  obtain ⟨gm, n, D, vo, h⟩ := h
  by_cases hm : p ∈ order
  · obtain ⟨pre, post, rfl⟩ := List.append_of_mem hm
    have hpre : p ∉ pre := fun hq => (nodup_mid h.nod).1 p hq rfl
    refine (get_hit pre post p h).mono ?_
    rintro e w' ⟨v, vo', rfl, hR, hP, hK⟩
    rw [hpg] at hR
    refine ⟨v, rfl, hR, ⟨gm, n, D, vo', ?_⟩, hK⟩
    rw [if_pos hm, if_pos hm, lru, if_pos hm, List.erase_append_right _ hpre, List.erase_cons_head]
    have e1 : (ht + 1) % 18446744073709551616 = ht + 1 := by omega
    rw [e1] at hP
    exact hP.more
  · refine (get_miss h hd hsz hN p hp hpt hm (hpg p) h4 _ rfl).mono ?_
    rintro e w' ⟨v, gm', n', D', vo', rfl, hR, hP, hK⟩
    rw [hpg] at hR
    refine ⟨v, rfl, hR, ⟨gm', n', D', vo', ?_⟩, hK⟩
    rw [if_neg hm, if_neg hm, lru, if_neg hm]
    have e1 : (rd + 1) % 18446744073709551616 = rd + 1 := by omega
    rw [e1] at hP
    exact hP
end Go.Proofs.Ytpfegfkniilobaa.Pool
namespace Go.Proofs.Ytpfegfkniilobaa.Pool
open Go.Proofs.YtpfegfkniilobaaW
open Go.RowKit Go.Proofs.YtpfegfkniilobaaW.PrintWords Go.Proofs.YtpfegfkniilobaaW.PrintLast Go.Proofs.YtpfegfkniilobaaW.PrintMore Go.Proofs.Ytpfegfkniilobaa.Byt Go.Proofs.Ytpfegfkniilobaa.Dsk
set_option linter.unusedVariables false
set_option linter.unusedSimpArgs false
set_option maxRecDepth 100000
section
variable {w w' : World} {ok : Nat → Prop} {g gd : Nat} {size : Int} {order ks : List Int} {rd ht : Int} {pgf : Int → List Int} {N gm n : Nat} {D : DataW Unit} {vo : Value}
end
/-- Any page: one that the disk has not is refused. -/
theorem get_any {w : World} {ok okd : Nat → Prop} {g gd : Nat} {size : Int} {order : List Int} {rd ht : Int} {pgf : Int → List Int} {N : Nat} {d : List Int} {t : List Bool} (h : Pw w ok g gd size order rd ht pgf N) (hd : Dk w okd gd d t) (hsz : 1 ≤ size) (hN : N ≤ 1000000) (p : Int) (hp : 0 ≤ p ∧ p < 4294967296) (hpg : ∀ q, pgf q = pg d q.toNat) (h4 : order.length < 4096) (hr : 0 ≤ rd ∧ rd ≤ 1000000 ∧ 0 ≤ ht ∧ ht ≤ 1000000) (hm : ∀ q ∈ order, q < t.length)
    (xs : List Int) (er : Int) (o' : List Int) (r' h' : Int) (hxs : xs = if p < t.length then pg d p.toNat else []) (her : er = if p < t.length then 0 else 8) (ho' : o' = if p < t.length then lru size order p else order) (hr' : r' = if p < t.length ∧ p ∉ order then rd + 1 else rd) (hh' : h' = if p < t.length ∧ p ∈ order then ht + 1 else ht) :
    Calls Try.prog 92 #[.pointer (some ⟨g, 0, none⟩), .int .u32 p] w fun e w' => ∃ A c, e = .returned (.tuple #[.slice A xs.length c, .int .i64 er]) ∧ Kd.R (Kd.int .u8) 5 w' w.heap.size (fun _ => True) (.slice A xs.length c) xs ∧ Pw w' (fun k => (ok k ∨ w.heap.size ≤ k) ∧ some k ≠ (Value.slice A xs.length c).ownBlock) g gd size o' r' h' pgf (N + 1) ∧ Kp w w' ok := by
  by_cases hin : p < t.length
  · rw [if_pos hin] at hxs her ho'
    refine (get_ok h hd hsz hN p hp.1 hin hpg h4 hr).mono ?_
    rintro e w' ⟨v, rfl, hR, hP, hK⟩
    rw [← hxs] at hR
    obtain ⟨A, c, rfl⟩ := Kd.R_slice hR
    refine ⟨A, c, by rw [her], hR, ?_, hK⟩
    have e1 : r' = if p ∈ order then rd else rd + 1 := by
      rw [hr']
      by_cases hm : p ∈ order
      · rw [if_neg (fun h => h.2 hm), if_pos hm]
      · rw [if_pos ⟨hin, hm⟩, if_neg hm]
    have e2 : h' = if p ∈ order then ht + 1 else ht := by
      rw [hh']
      by_cases hm : p ∈ order
      · rw [if_pos ⟨hin, hm⟩, if_pos hm]
      · rw [if_neg (fun h => hm h.2), if_neg hm]
    rw [ho', e1, e2]
    exact hP
  · rw [if_neg hin] at hxs her ho'
    rw [if_neg (fun h => hin h.1)] at hr' hh'
    subst hxs her ho' hr' hh'
    obtain ⟨gm, n, D, vo, h⟩ := h
    refine (get_out h hd p hp.1 hp.2 (by omega) (fun hq => hin (hm p hq))).mono ?_
    rintro e w' ⟨rfl, hb⟩
    exact ⟨none, 0, rfl, Kd.R_nil _ _ _ _ _, ⟨gm, n, D, vo, ((h.below hb).more).mono fun k hk => ⟨.inl hk, nofun⟩⟩, Kp.of_below hb ok⟩
end Go.Proofs.Ytpfegfkniilobaa.Pool
namespace Go.Proofs.Ytpfegfkniilobaa.Pool
open Go.Proofs.YtpfegfkniilobaaW
open Go.RowKit Go.Proofs.YtpfegfkniilobaaW.PrintWords Go.Proofs.YtpfegfkniilobaaW.PrintLast Go.Proofs.YtpfegfkniilobaaW.PrintMore Go.Proofs.Ytpfegfkniilobaa.Byt Go.Proofs.Ytpfegfkniilobaa.Dsk
open Go.Proofs.Ytpfegfkniilobaa.XHeap
set_option linter.unusedVariables false
set_option linter.unusedSimpArgs false
set_option maxRecDepth 100000
theorem kp_box {w w1 w2 : World} {ok : Nat → Prop} (hb : Below w.heap.size w w1) (hs : w1.heap.size = w.heap.size + 1) (h : Kp w1 w2 (fun k => ok k ∧ k < w.heap.size)) : Kp w w2 ok :=
  ⟨by have := h.size; omega, fun i hi hn => (h.same i (by omega) (fun hk => hn hk.1)).trans (hb.block i hi), h.os.trans hb.os, h.tape.trans hb.tape, h.output.trans hb.output⟩
theorem Pl.pw {w : World} {ok : Nat → Prop} {g gd : Nat} {size : Int} {order : List Int} {rd ht : Int} {pgf : Int → List Int} {N gm n : Nat} {D : DataW Unit} {vo : Value} (h : Pl w ok g gd size order order rd ht pgf N gm n D vo) : Pw w ok g gd size order rd ht pgf N := ⟨_, _, _, _, h⟩
end Go.Proofs.Ytpfegfkniilobaa.Pool
