/- Get of any page; a disk of pages with their bytes; a nil pool's Head. Conditions: stated in each theorem. -/
import Derived.Test.YtolgcohmmghehaaPoolD
import Derived.Test.YtolgcohmmghehaaXDiskHeadsx1
namespace Go.Proofs.Ytolgcohmmghehaa.Pool
open Go.Proofs.YtolgcohmmghehaaW
open Go.RowKit Go.Proofs.YtolgcohmmghehaaW.PrintWords Go.Proofs.YtolgcohmmghehaaW.PrintLast Go.Proofs.YtolgcohmmghehaaW.PrintMore Go.Proofs.Ytolgcohmmghehaa.Byt Go.Proofs.Ytolgcohmmghehaa.Dsk
set_option linter.unusedVariables false
set_option linter.unusedSimpArgs false
set_option maxRecDepth 100000
/-- What a get does to the order. -/
def lru (size : Int) (order : List Int) (p : Int) : List Int := if p ∈ order then order.erase p ++ [p] else (if (order.length : Int) = size then order.drop 1 else order) ++ [p]
/-- A pool, whatever its map and row are. -/
def Pw (w : World) (ok : Nat → Prop) (g gd : Nat) (size : Int) (order : List Int) (rd ht : Int) (pgf : Int → List Int) (N : Nat) : Prop := ∃ gm n D vo, Pl w ok g gd size order order rd ht pgf N gm n D vo
section
variable {w w' : World} {ok ok' : Nat → Prop} {g gd : Nat} {size : Int} {order : List Int} {rd ht : Int} {pgf : Int → List Int} {N : Nat}
theorem Pw.step (h : Pw w ok g gd size order rd ht pgf N) (hm : ∀ k, ok k → k < w.heap.size → w'.heap[k]? = w.heap[k]?) : Pw w' ok g gd size order rd ht pgf N := by
  obtain ⟨gm, n, D, vo, h⟩ := h
  exact ⟨gm, n, D, vo, h.step hm⟩
theorem Pw.below (h : Pw w ok g gd size order rd ht pgf N) (hb : Below w.heap.size w w') : Pw w' ok g gd size order rd ht pgf N := h.step fun k _ hk => hb.block k hk
theorem Pw.mono (h : Pw w ok g gd size order rd ht pgf N) (hm : ∀ k, ok k → ok' k) : Pw w ok' g gd size order rd ht pgf N := by
  obtain ⟨gm, n, D, vo, h⟩ := h
  exact ⟨gm, n, D, vo, h.mono hm⟩
theorem Pw.bound (h : Pw w ok g gd size order rd ht pgf N) : Pw w (fun k => ok k ∧ k < w.heap.size) g gd size order rd ht pgf N := by
  obtain ⟨gm, n, D, vo, h⟩ := h
  exact ⟨gm, n, D, vo, h.bound⟩
theorem Pw.kept {S : Nat → Prop} (h : Pw w ok g gd size order rd ht pgf N) (hk : Kept w w' S) (hn : ∀ k, ok k → ¬ S k) : Pw w' ok g gd size order rd ht pgf N := h.step fun k ho hlt => hk.2 k hlt (hn k ho)
theorem Pw.nod (h : Pw w ok g gd size order rd ht pgf N) : order.Nodup := by
  obtain ⟨gm, n, D, vo, h⟩ := h
  exact h.nod
theorem Pw.len (h : Pw w ok g gd size order rd ht pgf N) : (order.length : Int) ≤ size := by
  obtain ⟨gm, n, D, vo, h⟩ := h
  exact h.len
end
theorem Pl.more {w : World} {ok : Nat → Prop} {g gd : Nat} {size : Int} {order ks : List Int} {rd ht : Int} {pgf : Int → List Int} {N gm n : Nat} {D : DataW Unit} {vo : Value} (h : Pl w ok g gd size order ks rd ht pgf N gm n D vo) : Pl w ok g gd size order ks rd ht pgf (N + 1) gm n D vo where
  og := h.og
  om := h.om
  box := h.box
  row := h.row
  map := h.map
  has := h.has
  val := h.val
  rng := h.rng
  nod := h.nod
  len := h.len
  len2 := h.len2
  plen := h.plen
  nb := Nat.le_succ_of_le h.nb
/-- A page that the disk has not is refused. -/
theorem get_out {w : World} {ok okd : Nat → Prop} {g gd : Nat} {size : Int} {order : List Int} {rd ht : Int} {pgf : Int → List Int} {N gm n : Nat} {D : DataW Unit} {vo : Value} {d : List Int} {t : List Bool} (h : Pl w ok g gd size order order rd ht pgf N gm n D vo) (hd : Dk w okd gd d t) (p : Int) (hp : 0 ≤ p) (hp2 : p < 4294967296) (hpt : (t.length : Int) ≤ p) (hnew : p ∉ order) :
    Calls Try.prog 38 #[.pointer (some ⟨g, 0, none⟩), .int .u32 p] w fun e w' => e = .returned (.tuple #[.slice none 0 0, .int .i64 8]) ∧ Below w.heap.size w w' := by
  have hhas := h.has p hp hp2
  rw [decide_eq_false hnew] at hhas
  have HB1 := Aside0.mk (blk_new w (.cells #[.int .u32 p] 23))
  have HP1 := Aside0.mk (h.alloc (.cells #[.int .u32 p] 23))
  have HD1 := Aside0.mk (hd.alloc (.cells #[.int .u32 p] 23))
  have hl := fun m : Nat => look_run ((HP1.out.drewN m).map) ⟨hp, hp2⟩ (v := .slice none 0 0) (ps := []) (by rw [Maps.atKey_of_not_has hhas]; rfl) hhas
  have hx2 := (blk_cell HP1.out.box 2).trans rfl
  have hb0 := (blk_cell HB1.out 0).trans rfl
  have HK1 := Aside0.mk (below_alloc (Below.refl w.heap.size w) (.cells #[.int .u32 p] 23))
  have HL := Aside0.mk (And.intro hp (And.intro hp2 hpt))
  clear hhas h hd hp hp2 hpt hnew
  go_enter Try.func38, Try.ntmps38
  go_wp2
  generalize hw1 : w.alloc (.cells #[.int .u32 p] 23) = w1 at HB1 HP1 HD1 hl hx2 hb0 HK1 ⊢
  clear hw1
  go_quiet (fail)
  have HP2 := Aside0.mk (HP1.out.drewN nq)
  have HB2 := Aside0.mk (blk_drewN HB1.out nq)
  have HD2 := Aside0.mk (HD1.out.drewN nq)
  have HK2 := Aside0.mk (pw_below_drewN HK1.out nq)
  generalize w1.drewN nq = w2 at HP2 HB2 HD2 HK2 ⊢
  clear hl hx2 hb0
  have hx0 := (blk_cell HP2.out.box 0).trans rfl
  have hb0 := (blk_cell HB2.out 0).trans rfl
  go_upto_region 9 with fail
  go_cut [8, 9] (fun s8 s9 wc => s8 = .slice none 0 0 ∧ s9 = .int .i64 8 ∧ Aside0 (Below w.heap.size w wc))
  case first =>
    go_region_with (go_at_call 28; (with_reducible refine (read_out (HD2.out.step (w' := w2.drew) (fun _ _ _ => rfl)) p HL.out.1 HL.out.2.2 HL.out.2.1).mono ?_); rintro en w3 ⟨rfl, rfl⟩)
    all_goals
      go_wp2
      go_meet
      exact ⟨rfl, rfl, ⟨below_drew1 HK2.out⟩⟩
  case rest =>
    obtain ⟨rfl, rfl, HB⟩ := hcut
    clear hx0 hb0
    go_wp2
    go_ret2
    exact ⟨rfl, HB.out⟩
/-- Any page that the disk has is got. -/
theorem get_ok {w : World} {ok okd : Nat → Prop} {g gd : Nat} {size : Int} {order : List Int} {rd ht : Int} {pgf : Int → List Int} {N : Nat} {d : List Int} {t : List Bool} (h : Pw w ok g gd size order rd ht pgf N) (hd : Dk w okd gd d t) (hsz : 1 ≤ size) (hN : N ≤ 1000000) (p : Int) (hp : 0 ≤ p) (hpt : p < t.length) (hpg : ∀ q, pgf q = pg d q.toNat) (h4 : order.length < 4096) (hr : 0 ≤ rd ∧ rd ≤ 1000000 ∧ 0 ≤ ht ∧ ht ≤ 1000000) :
    Calls Try.prog 38 #[.pointer (some ⟨g, 0, none⟩), .int .u32 p] w fun e w' => ∃ v, e = .returned (.tuple #[v, .int .i64 0]) ∧ Kd.R (Kd.int .u8) 5 w' w.heap.size (fun _ => True) v (pg d p.toNat) ∧ Pw w' (fun k => (ok k ∨ w.heap.size ≤ k) ∧ some k ≠ v.ownBlock) g gd size (lru size order p) (if p ∈ order then rd else rd + 1) (if p ∈ order then ht + 1 else ht) pgf (N + 1) ∧ Kp w w' ok := by
  obtain ⟨gm, n, D, vo, h⟩ := h
  by_cases hm : p ∈ order
  · obtain ⟨pre, post, rfl⟩ := List.append_of_mem hm
    have hpre : p ∉ pre := fun hq => (nodup_mid h.nod).1 p hq rfl
    refine (get_hit pre post p h).mono ?_
    rintro e w' ⟨v, vo', rfl, hR, hP, hK⟩
    rw [hpg] at hR
    refine ⟨v, rfl, hR, ⟨gm, n, D, vo', ?_⟩, hK⟩
    rw [if_pos hm, if_pos hm, lru, if_pos hm, List.erase_append_right _ hpre, List.erase_cons_head]
    have e1 : (ht + 1) % 18446744073709551616 = ht + 1 := by omega
    rw [e1] at hP
    exact hP.more
  · refine (get_miss h hd hsz hN p hp hpt hm (hpg p) h4 _ rfl).mono ?_
    rintro e w' ⟨v, gm', n', D', vo', rfl, hR, hP, hK⟩
    rw [hpg] at hR
    refine ⟨v, rfl, hR, ⟨gm', n', D', vo', ?_⟩, hK⟩
    rw [if_neg hm, if_neg hm, lru, if_neg hm]
    have e1 : (rd + 1) % 18446744073709551616 = rd + 1 := by omega
    rw [e1] at hP
    exact hP
theorem head_len (a b c : Int) : (XDiskHeads.disk_Put.hd a b c ++ List.replicate 504 0).length = 512 := by rw [List.length_append, List.length_replicate]; rfl
theorem head_by (a b c : Int) (h : 0 ≤ a ∧ a ≤ 255) : By (XDiskHeads.disk_Put.hd a b c ++ List.replicate 504 0) := by
  refine By.append ?_ (By.zeros 504)
  unfold XDiskHeads.disk_Put.hd
  exact By.cons h (By.cons (by omega) (By.cons (by omega) (By.cons (by omega) (By.cons (by omega) (By.cons (by omega) (By.cons (by omega) (By.cons (by omega) By.nil)))))))
/-- A disk of some pages, each with its own bytes. -/
theorem begin_ok (w : World) (pages : Nat) (hp : 1 ≤ pages ∧ pages ≤ 20) : Calls Try.prog 36 #[.int .i64 (pages : Int)] w fun e w' => ∃ g d t, e = .returned (.pointer (some ⟨g, 0, none⟩)) ∧ Dk w' (fun k => w.heap.size ≤ k) g d t ∧ t.length = pages ∧ By d ∧ Below w.heap.size w w' := by
  have HP := Aside0.mk hp
  clear hp
  go_enter Try.func36, Try.ntmps36
  go_wp2_with (go_at_call 20; (with_reducible refine (new_ok _ (pages : Int) (by have := HP.out; omega)).mono ?_); rintro en w1 ⟨g, rfl, hd, hb⟩; rw [Int.toNat_natCast] at hd; have HD := Aside0.mk (And.intro hd (And.intro (show (ld (List.replicate (pages * 512) 0)).length = pages by rw [ld_zeros, List.length_map, List.length_range]) (By.zeros (pages * 512)))); have HB := Aside0.mk hb; clear hd hb)
  go_loopg [15] pages (fun kq v15 w' => ∃ (i : Nat) (d : List Int) (t : List Bool), v15 = .int .i64 (i : Int) ∧ Aside0 (kq + i = pages) ∧ Aside0 (Dk w' (fun k => w.heap.size ≤ k) g d t ∧ t.length = pages ∧ By d) ∧ Aside0 (Below w.heap.size w w'))
  case atStart => exact ⟨0, _, _, rfl, ⟨by omega⟩, HD, HB⟩
  case round =>
    clear HD HB
    obtain ⟨i, d, t, rfl, HI, HD, HB⟩ := hrel
    by_cases c5 : i < pages
    · have c5b : decide ((i : Int) < (pages : Int)) = true := decide_eq_true (by omega)
      have c5c : decide (i < pages) = true := decide_eq_true c5
      have HC := Aside0.mk c5
      have u23 : (i : Int) % 4294967296 = i := by have := HP.out; omega
      have HU := Aside0.mk (show (0 : Int) ≤ (i : Int) ∧ (i : Int) < 4294967296 by have := HP.out; omega)
      clear c5
      go_wp2_with (first
        | (go_at_call 16; (with_reducible refine (XDiskHeads.disk_Put.calls _ _ _ _ _ rfl).mono ?_); rintro en w4 ⟨v, rfl, ho, hb⟩; obtain ⟨A4, c4, e4⟩ := Kd.R_slice ho; rw [head_len] at e4; subst e4; have HO4 := Aside0.mk ho; have HD4 := Aside0.mk (HD.out.1.below hb); have HB4 := Aside0.mk (below_then HB.out HB.out.size hb); clear ho hb)
        | (go_at_call 21; (with_reducible refine (write_any HD4.out (i : Int) A4 c4 _ HU.out.1 HU.out.2 (head_len _ _ _) (R_Cn HO4.out)).mono ?_); rintro en w5 ⟨rfl, hd, _, hb⟩; have HD5 := Aside0.mk hd; have HB5 := Aside0.mk (HB4.out.trans (hb w.heap.size (fun _ hk => hk))); clear hd hb))
      go_roundg (gk - 1)
      case measure => have h1 := HI.out; have h2 := HC.out; omega
      case rel =>
        have h1 := HI.out
        have h2 := HC.out
        have h3 := HP.out
        exact ⟨i + 1, _, _, by first | rfl | (rw [wr_in ((i : Int) + 1) (by omega)]; rfl), ⟨by omega⟩, ⟨HD5.out, by rw [wrF_len]; exact HD.out.2.1, wrF_by _ _ HD.out.2.2 (head_by _ _ _ (by omega))⟩, HB5⟩
    · have c5b : decide ((i : Int) < (pages : Int)) = false := decide_eq_false (by omega)
      have c5c : decide (i < pages) = false := decide_eq_false c5
      clear c5
      go_wp2
      go_ret
      exact ⟨g, d, t, rfl, HD.out.1, HD.out.2.1, HD.out.2.2, HB.out⟩
theorem begin4 (w : World) : Calls Try.prog 36 #[.int .i64 4] w fun e w' => ∃ g d t, e = .returned (.pointer (some ⟨g, 0, none⟩)) ∧ Dk w' (fun k => w.heap.size ≤ k) g d t ∧ t.length = 4 ∧ By d ∧ Below w.heap.size w w' := begin_ok w 4 (by omega)
end Go.Proofs.Ytolgcohmmghehaa.Pool
