/- The law's 'same' walked: a disk shows the reference's pages. Conditions: the pages are the disk's, what is taken is the same. -/
import Derived.Test.YtolgcohmmghehaaDskF
import Derived.Test.YtolgcohmmghehaaXDiskPlaysx1
import Derived.Test.YtolgcohmmghehaaXDiskPlaysx2
import Derived.Deep.RegionHeld
namespace Go.Proofs.Ytolgcohmmghehaa.Dsk
open Go.RowKit Go.Proofs.YtolgcohmmghehaaW.PrintWords Go.Proofs.YtolgcohmmghehaaW.PrintLast Go.Proofs.YtolgcohmmghehaaW.PrintMore Go.Proofs.Ytolgcohmmghehaa.Byt Go.Proofs.Ytolgcohmmghehaa.XDiskPlays
set_option linter.unusedVariables false
set_option linter.unusedSimpArgs false
set_option maxRecDepth 100000
/-- A disk's pages as texts. -/
def pgs (d : List Int) (n : Nat) : List ByteArray := (List.range n).map fun i => strOfNums (pg d i)
theorem pgs_len (d : List Int) (n : Nat) : (pgs d n).length = n := by rw [pgs, List.length_map, List.length_range]
theorem pgs_at (d : List Int) (n : Nat) (i : Int) (h0 : 0 ≤ i) (h1 : i < n) : rdOf ByteArray.empty (pgs d n) i = strOfNums (pg d i.toNat) := by
  rw [rdOf, List.getD_eq_getElem?_getD, pgs, List.getElem?_map, List.getElem?_range (by omega)]
  rfl
theorem take_pg (d : List Int) (i : Nat) : d.take (512 * (i + 1)) = d.take (512 * i) ++ pg d i := by
  rw [pg, show 512 * (i + 1) = 512 * i + 512 by omega, List.take_add]
theorem left_f (t : List Bool) (P : List ByteArray) : ∀ (n : Nat) (i : Nat) (a : Int), i + n = t.length → 0 ≤ a → a + n ≤ 1000000 → t.length ≤ 1000000 → rowlockref06_Disk_Left.l0 (n + 1) a (t.length : Int) (i : Int) P t = some (a + lf (t.drop i))
  | 0, i, a, hi, h0, ha, hl => by
    rw [rowlockref06_Disk_Left.l0, if_neg (by omega), List.drop_of_length_le (by omega), lf]
    simp
  | n + 1, i, a, hi, h0, ha, hl => by
    have hlt : i < t.length := by omega
    have hd := drop_b t (i : Int) (by omega) (by omega)
    rw [show ((i : Int) + 1).toNat = i + 1 by omega, Int.toNat_natCast] at hd
    rw [rowlockref06_Disk_Left.l0, if_pos (by omega), if_pos (by omega), if_pos (by omega), wr_in ((i : Int) + 1) (by omega), wr_in (a + 1) (by omega), hd, lf]
    have e : ((i : Int) + 1) = ((i + 1 : Nat) : Int) := by omega
    cases rdOf false t i
    · rw [if_neg (by decide), e, left_f t P n (i + 1) (a + 1) (by omega) (by omega) (by omega) hl]
      simp
      omega
    · rw [if_pos rfl, e, left_f t P n (i + 1) a (by omega) (by omega) (by omega) hl]
      simp
set_option maxHeartbeats 8000000 in
theorem same_ok {w : World} {ok : Nat → Prop} {g : Nat} {d : List Int} {t : List Bool} (H : Dk w ok g d t) (hy : By d) (A : Option Addr) (c : Nat) (A2 : Option Addr) (c2 : Nat) (hp : Kd.C Kd.string w A (pgs d t.length).length (pgs d t.length)) (hpc : (pgs d t.length).length ≤ c) (ht : Kd.C Kd.bool w A2 t.length t) (htc : t.length ≤ c2) :
    Calls Try.prog 26 #[.pointer (some ⟨g, 0, none⟩), .agg #[.slice A t.length c, .slice A2 t.length c2]] w fun e w' => e = .returned (.bool true) ∧ Below w.heap.size w w' := by
  obtain ⟨P, hP⟩ : ∃ P, P = pgs d t.length := ⟨_, rfl⟩
  have hPl : P.length = t.length := by rw [hP, pgs_len]
  rw [← hP] at hp hpc
  have HH := Aside0.mk H
  have HP := Aside0.mk (And.intro hP (And.intro hp hpc))
  have HT := Aside0.mk (And.intro ht htc)
  have HL := Aside0.mk (And.intro H.2.1 (And.intro H.2.2.1 H.2.2.2.1))
  have HPL := Aside0.mk hPl
  have HY := Aside0.mk hy
  clear hP hp hpc ht htc hy hPl H
  go_enter Try.func26, Try.ntmps26
  go_wp2
  have HB1 := Aside0.mk (below_alloc (Below.refl w.heap.size w) (.cells #[.slice A t.length c, .slice A2 t.length c2] 49))
  have HX1 := Aside0.mk (blk_new w (.cells #[.slice A t.length c, .slice A2 t.length c2] 49))
  generalize hw1 : w.alloc (.cells #[.slice A t.length c, .slice A2 t.length c2] 49) = w1 at HB1 HX1 ⊢
  clear hw1
  have hx0 := (blk_cell HX1.out 0).trans rfl
  have hx1 := (blk_cell HX1.out 1).trans rfl
  go_cut [22] from 10 to 22 (fun s22 wc => s22 = .bool false ∧ Aside0 (wc.heap[w.heap.size]? = some (.cells #[.slice A t.length c, .slice A2 t.length c2] 49 (0, 0))) ∧ Aside0 (Below w.heap.size w wc))
  case first =>
    go_region_with (first
      | (go_at_call 33; (first | (with_reducible refine (len_ok (HH.out.below HB2.out)).mono ?_) | (with_reducible refine (len_ok (HH.out.below (below_drew1 HB1.out))).mono ?_)); rintro en w3 ⟨rfl, rfl⟩)
      | (go_at_call 34; (first | (with_reducible refine (left_ok (HH.out.below HB2.out)).mono ?_) | (with_reducible refine (left_ok (HH.out.below (below_drew1 HB1.out))).mono ?_)); rintro en w3 ⟨rfl, rfl⟩)
      | (go_at_call 65; (have hx := rowlockref06_Disk_Left.calls (t.length + 1) A c P A2 c2 t (lf t) w1.drew (Kd.C_below HP.out.2.1 (below_drew1 HB1.out)) HP.out.2.2 (Kd.C_below HT.out.1 (below_drew1 HB1.out)) HT.out.2 (by rw [rowlockref06_Disk_Left.f]; exact (left_f t P t.length 0 0 (by omega) (by omega) (by have := HL.out; omega) (by have := HL.out; omega)).trans (by simp))); rw [HPL.out] at hx; (with_reducible refine hx.mono ?_); clear hx; rintro en w2 ⟨rfl, hb⟩; have HB2 := Aside0.mk (below_then (below_drew1 HB1.out) (below_drew1 HB1.out).size hb); have HX2 := Aside0.mk (blk_below (blk_drew HX1.out) hb); clear hb; have hx02 := (blk_cell HX2.out 0).trans rfl; have hx12 := (blk_cell HX2.out 1).trans rfl))
    all_goals
      go_wp2
      go_meet
      exact ⟨rfl, HX2, HB2⟩
  case rest =>
    obtain ⟨rfl, HX, HB⟩ := hcut
    clear hx0 hx1 HX1 HB1
    have hx0 := (blk_cell HX.out 0).trans rfl
    go_wp2
    go_loopg [5, 26] t.length (fun kq v5 v26 w' => ∃ (i : Int), v5 = .string (strOfNums (d.take (512 * i.toNat))) ∧ v26 = .int .i64 i ∧ Aside0 (0 ≤ i ∧ (kq : Int) + i = t.length) ∧ Aside0 (w'.heap[w.heap.size]? = some (.cells #[.slice A t.length c, .slice A2 t.length c2] 49 (0, 0))) ∧ Aside0 (Below w.heap.size w w'))
    case atStart => exact ⟨0, rfl, rfl, ⟨by omega⟩, HX, HB⟩
    case round =>
      clear HX HB hx0
      obtain ⟨i, rfl, rfl, HI, HX, HB⟩ := hrel
      by_cases c5 : i < (t.length : Int)
      · have c5b : decide (i < (t.length : Int)) = true := decide_eq_true c5
        obtain ⟨ad, e1, hx0⟩ := Kd.at_string HP.out.2.1 i HI.out.1 (by rw [HPL.out]; exact c5)
        subst e1
        rw [HP.out.1, pgs_at d t.length i HI.out.1 c5] at hx0
        replace hx0 := (HB.out.cell (World.block_lt_of_cell? w _ hx0)).trans hx0
        have p9 : (0 ≤ i) = True := eq_true HI.out.1
        have q9 : (i < (t.length : Int)) = True := eq_true c5
        have u9 : IntKind.u32.wrap i = i := by rw [u32_eq]; have := HL.out; have := HI.out; omega
        have u8 : i % 4294967296 = i := by have := HL.out; have := HI.out; omega
        have hadd : (9223372036854775807 < (strOfNums (d.take (512 * i.toNat))).size + (strOfNums (pg d i.toNat)).size) = False := eq_false (by rw [str_size, str_size, pg, List.length_take, List.length_take, List.length_drop]; have := HL.out; omega)
        have hjoin := take_pg d i.toNat
        have hstr := str_append (d.take (512 * i.toNat)) (pg d i.toNat)
        rw [← hjoin, show i.toNat + 1 = (i + 1).toNat by have := HI.out.1; omega] at hstr
        have HS := Aside0.mk hstr
        have HC5 := Aside0.mk c5
        clear c5 hjoin hstr
        go_wp2_with (go_at_call 28; (with_reducible refine (read_in (HH.out.below HB.out) i HI.out.1 HC5.out).mono ?_); rintro en w3 ⟨v, rfl, ho, hb⟩; have hcv := own_string (P := Try.prog) Try.underlying26 Try.underlying5 Try.underlying9 (Kd.own_of_R ho); have HX3 := Aside0.mk (blk_below HX.out hb); have HB3 := Aside0.mk (below_then HB.out HB.out.size hb); clear ho hb)
        go_roundg (gk - 1)
        case measure => have h1 := HI.out; have h2 := HC5.out; omega
        case rel =>
          have h1 := HI.out
          have h2 := HC5.out
          have h3 := HL.out
          exact ⟨i + 1, by rw [HS.out], by first | rfl | rw [wr_in (i + 1) (by omega)], ⟨by omega⟩, HX3, HB3⟩
      · have c5b : decide (i < (t.length : Int)) = false := decide_eq_false c5
        have hi : i = t.length := by have := HI.out; omega
        have hall : d.take (512 * i.toNat) = d := List.take_of_length_le (by have := HL.out.1; omega)
        rw [hall]
        clear c5 hall
        go_wp2_with (go_at_call 23; (with_reducible refine (image_ok (HH.out.below HB.out)).mono ?_); rintro en w3 ⟨v, rfl, ho, hb⟩; have hcv := own_string (P := Try.prog) Try.underlying26 Try.underlying5 Try.underlying9 (Kd.own_of_R ho); have HB3 := Aside0.mk (below_then HB.out HB.out.size hb); clear ho hb)
        go_ret
        exact ⟨rfl, HB3.out⟩
end Go.Proofs.Ytolgcohmmghehaa.Dsk
