/- Write of a disk, whatever the page is; cuts of texts that are bytes. Conditions: the disk's blocks are known (Dk); a page's bytes. -/
import Derived.Test.YtolgcohmmghehaaDskE
import Derived.Laws.Strings3
import Derived.Laws.DeepStrings4
namespace Go.Proofs.Ytolgcohmmghehaa.Dsk
open Go.RowKit Go.Proofs.YtolgcohmmghehaaW.PrintWords Go.Proofs.YtolgcohmmghehaaW.PrintLast Go.Proofs.YtolgcohmmghehaaW.PrintMore Go.Proofs.Ytolgcohmmghehaa.Byt
set_option linter.unusedVariables false
set_option linter.unusedSimpArgs false
set_option maxRecDepth 100000
theorem R_Cn {w : World} {base n c : Nat} {ok : Nat → Prop} {A : Option Addr} {xs : List Int} (h : Kd.R (Kd.int .u8) 5 w base ok (.slice A n c) xs) : Kd.C (Kd.int .u8) w A n xs := by
  have h3 := Kd.R_reads' h
  rw [h3.1]
  exact h3.2.2
/-- What a write leaves: the bytes, what is taken, the error. -/
def wrF (d : List Int) (t : List Bool) (p : Int) (bs : List Int) : List Int × List Bool × Int := if p < t.length then (splice d (512 * p.toNat) bs, t.set p.toNat true, 0) else (d, t, 8)
theorem wrF_len (d : List Int) (t : List Bool) (p : Int) (bs : List Int) : (wrF d t p bs).2.1.length = t.length := by
  unfold wrF
  split
  · exact List.length_set ..
  · rfl
theorem By.splice {d bs : List Int} (h : By d) (k : By bs) (n : Nat) : By (splice d n bs) := (h.take _).append (k.append (h.drop _))
theorem wrF_by {d bs : List Int} (t : List Bool) (p : Int) (h : By d) (k : By bs) : By (wrF d t p bs).1 := by
  unfold wrF
  split
  · exact By.splice h k _
  · exact h
theorem write_any {w : World} {ok : Nat → Prop} {g : Nat} {d : List Int} {t : List Bool} (h : Dk w ok g d t) (p : Int) (A : Option Addr) (c : Nat) (bs : List Int) (h0 : 0 ≤ p) (hp : p < 4294967296) (hn : bs.length = 512) (hC : Kd.C (Kd.int .u8) w A 512 bs) : Calls Try.prog 21 #[.pointer (some ⟨g, 0, none⟩), .int .u32 p, .slice A 512 c] w fun e w' => e = .returned (.int .i64 (wrF d t p bs).2.2) ∧ Dk w' ok g (wrF d t p bs).1 (wrF d t p bs).2.1 ∧ Kept w w' ok ∧ ∀ B, (∀ k, ok k → B ≤ k) → Below B w w' := by
  unfold wrF
  by_cases hx : p < t.length
  · rw [if_pos hx]
    exact write_ok h p A c bs h0 hx hn hC
  · rw [if_neg hx]
    refine (write_out h p _ h0 (by omega) hp).mono ?_
    rintro e w' ⟨rfl, rfl⟩
    exact ⟨rfl, h, Kept.refl _ _, fun _ _ => Below.refl _ _⟩
theorem strTo (l : List Int) (n : Int) (h0 : 0 ≤ n) (h1 : n ≤ l.length) (W : World) : (Instr.slice 9 (.string (strOfNums l)) none (some (.int .i64 n)) none).run Try.prog W = .ok (.string (strOfNums (l.take n.toNat))) W := by
  rw [run_slice_string_to_if W 9 _ .i64 n Try.underlying9, if_pos ⟨h0, by rw [str_size]; exact h1⟩]
  have e := str_extract l 0 n.toNat
  rw [List.drop_zero] at e
  rw [e]
theorem strFrom (l : List Int) (n : Int) (h0 : 0 ≤ n) (h1 : n ≤ l.length) (W : World) : (Instr.slice 9 (.string (strOfNums l)) (some (.int .i64 n)) none none).run Try.prog W = .ok (.string (strOfNums (l.drop n.toNat))) W := by
  rw [run_slice_string_from_if W 9 _ .i64 n Try.underlying9, if_pos ⟨h0, by rw [str_size]; exact h1⟩, str_size, str_extract, List.take_length]
theorem strMid (l : List Int) (i j : Int) (h0 : 0 ≤ i) (h1 : i ≤ j) (h2 : j ≤ l.length) (W : World) : (Instr.slice 9 (.string (strOfNums l)) (some (.int .i64 i)) (some (.int .i64 j)) none).run Try.prog W = .ok (.string (strOfNums ((l.take j.toNat).drop i.toNat))) W := by
  rw [run_slice_string_if W 9 _ .i64 .i64 i j Try.underlying9, if_pos ⟨by omega, by rw [str_size]; exact h2⟩, if_pos ⟨h0, h1⟩, str_extract]
end Go.Proofs.Ytolgcohmmghehaa.Dsk
