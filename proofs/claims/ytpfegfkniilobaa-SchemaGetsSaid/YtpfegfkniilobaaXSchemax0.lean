-- Written by this session's own program (wip/own_print.py) over the kit's print, with this session's hand-proved contracts in their places; Lean checks it.
import Derived.Test.YtpfegfkniilobaaProg
import Derived.Below
import Derived.Deep.Draws
import Derived.Deep.AppendLies
import Derived.Maps.AppendAt
import Derived.OwnWalk
import Derived.Laws.BytesArg
import Derived.Laws.MakeOwn
import Derived.Laws.OwnMore
import Derived.Deep.OwnRows
import Derived.Tactics
import Derived.Lib.ConvBytes
import Derived.Laws.Slices
import Derived.WalkKit
import Derived.KernelRfl
import Derived.RowKit3
import Derived.Deep.LoopGhost
import Derived.Deep.QuietTactic
import Derived.BigQuiet
import Derived.WideLaws
import Derived.Deep.DeepCutAuto
import Derived.Deep.CutBlock
import Derived.Deep.RegionHeld3
import Derived.Laws.Rows
import Derived.Lib.AppendStr
import Derived.ArgAppend
import Derived.Laws.IdiomCopy
import Derived.OrdersHeld
import Derived.Laws.BitsLemmas
import Derived.RowKit
import Derived.Test.YtpfegfkniilobaaFnv
import Derived.Test.YtpfegfkniilobaaWWords
import Derived.Test.YtpfegfkniilobaaWLast
import Derived.Test.YtpfegfkniilobaaWTab
import Derived.Test.YtpfegfkniilobaaWFour
import Derived.Test.YtpfegfkniilobaaWQPut
import Derived.Test.YtpfegfkniilobaaWApart
import Derived.Test.YtpfegfkniilobaaWArr
import Derived.Test.YtpfegfkniilobaaWZeros
import Derived.Test.YtpfegfkniilobaaWFoot
import Derived.Test.YtpfegfkniilobaaWKept
import Derived.Test.YtpfegfkniilobaaWShare
import Derived.Test.YtpfegfkniilobaaWN
import Derived.Test.YtpfegfkniilobaaWFootNe
import Derived.Test.YtpfegfkniilobaaWAt
import Derived.Test.YtpfegfkniilobaaWEqStruct
import Derived.Test.YtpfegfkniilobaaWRepsOne
import Derived.Test.YtpfegfkniilobaaWInv
import Derived.Test.YtpfegfkniilobaaWInvWords
import Derived.Test.YtpfegfkniilobaaWGuard
import Derived.Test.YtpfegfkniilobaaWNEv
import Derived.Test.YtpfegfkniilobaaWMore
namespace Go.Proofs.Ytpfegfkniilobaa.XSchema
open Go.RowKit Go.Proofs.YtpfegfkniilobaaW.PrintWords Go.Proofs.YtpfegfkniilobaaW.PrintLast Go.Proofs.YtpfegfkniilobaaW.PrintMore
attribute [local go_sem] max2_int min2_int max_two min_two max_three min_three max_four min_four   -- for this text's walks alone
set_option linter.unusedVariables false
set_option linter.unusedSimpArgs false



def errW : Option Int → Value
 | none => .nilIface
 | some c => .iface 0 (.int .i64 c)
theorem errW_none : errW none = .nilIface := rfl
theorem errW_some (c : Int) : errW (some c) = .iface 0 (.int .i64 c) := rfl

theorem info3 : (Try.prog.info? 3).map (fun i => (i.zero, i.size, i.bytes)) = some (some (.int .i64 0), 1, 8) := by kernel_rfl
theorem info5 : (Try.prog.info? 5).map (fun i => (i.zero, i.size, i.bytes)) = some (some (.int .u8 0), 1, 1) := by kernel_rfl
theorem info9 : (Try.prog.info? 9).map (fun i => (i.zero, i.size, i.bytes)) = some (some (.string ⟨#[]⟩), 1, 16) := by kernel_rfl
theorem info84 : (Try.prog.info? 84).map (fun i => (i.zero, i.size, i.bytes)) = some (some (.agg #[(.string ⟨#[]⟩), (.slice none 0 0), (.int .u32 0), (.int .i64 0), (.int .i64 0)]), 5, 64) := by kernel_rfl
theorem info87 : (Try.prog.info? 87).map (fun i => (i.zero, i.size, i.bytes)) = some (some (.agg #[(.string ⟨#[]⟩), (.int .u8 0), (.int .i64 0), (.int .i64 0)]), 4, 40) := by kernel_rfl
theorem info135 : (Try.prog.info? 135).map (fun i => (i.zero, i.size, i.bytes)) = some (some (.agg #[(.string ⟨#[]⟩), (.int .i64 0), (.slice none 0 0), (.int .u32 0), (.int .i64 0), (.int .i64 0), (.slice none 0 0)]), 7, 96) := by kernel_rfl
-- the values' own types
/-! #### struct type 87 -/
structure S87 where
 f0 : ByteArray
 f1 : Int
 f2 : Int
 f3 : Int
def z87 : S87 := ⟨(⟨#[]⟩ : ByteArray), (0 : Int), (0 : Int), (0 : Int)⟩
def k87 : Kd S87 := Kd.iso (Kd.pair Kd.string (Kd.pair (Kd.int .u8) (Kd.pair (Kd.int .i64) (Kd.int .i64)))) (fun x : S87 => (x.f0, x.f1, x.f2, x.f3))
theorem k87_open {w : World} {x : S87} {cs : List Value} (h : k87.K w x cs) : cs = [.string x.f0, .int .u8 x.f1, .int .i64 x.f2, .int .i64 x.f3] := by
 obtain ⟨_, _, rfl, rfl, ⟨_, _, rfl, rfl, ⟨_, _, rfl, rfl, rfl⟩⟩⟩ := h
 exact rfl
theorem k87_openM {w : World} {base : Nat} {ok : Nat → Prop} {x : S87} {cs : List Value} (h : k87.M w base ok x cs) : cs = [.string x.f0, .int .u8 x.f1, .int .i64 x.f2, .int .i64 x.f3] := by
 obtain ⟨_, _, rfl, rfl, ⟨_, _, rfl, rfl, ⟨_, _, rfl, rfl, rfl⟩⟩⟩ := h
 exact rfl
theorem k87_mk (w : World) (x : S87)  : k87.K w x [.string x.f0, .int .u8 x.f1, .int .i64 x.f2, .int .i64 x.f3] := ⟨[.string x.f0], [.int .u8 x.f1, .int .i64 x.f2, .int .i64 x.f3], rfl, rfl, ⟨[.int .u8 x.f1], [.int .i64 x.f2, .int .i64 x.f3], rfl, rfl, ⟨[.int .i64 x.f2], [.int .i64 x.f3], rfl, rfl, rfl⟩⟩⟩
theorem k87_mkM (w : World) (base : Nat) (ok : Nat → Prop) (x : S87)  : k87.M w base ok x [.string x.f0, .int .u8 x.f1, .int .i64 x.f2, .int .i64 x.f3] := ⟨[.string x.f0], [.int .u8 x.f1, .int .i64 x.f2, .int .i64 x.f3], rfl, rfl, ⟨[.int .u8 x.f1], [.int .i64 x.f2, .int .i64 x.f3], rfl, rfl, ⟨[.int .i64 x.f2], [.int .i64 x.f3], rfl, rfl, rfl⟩⟩⟩
def rd_T87 (xs : List S87) (i : Int) : S87 := xs.getD i.toNat z87
theorem at_T87 {w : World} {A : Option Addr} {n : Nat} {xs : List S87} (h : Kd.C k87 w A n xs) (i : Int) (h0 : 0 ≤ i) (h1 : i < n) : ∃ ad , A = some ad ∧ w.cell? (ad.add (i.toNat * 4)) = some (.string (rd_T87 xs i).f0) ∧ w.cell? ⟨(ad.add (i.toNat * 4)).block, (ad.add (i.toNat * 4)).off + 1, none⟩ = some (.int .u8 (rd_T87 xs i).f1) ∧ w.cell? ⟨(ad.add (i.toNat * 4)).block, (ad.add (i.toNat * 4)).off + 2, none⟩ = some (.int .i64 (rd_T87 xs i).f2) ∧ w.cell? ⟨(ad.add (i.toNat * 4)).block, (ad.add (i.toNat * 4)).off + 3, none⟩ = some (.int .i64 (rd_T87 xs i).f3) := by
 obtain ⟨ad, c, e, _, hK, hc0⟩ := Kd.C_get h z87 i h0 h1
 have hc : ∀ j u, c[j]? = some u → w.cell? (ad.add (i.toNat * 4 + j)) = some u := hc0
 obtain rfl := k87_open hK
 exact ⟨ad, e, hc 0 _ rfl, by rw [← add_field _ _ 1 (by omega)]; exact hc 1 _ rfl, by rw [← add_field _ _ 2 (by omega)]; exact hc 2 _ rfl, by rw [← add_field _ _ 3 (by omega)]; exact hc 3 _ rfl⟩

def rd_L4 (xs : List (List S87)) (i : Int) : (List S87) := xs.getD i.toNat ([] : List S87)
theorem at_L4 {w : World} {A : Option Addr} {n : Nat} {xs : List (List S87)} (h : Kd.C (Kd.slice 87 k87) w A n xs) (i : Int) (h0 : 0 ≤ i) (h1 : i < n) : ∃ ad A0 c0, A = some ad ∧ w.cell? (ad.add i.toNat) = some (.slice A0 (rd_L4 xs i).length c0) ∧ (rd_L4 xs i).length ≤ c0 ∧ k87.C w A0 (rd_L4 xs i).length (rd_L4 xs i) := by
 obtain ⟨ad, c, e, _, hK, hc0⟩ := Kd.C_get h ([] : List S87) i h0 h1
 have hc : ∀ j u, c[j]? = some u → w.cell? (ad.add (i.toNat * 1 + j)) = some u := hc0
 obtain ⟨A0, c0, rfl, l0, g0⟩ := hK
 exact ⟨ad, A0, c0, e, by have hq := hc 0 _ rfl; rwa [Nat.mul_one, Nat.add_zero] at hq, l0, g0⟩

/-! #### struct type 84 -/
structure S84 where
 f0 : ByteArray
 f1 : (List S87)
 f2 : Int
 f3 : Int
 f4 : Int
def z84 : S84 := ⟨(⟨#[]⟩ : ByteArray), ([] : List S87), (0 : Int), (0 : Int), (0 : Int)⟩
def k84 : Kd S84 := Kd.iso (Kd.pair Kd.string (Kd.pair (Kd.slice 87 k87) (Kd.pair (Kd.int .u32) (Kd.pair (Kd.int .i64) (Kd.int .i64))))) (fun x : S84 => (x.f0, x.f1, x.f2, x.f3, x.f4))
theorem k84_open {w : World} {x : S84} {cs : List Value} (h : k84.K w x cs) : ∃ A1 c1, cs = [.string x.f0, .slice A1 x.f1.length c1, .int .u32 x.f2, .int .i64 x.f3, .int .i64 x.f4] ∧ x.f1.length ≤ c1 ∧ k87.C w A1 x.f1.length x.f1 := by
 obtain ⟨_, _, rfl, rfl, ⟨_, _, rfl, ⟨A1, c1, rfl, l1, g1⟩, ⟨_, _, rfl, rfl, ⟨_, _, rfl, rfl, rfl⟩⟩⟩⟩ := h
 exact ⟨A1, c1, rfl, l1, g1⟩
theorem k84_openM {w : World} {base : Nat} {ok : Nat → Prop} {x : S84} {cs : List Value} (h : k84.M w base ok x cs) : ∃ v1, cs = [.string x.f0, v1, .int .u32 x.f2, .int .i64 x.f3, .int .i64 x.f4] ∧ k87.R 87 w base ok v1 x.f1 := by
 obtain ⟨_, _, rfl, rfl, ⟨_, _, rfl, ⟨v1, rfl, g1⟩, ⟨_, _, rfl, rfl, ⟨_, _, rfl, rfl, rfl⟩⟩⟩⟩ := h
 exact ⟨v1, rfl, g1⟩
theorem k84_mk (w : World) (x : S84) {A1 : Option Addr} {c1 : Nat} (l1 : x.f1.length ≤ c1) (g1 : k87.C w A1 x.f1.length x.f1) : k84.K w x [.string x.f0, .slice A1 x.f1.length c1, .int .u32 x.f2, .int .i64 x.f3, .int .i64 x.f4] := ⟨[.string x.f0], [.slice A1 x.f1.length c1, .int .u32 x.f2, .int .i64 x.f3, .int .i64 x.f4], rfl, rfl, ⟨[.slice A1 x.f1.length c1], [.int .u32 x.f2, .int .i64 x.f3, .int .i64 x.f4], rfl, ⟨A1, c1, rfl, l1, g1⟩, ⟨[.int .u32 x.f2], [.int .i64 x.f3, .int .i64 x.f4], rfl, rfl, ⟨[.int .i64 x.f3], [.int .i64 x.f4], rfl, rfl, rfl⟩⟩⟩⟩
theorem k84_mkM (w : World) (base : Nat) (ok : Nat → Prop) (x : S84) {v1 : Value} (g1 : k87.R 87 w base ok v1 x.f1) : k84.M w base ok x [.string x.f0, v1, .int .u32 x.f2, .int .i64 x.f3, .int .i64 x.f4] := ⟨[.string x.f0], [v1, .int .u32 x.f2, .int .i64 x.f3, .int .i64 x.f4], rfl, rfl, ⟨[v1], [.int .u32 x.f2, .int .i64 x.f3, .int .i64 x.f4], rfl, ⟨v1, rfl, g1⟩, ⟨[.int .u32 x.f2], [.int .i64 x.f3, .int .i64 x.f4], rfl, rfl, ⟨[.int .i64 x.f3], [.int .i64 x.f4], rfl, rfl, rfl⟩⟩⟩⟩
def rd_T84 (xs : List S84) (i : Int) : S84 := xs.getD i.toNat z84
theorem at_T84 {w : World} {A : Option Addr} {n : Nat} {xs : List S84} (h : Kd.C k84 w A n xs) (i : Int) (h0 : 0 ≤ i) (h1 : i < n) : ∃ ad A1 c1, A = some ad ∧ w.cell? (ad.add (i.toNat * 5)) = some (.string (rd_T84 xs i).f0) ∧ w.cell? ⟨(ad.add (i.toNat * 5)).block, (ad.add (i.toNat * 5)).off + 1, none⟩ = some (.slice A1 (rd_T84 xs i).f1.length c1) ∧ w.cell? ⟨(ad.add (i.toNat * 5)).block, (ad.add (i.toNat * 5)).off + 2, none⟩ = some (.int .u32 (rd_T84 xs i).f2) ∧ w.cell? ⟨(ad.add (i.toNat * 5)).block, (ad.add (i.toNat * 5)).off + 3, none⟩ = some (.int .i64 (rd_T84 xs i).f3) ∧ w.cell? ⟨(ad.add (i.toNat * 5)).block, (ad.add (i.toNat * 5)).off + 4, none⟩ = some (.int .i64 (rd_T84 xs i).f4) ∧ (rd_T84 xs i).f1.length ≤ c1 ∧ k87.C w A1 (rd_T84 xs i).f1.length (rd_T84 xs i).f1 := by
 obtain ⟨ad, c, e, _, hK, hc0⟩ := Kd.C_get h z84 i h0 h1
 have hc : ∀ j u, c[j]? = some u → w.cell? (ad.add (i.toNat * 5 + j)) = some u := hc0
 obtain ⟨A1, c1, rfl, l1, g1⟩ := k84_open hK
 exact ⟨ad, A1, c1, e, hc 0 _ rfl, by rw [← add_field _ _ 1 (by omega)]; exact hc 1 _ rfl, by rw [← add_field _ _ 2 (by omega)]; exact hc 2 _ rfl, by rw [← add_field _ _ 3 (by omega)]; exact hc 3 _ rfl, by rw [← add_field _ _ 4 (by omega)]; exact hc 4 _ rfl, l1, g1⟩

def rd_L7 (xs : List (List Int)) (i : Int) : (List Int) := xs.getD i.toNat ([] : List Int)
theorem at_L7 {w : World} {A : Option Addr} {n : Nat} {xs : List (List Int)} (h : Kd.C (Kd.slice 3 (Kd.int .i64)) w A n xs) (i : Int) (h0 : 0 ≤ i) (h1 : i < n) : ∃ ad A0 c0, A = some ad ∧ w.cell? (ad.add i.toNat) = some (.slice A0 (rd_L7 xs i).length c0) ∧ (rd_L7 xs i).length ≤ c0 ∧ (Kd.int .i64).C w A0 (rd_L7 xs i).length (rd_L7 xs i) := by
 obtain ⟨ad, c, e, _, hK, hc0⟩ := Kd.C_get h ([] : List Int) i h0 h1
 have hc : ∀ j u, c[j]? = some u → w.cell? (ad.add (i.toNat * 1 + j)) = some u := hc0
 obtain ⟨A0, c0, rfl, l0, g0⟩ := hK
 exact ⟨ad, A0, c0, e, by have hq := hc 0 _ rfl; rwa [Nat.mul_one, Nat.add_zero] at hq, l0, g0⟩

/-! #### struct type 135 -/
structure S135 where
 f0 : ByteArray
 f1 : Int
 f2 : (List Int)
 f3 : Int
 f4 : Int
 f5 : Int
 f6 : (List Int)
def z135 : S135 := ⟨(⟨#[]⟩ : ByteArray), (0 : Int), ([] : List Int), (0 : Int), (0 : Int), (0 : Int), ([] : List Int)⟩
def k135 : Kd S135 := Kd.iso (Kd.pair Kd.string (Kd.pair (Kd.int .i64) (Kd.pair (Kd.slice 3 (Kd.int .i64)) (Kd.pair (Kd.int .u32) (Kd.pair (Kd.int .i64) (Kd.pair (Kd.int .i64) (Kd.slice 3 (Kd.int .i64)))))))) (fun x : S135 => (x.f0, x.f1, x.f2, x.f3, x.f4, x.f5, x.f6))
theorem k135_open {w : World} {x : S135} {cs : List Value} (h : k135.K w x cs) : ∃ A2 c2 A6 c6, cs = [.string x.f0, .int .i64 x.f1, .slice A2 x.f2.length c2, .int .u32 x.f3, .int .i64 x.f4, .int .i64 x.f5, .slice A6 x.f6.length c6] ∧ x.f2.length ≤ c2 ∧ (Kd.int .i64).C w A2 x.f2.length x.f2 ∧ x.f6.length ≤ c6 ∧ (Kd.int .i64).C w A6 x.f6.length x.f6 := by
 obtain ⟨_, _, rfl, rfl, ⟨_, _, rfl, rfl, ⟨_, _, rfl, ⟨A2, c2, rfl, l2, g2⟩, ⟨_, _, rfl, rfl, ⟨_, _, rfl, rfl, ⟨_, _, rfl, rfl, ⟨A6, c6, rfl, l6, g6⟩⟩⟩⟩⟩⟩⟩ := h
 exact ⟨A2, c2, A6, c6, rfl, l2, g2, l6, g6⟩
theorem k135_openM {w : World} {base : Nat} {ok : Nat → Prop} {x : S135} {cs : List Value} (h : k135.M w base ok x cs) : ∃ v2 v6, cs = [.string x.f0, .int .i64 x.f1, v2, .int .u32 x.f3, .int .i64 x.f4, .int .i64 x.f5, v6] ∧ (Kd.int .i64).R 3 w base ok v2 x.f2 ∧ (Kd.int .i64).R 3 w base ok v6 x.f6 := by
 obtain ⟨_, _, rfl, rfl, ⟨_, _, rfl, rfl, ⟨_, _, rfl, ⟨v2, rfl, g2⟩, ⟨_, _, rfl, rfl, ⟨_, _, rfl, rfl, ⟨_, _, rfl, rfl, ⟨v6, rfl, g6⟩⟩⟩⟩⟩⟩⟩ := h
 exact ⟨v2, v6, rfl, g2, g6⟩
theorem k135_mk (w : World) (x : S135) {A2 : Option Addr} {c2 : Nat} (l2 : x.f2.length ≤ c2) (g2 : (Kd.int .i64).C w A2 x.f2.length x.f2) {A6 : Option Addr} {c6 : Nat} (l6 : x.f6.length ≤ c6) (g6 : (Kd.int .i64).C w A6 x.f6.length x.f6) : k135.K w x [.string x.f0, .int .i64 x.f1, .slice A2 x.f2.length c2, .int .u32 x.f3, .int .i64 x.f4, .int .i64 x.f5, .slice A6 x.f6.length c6] := ⟨[.string x.f0], [.int .i64 x.f1, .slice A2 x.f2.length c2, .int .u32 x.f3, .int .i64 x.f4, .int .i64 x.f5, .slice A6 x.f6.length c6], rfl, rfl, ⟨[.int .i64 x.f1], [.slice A2 x.f2.length c2, .int .u32 x.f3, .int .i64 x.f4, .int .i64 x.f5, .slice A6 x.f6.length c6], rfl, rfl, ⟨[.slice A2 x.f2.length c2], [.int .u32 x.f3, .int .i64 x.f4, .int .i64 x.f5, .slice A6 x.f6.length c6], rfl, ⟨A2, c2, rfl, l2, g2⟩, ⟨[.int .u32 x.f3], [.int .i64 x.f4, .int .i64 x.f5, .slice A6 x.f6.length c6], rfl, rfl, ⟨[.int .i64 x.f4], [.int .i64 x.f5, .slice A6 x.f6.length c6], rfl, rfl, ⟨[.int .i64 x.f5], [.slice A6 x.f6.length c6], rfl, rfl, ⟨A6, c6, rfl, l6, g6⟩⟩⟩⟩⟩⟩⟩
theorem k135_mkM (w : World) (base : Nat) (ok : Nat → Prop) (x : S135) {v2 : Value} (g2 : (Kd.int .i64).R 3 w base ok v2 x.f2) {v6 : Value} (g6 : (Kd.int .i64).R 3 w base ok v6 x.f6) : k135.M w base ok x [.string x.f0, .int .i64 x.f1, v2, .int .u32 x.f3, .int .i64 x.f4, .int .i64 x.f5, v6] := ⟨[.string x.f0], [.int .i64 x.f1, v2, .int .u32 x.f3, .int .i64 x.f4, .int .i64 x.f5, v6], rfl, rfl, ⟨[.int .i64 x.f1], [v2, .int .u32 x.f3, .int .i64 x.f4, .int .i64 x.f5, v6], rfl, rfl, ⟨[v2], [.int .u32 x.f3, .int .i64 x.f4, .int .i64 x.f5, v6], rfl, ⟨v2, rfl, g2⟩, ⟨[.int .u32 x.f3], [.int .i64 x.f4, .int .i64 x.f5, v6], rfl, rfl, ⟨[.int .i64 x.f4], [.int .i64 x.f5, v6], rfl, rfl, ⟨[.int .i64 x.f5], [v6], rfl, rfl, ⟨v6, rfl, g6⟩⟩⟩⟩⟩⟩⟩
def rd_T135 (xs : List S135) (i : Int) : S135 := xs.getD i.toNat z135
theorem at_T135 {w : World} {A : Option Addr} {n : Nat} {xs : List S135} (h : Kd.C k135 w A n xs) (i : Int) (h0 : 0 ≤ i) (h1 : i < n) : ∃ ad A2 c2 A6 c6, A = some ad ∧ w.cell? (ad.add (i.toNat * 7)) = some (.string (rd_T135 xs i).f0) ∧ w.cell? ⟨(ad.add (i.toNat * 7)).block, (ad.add (i.toNat * 7)).off + 1, none⟩ = some (.int .i64 (rd_T135 xs i).f1) ∧ w.cell? ⟨(ad.add (i.toNat * 7)).block, (ad.add (i.toNat * 7)).off + 2, none⟩ = some (.slice A2 (rd_T135 xs i).f2.length c2) ∧ w.cell? ⟨(ad.add (i.toNat * 7)).block, (ad.add (i.toNat * 7)).off + 3, none⟩ = some (.int .u32 (rd_T135 xs i).f3) ∧ w.cell? ⟨(ad.add (i.toNat * 7)).block, (ad.add (i.toNat * 7)).off + 4, none⟩ = some (.int .i64 (rd_T135 xs i).f4) ∧ w.cell? ⟨(ad.add (i.toNat * 7)).block, (ad.add (i.toNat * 7)).off + 5, none⟩ = some (.int .i64 (rd_T135 xs i).f5) ∧ w.cell? ⟨(ad.add (i.toNat * 7)).block, (ad.add (i.toNat * 7)).off + 6, none⟩ = some (.slice A6 (rd_T135 xs i).f6.length c6) ∧ (rd_T135 xs i).f2.length ≤ c2 ∧ (Kd.int .i64).C w A2 (rd_T135 xs i).f2.length (rd_T135 xs i).f2 ∧ (rd_T135 xs i).f6.length ≤ c6 ∧ (Kd.int .i64).C w A6 (rd_T135 xs i).f6.length (rd_T135 xs i).f6 := by
 obtain ⟨ad, c, e, _, hK, hc0⟩ := Kd.C_get h z135 i h0 h1
 have hc : ∀ j u, c[j]? = some u → w.cell? (ad.add (i.toNat * 7 + j)) = some u := hc0
 obtain ⟨A2, c2, A6, c6, rfl, l2, g2, l6, g6⟩ := k135_open hK
 exact ⟨ad, A2, c2, A6, c6, e, hc 0 _ rfl, by rw [← add_field _ _ 1 (by omega)]; exact hc 1 _ rfl, by rw [← add_field _ _ 2 (by omega)]; exact hc 2 _ rfl, by rw [← add_field _ _ 3 (by omega)]; exact hc 3 _ rfl, by rw [← add_field _ _ 4 (by omega)]; exact hc 4 _ rfl, by rw [← add_field _ _ 5 (by omega)]; exact hc 5 _ rfl, by rw [← add_field _ _ 6 (by omega)]; exact hc 6 _ rfl, l2, g2, l6, g6⟩

end Go.Proofs.Ytpfegfkniilobaa.XSchema
