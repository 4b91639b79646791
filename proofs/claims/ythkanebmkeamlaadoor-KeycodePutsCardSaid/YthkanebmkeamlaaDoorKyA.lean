/- A strings.Builder of the call's own: what its writes do. Conditions: its bytes have room. -/
import Derived.Test.YthkanebmkeamlaaDoorShelf
import Derived.Test.YthkanebmkeamlaaDoorXKeyx0
import Derived.Lib.Builder
import Derived.Lib.AppendStr
import Derived.Lib.UnsafeStr
import Derived.Laws.Externs
import Derived.WalkKit
namespace Go.Proofs.YthkanebmkeamlaaDoor.Ky
open Go.RowKit Go.Proofs.YthkanebmkeamlaaDoorW.PrintWords Go.Proofs.YthkanebmkeamlaaDoorW.PrintLast Go.Proofs.YthkanebmkeamlaaDoorW.PrintMore Go.Proofs.YthkanebmkeamlaaDoor.XKey
set_option linter.unusedVariables false
set_option linter.unusedSimpArgs false
set_option maxRecDepth 100000
theorem info48 : (Tryd.prog.info? 48).map (·.size) = some 2 := by kernel_rfl
theorem lies48 : liesAt Tryd.prog Tryd.prog.depth 48 (2 / Tryd.prog.cellsOf 48) 0 48 1 = true := by kernel_rfl
theorem check_used (b : Nat) (w : World) (h0 : w.cell? ⟨b, 0, none⟩ = some (.pointer (some ⟨b, 0, none⟩))) :
    Calls Tryd.prog 31 #[.pointer (some ⟨b, 0, none⟩)] w fun e w' => e = .returned (.tuple #[]) ∧ w' = w := by
  obtain ⟨j, hj, _⟩ := Option.map_eq_some_iff.1 info48
  go_enter Tryd.func31, Tryd.ntmps31
  go_wp2
  rw [Lib.run_neq_ptr_same w _ Tryd.underlying46 hj]
  go_wp2
  go_end0
  exact ⟨rfl, rfl⟩
theorem check_fresh (b : Nat) (w : World) (h0 : w.cell? ⟨b, 0, none⟩ = some (.pointer none)) (hsh : w.shape? b = some (48, 2)) (hfz : w.frozen? ⟨b, 0, none⟩ = false) :
    Calls Tryd.prog 31 #[.pointer (some ⟨b, 0, none⟩)] w fun e w' => e = .returned (.tuple #[]) ∧ w' = w.setCell ⟨b, 0, none⟩ (.pointer (some ⟨b, 0, none⟩)) := by
  obtain ⟨j, hj, hjs⟩ := Option.map_eq_some_iff.1 info48
  go_enter Tryd.func31, Tryd.ntmps31
  go_wp2
  rw [Lib.run_to_unsafe w ⟨b, 0, none⟩ Tryd.underlying46 Tryd.underlying69 hj (by rw [hjs]; decide) hsh (Nat.zero_lt_succ 1)]
  simp only [Result.andThen]
  rw [Oper.upon_value]
  go_wp2
  rw [run_callFunc_extern Tryd.func35 (by kernel_rfl) (by kernel_rfl) (by kernel_rfl) (e := Extern.AbiNoEscape.same) (by kernel_rfl)]
  rw [Lib.run_noEscape]
  simp only [Result.andThen]
  rw [Oper.upon_value]
  go_wp2
  rw [Lib.run_from_unsafe w ⟨b, 0, none⟩ Tryd.underlying69 Tryd.underlying46 hj hsh lies48]
  simp only [Result.andThen]
  rw [Oper.upon_value]
  go_wp2
  go_end0
  exact ⟨rfl, rfl⟩
theorem check_ok (B b : Nat) (bs : List Value) (w : World) (h : Lib.IsBuilder 48 5 B b bs w) :
    Calls Tryd.prog 31 #[.pointer (some ⟨b, 0, none⟩)] w fun e w' => e = .returned (.tuple #[]) ∧ Lib.BuilderAt 48 5 B b (.pointer (some ⟨b, 0, none⟩)) bs w' ∧ Below B w w' := by
  rcases h with h | h
  · refine (check_fresh b w h.cell0 h.shape h.frozen0).mono ?_
    rintro e w' ⟨rfl, rfl⟩
    exact ⟨rfl, h.used _, (Below.refl B w).setCell (p := ⟨b, 0, none⟩) h.1 _⟩
  · refine (check_used b w h.cell0).mono ?_
    rintro e w' ⟨rfl, rfl⟩
    exact ⟨rfl, h, Below.refl B _⟩
theorem list_run {P : Program} {ops : Array Oper} {rest : List Oper} {o : Oper} {a : Act} {Q : Exit → Act → World → Prop} {w w1 : World} {v v0 x0 : Value} (hgd : o.guard = none) (s x : Operand) (t u : TypeId) (ho : o.op = .call { callee := .builtin .append, args := #[s, x], argTypes := #[t, u] }) (hs : a.eval s = v0) (hx : a.eval x = x0) (hr : (Builtin.append_ #[t, u] o.type #[v0, x0]).run P w = .ok v w1) (h : wpList P ops Q rest (a.put o.dst v) w1) : wpList P ops Q (o :: rest) a w := by
  refine wpList_plain hgd fun K hK => ?_
  unfold Oper.wp execOp
  simp only [ho, resolve, invoke, builtin, Sem.run_bind, Sem.run_pure, Result.andThen_ok, List.map_toArray, List.map_cons, List.map_nil, hs, hx, hr]
  exact hK _ _ h
theorem own_sl {w : World} {B e : Nat} {v : Value} {n : Nat} {xs : List Value} (h : w.ownsRow B e 1 v n xs) : ∃ A c, v = .slice A n c := by
  rcases h.2 with ⟨hv, h0⟩ | ⟨g, cap, cur, hv, _⟩
  · exact ⟨none, 0, by rw [hv, h0]⟩
  · exact ⟨_, _, hv⟩
theorem cells_app (l m : List UInt8) : Lib.byteCells (l ++ m) = Lib.byteCells l ++ Lib.byteCells m := by simp [Lib.byteCells]
theorem strCells_eq (y : ByteArray) : Lib.strCells y = Lib.byteCells y.data.toList := rfl
set_option maxHeartbeats 2000000 in
theorem wstr_ok (B b : Nat) (l : List UInt8) (y : ByteArray) (w : World) (h : Lib.IsBuilder 48 5 B b (Lib.byteCells l) w) (hlen : l.length + y.size ≤ 1000000000) (hBw : B ≤ w.heap.size) :
    Calls Tryd.prog 24 #[.pointer (some ⟨b, 0, none⟩), .string y] w fun e w' => e = .returned (.tuple #[.int .i64 y.size, .nilIface]) ∧ Lib.IsBuilder 48 5 B b (Lib.byteCells (l ++ y.data.toList)) w' ∧ Below B w w' := by
  obtain ⟨i0, hi, hz0, hz1, hz2⟩ := info_parts info5
  have HL := Aside0.mk (And.intro hlen hBw)
  clear hlen hBw
  go_enter Tryd.func24, Tryd.ntmps24
  go_wp2_with (go_at_call 31; refine (check_ok B b _ _ h).mono ?_)
  rintro e w1 ⟨rfl, h1, hb1⟩
  obtain ⟨hB, v, hbk, hown, hne⟩ := h1
  have c1 : w1.cell? ⟨b, 1, none⟩ = some v := by rw [Lib.cell_of_heap hbk]; rfl
  obtain ⟨v', w2, hrun, hown', hgrow, _⟩ := run_append_own_string_at (P := Tryd.prog) w1 B 31 9 31 5 i0 Tryd.underlying31 Tryd.underlying9 hi hz0 hz1 hz2 v _ _ hown y (by simp only [maxLen, Lib.byteCells_length]; have := HL.out.1; omega) (by rw [Lib.byteCells_length]; have := HL.out.1; omega) (by have := hb1.size; have := HL.out.2; omega)
  have hb2 : w2.heap[b]? = some (.cells #[.pointer (some ⟨b, 0, none⟩), v] 48 (0, 0)) := by
    rw [hgrow.block b (blk_lt hbk) (fun e => hne e.symm)]
    exact hbk
  have d1 : w2.cell? ⟨b, 1, none⟩ = some v := by rw [Lib.cell_of_heap hb2]; rfl
  have f1 : w2.frozen? ⟨b, 1, none⟩ = false := Lib.frozen_of_heap hb2 1
  have HO := Aside0.mk hown'
  have HX := Aside0.mk hb2
  have HG := Aside0.mk (hb1.grown hgrow (Nat.le_trans HL.out.2 hb1.size) (fun k hk => (hown.lt k hk).1))
  have HB := Aside0.mk hB
  obtain ⟨A', c', rfl⟩ := own_sl hown'
  have HR := Aside0.mk hrun
  clear hown' hb2 hgrow hown hne hbk hb1 hrun
  go_wp2_with ((with_reducible refine gate_builtin (b := .append) (xs := #[.tmp 12, .tmp 13]) rfl ?_); refine list_run rfl (.tmp 12) (.tmp 13) 31 9 rfl rfl rfl HR.out ?_)
  go_ret2
  refine ⟨rfl, Or.inr (Lib.BuilderAt.put (T := 48) (e := 5) HB.out HX.out ?_ (by decide)), HG.out.setCell (p := ⟨b, 1, none⟩) HB.out _⟩
  have := HO.out
  rw [strCells_eq, ← cells_app] at this
  have e1 : (Lib.byteCells (l ++ y.data.toList)).length = l.length + y.size := by rw [Lib.byteCells_length, List.length_append]; rfl
  rw [e1]
  simp only [Lib.byteCells_length] at this ⊢
  exact this
set_option maxHeartbeats 2000000 in
theorem wbyte_ok (B b : Nat) (l : List UInt8) (c : UInt8) (w : World) (h : Lib.IsBuilder 48 5 B b (Lib.byteCells l) w) (hlen : l.length ≤ 1000000000) (hBw : B ≤ w.heap.size) :
    Calls Tryd.prog 40 #[.pointer (some ⟨b, 0, none⟩), .int .u8 c.toNat] w fun e w' => e = .returned .nilIface ∧ Lib.IsBuilder 48 5 B b (Lib.byteCells (l ++ [c])) w' ∧ Below B w w' := by
  obtain ⟨i0, hi, hz0, hz1, hz2⟩ := info_parts info5
  have HL := Aside0.mk (And.intro hlen hBw)
  clear hlen hBw
  go_enter Tryd.func40, Tryd.ntmps40
  go_wp2_with (go_at_call 31; refine (check_ok B b _ _ h).mono ?_)
  rintro e w1 ⟨rfl, h1, hb1⟩
  obtain ⟨hB, v, hbk, hown, hne⟩ := h1
  have c1 : w1.cell? ⟨b, 1, none⟩ = some v := by rw [Lib.cell_of_heap hbk]; rfl
  go_wp2_with (at_builtin; refine wpList_append_own _ rfl _ _ 31 rfl B 5 i0 (.int .u8 0) 1 1 Tryd.underlying31 hi hz0 hz1 hz2 rfl (by decide) _ _ _ rfl (hown.alloc _) ⟨w1.heap.size, 0, none⟩ 1 1 [.int .u8 c.toNat] rfl rfl ?c1 ?c2 ?c3 ?c4 ?c5 ?_)
  case c1 =>
    intro j u hj
    match j, hj with
    | 0, hj => simp at hj; subst hj; simp [Addr.add]
  case c2 => intro u hu; simp at hu; subst hu; rfl
  case c3 => simp only [maxLen, Lib.byteCells_length]; have := HL.out.1; omega
  case c4 => rw [Lib.byteCells_length]; have := HL.out.1; omega
  case c5 => have := hb1.size; have := HL.out.2; simp; omega
  intro v' w2 hown' hgrow _
  obtain ⟨A', c', rfl⟩ := own_sl hown'
  have hlt : b < w1.heap.size := blk_lt hbk
  have hb2 : w2.heap[b]? = some (.cells #[.pointer (some ⟨b, 0, none⟩), v] 48 (0, 0)) := by
    rw [hgrow.block b (by simp; omega) (fun e => hne e.symm), Lib.alloc_old w1 _ b hlt]
    exact hbk
  have d1 : w2.cell? ⟨b, 1, none⟩ = some v := by rw [Lib.cell_of_heap hb2]; rfl
  have f1 : w2.frozen? ⟨b, 1, none⟩ = false := Lib.frozen_of_heap hb2 1
  have HO := Aside0.mk hown'
  have HX := Aside0.mk hb2
  have HG := Aside0.mk ((hb1.alloc (Nat.le_trans HL.out.2 hb1.size) _).grown hgrow (by have := hb1.size; have := HL.out.2; simp; omega) (fun k hk => (hown.lt k hk).1))
  have HB := Aside0.mk hB
  clear hown' hb2 hgrow hown hne hbk hb1
  go_wp2
  go_ret
  refine ⟨rfl, Or.inr (Lib.BuilderAt.put (T := 48) (e := 5) HB.out HX.out ?_ (by decide)), HG.out.setCell (p := ⟨b, 1, none⟩) HB.out _⟩
  have h2 := HO.out
  have e1 : (Lib.byteCells (l ++ [c])).length = l.length + 1 := by rw [Lib.byteCells_length, List.length_append]; rfl
  rw [e1, cells_app]
  simp only [Lib.byteCells_length] at h2 ⊢
  exact h2
end Go.Proofs.YthkanebmkeamlaaDoor.Ky
