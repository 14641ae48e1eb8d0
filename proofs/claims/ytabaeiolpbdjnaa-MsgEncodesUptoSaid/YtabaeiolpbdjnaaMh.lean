/- Two messages' plain fields, compared at once. -/
import Derived.Test.YtabaeiolpbdjnaaMg
import Derived.ChangeKeysEq
namespace Go.Proofs.Ytabaeiolpbdjnaa
open Go.RowKit
set_option maxRecDepth 100000

section
variable {P : Program} {w : World}
theorem run_eqIface {t u : TypeId} {ms : Array (String × TypeId)} (d : Nat) (x y : Value) (h : P.underlying t = some (.interface ms)) (hc : (P.info? u).map (·.comparable) = some true) :
    (Op.equalIn (d + 1) t (.iface u x) (.iface u y)).run P w = (Op.equalIn d u x y).run P w := by
  cases hq : P.info? u with
  | none => simp [hq] at hc
  | some i =>
    simp only [hq, Option.map_some, Option.some.injEq] at hc
    conv => lhs; rw [Op.equalIn]
    simp [run_underlying h, typeInfo, hq, hc]
theorem run_eqNil {t : TypeId} {ms : Array (String × TypeId)} (d : Nat) (h : P.underlying t = some (.interface ms)) : (Op.equalIn (d + 1) t .nilIface .nilIface).run P w = .ok true w := by
  rw [Op.equalIn]
  simp [run_underlying h]
theorem run_eqItems (d : Nat) (e : TypeId) (c : Nat) (xs ys : Array Value) (E : Nat → Bool) : ∀ (is : List Nat), (∀ i ∈ is, ∃ a b, (part e xs (i * c)).run P w = .ok a w ∧ (part e ys (i * c)).run P w = .ok b w ∧ (Op.equalIn d e a b).run P w = .ok (E i) w) →
    (Op.eqItems d e c xs ys is).run P w = .ok (is.all E) w
  | [], _ => by simp [Op.eqItems]
  | i :: is, h => by
    obtain ⟨a, b, h1, h2, h3⟩ := h i (by simp)
    have ih := run_eqItems d e c xs ys E is fun j hj => h j (by simp [hj])
    simp only [Op.eqItems, Sem.run_bind, h1, h2, h3, Result.andThen_ok]
    cases hE : E i
    · simp [hE]
    · simp [hE, ih]
end
theorem part20 (w : World) (xs : Array Value) (i : Nat) (v : Value) (h : xs[i]? = some v) : (part 20 xs i).run Try.prog w = .ok v w := by
  have : (isAgg 20).run Try.prog w = .ok false w := by kernel_rfl
  simp [part, this, h]
theorem part66 (w : World) (xs : Array Value) (i : Nat) : (part 66 xs i).run Try.prog w = .ok (.agg (xs.extract i (i + 6))) w := by
  have h1 : (isAgg 66).run Try.prog w = .ok true w := by kernel_rfl
  simp [part, h1]
theorem six (d : Nat) (w : World) (x0 x1 x2 x3 x4 x5 y0 y1 y2 y3 y4 y5 : Value) (e0 e1 e2 e3 e4 e5 : Bool) (h0 : (Op.equalIn d 20 x0 y0).run Try.prog w = .ok e0 w) (h1 : (Op.equalIn d 20 x1 y1).run Try.prog w = .ok e1 w)
    (h2 : (Op.equalIn d 20 x2 y2).run Try.prog w = .ok e2 w) (h3 : (Op.equalIn d 20 x3 y3).run Try.prog w = .ok e3 w) (h4 : (Op.equalIn d 20 x4 y4).run Try.prog w = .ok e4 w) (h5 : (Op.equalIn d 20 x5 y5).run Try.prog w = .ok e5 w) :
    (Op.equalIn (d + 1) 66 (.agg #[x0, x1, x2, x3, x4, x5]) (.agg #[y0, y1, y2, y3, y4, y5])).run Try.prog w = .ok (e0 && e1 && e2 && e3 && e4 && e5) w := by
  have hsome : (Try.prog.info? 20).isSome = true := by kernel_rfl
  obtain ⟨i, hq⟩ := Option.isSome_iff_exists.1 hsome
  · rw [run_equalIn_array w d _ _ Try.underlying66 hq, show Try.prog.cellsOf 20 = 1 from by kernel_rfl]
    rw [run_eqItems d _ _ _ _ (fun i => [e0, e1, e2, e3, e4, e5].getD i true)]
    · simp [List.range_succ, Bool.and_assoc]
    · intro j hj
      simp only [List.mem_range] at hj
      obtain rfl | rfl | rfl | rfl | rfl | rfl : j = 0 ∨ j = 1 ∨ j = 2 ∨ j = 3 ∨ j = 4 ∨ j = 5 := by omega
      · exact ⟨x0, y0, part20 _ _ _ _ rfl, part20 _ _ _ _ rfl, h0⟩
      · exact ⟨x1, y1, part20 _ _ _ _ rfl, part20 _ _ _ _ rfl, h1⟩
      · exact ⟨x2, y2, part20 _ _ _ _ rfl, part20 _ _ _ _ rfl, h2⟩
      · exact ⟨x3, y3, part20 _ _ _ _ rfl, part20 _ _ _ _ rfl, h3⟩
      · exact ⟨x4, y4, part20 _ _ _ _ rfl, part20 _ _ _ _ rfl, h4⟩
      · exact ⟨x5, y5, part20 _ _ _ _ rfl, part20 _ _ _ _ rfl, h5⟩
/-- The fields that are compared at once are alike. -/
def headB (a b : Msg) : Bool :=
  (a.id == b.id && a.kind == b.kind && a.name.toList == b.name.toList && a.pw.toList == b.pw.toList && a.ver == b.ver && a.scope == b.scope) &&
  ((a.deref == b.deref && a.size == b.size && a.time == b.time && a.tonly == b.tonly && a.nrdn.toList == b.nrdn.toList && a.dold == b.dold) &&
  ((a.hsup == b.hsup && a.sup.toList == b.sup.toList && a.attr.toList == b.attr.toList && a.value.toList == b.value.toList && a.target == b.target && a.code == b.code) &&
  (a.matched.toList == b.matched.toList && a.text.toList == b.text.toList)))
theorem eqI (d : Nat) (w : World) (a b : Int) : (Op.equalIn (d + 2) 20 (.iface 2 (.int .i64 a)) (.iface 2 (.int .i64 b))).run Try.prog w = .ok (a == b) w := by
  rw [run_eqIface (d + 1) _ _ Try.underlying20 (by kernel_rfl), run_equalIn_int w d _ _ _ _ _ Try.underlying2]
theorem eqS (d : Nat) (w : World) (a b : ByteArray) : (Op.equalIn (d + 2) 20 (.iface 9 (.string a)) (.iface 9 (.string b))).run Try.prog w = .ok (a.toList == b.toList) w := by
  rw [run_eqIface (d + 1) _ _ Try.underlying20 (by kernel_rfl), run_equalIn_string w d _ _ _ Try.underlying9]
theorem eqB (d : Nat) (w : World) (a b : Bool) : (Op.equalIn (d + 2) 20 (.iface 4 (.bool a)) (.iface 4 (.bool b))).run Try.prog w = .ok (a == b) w := by
  rw [run_eqIface (d + 1) _ _ Try.underlying20 (by kernel_rfl), run_equalIn_bool' w d _ _ _ Try.underlying4]
theorem eqN (d : Nat) (w : World) : (Op.equalIn (d + 2) 20 .nilIface .nilIface).run Try.prog w = .ok true w := run_eqNil (d + 1) Try.underlying20
theorem plain_eql (a b : Msg) (w : World) : (binOp .eql 67 (.agg (plainCells a).toArray) (.agg (plainCells b).toArray)).run Try.prog w = .ok (.bool (headB a b)) w := by
  rw [run_eql_struct]
  have hsome : (Try.prog.info? 66).isSome = true := by kernel_rfl
  obtain ⟨i, hq⟩ := Option.isSome_iff_exists.1 hsome
  rw [run_equalIn_array w 9999 _ _ Try.underlying67 hq, show Try.prog.cellsOf 66 = 6 from by kernel_rfl]
  have r0 := six 9998 w _ _ _ _ _ _ _ _ _ _ _ _ _ _ _ _ _ _ (eqI 9996 w a.id b.id) (eqI 9996 w a.kind b.kind) (eqS 9996 w a.name b.name) (eqS 9996 w a.pw b.pw) (eqI 9996 w a.ver b.ver) (eqI 9996 w a.scope b.scope)
  have r1 := six 9998 w _ _ _ _ _ _ _ _ _ _ _ _ _ _ _ _ _ _ (eqI 9996 w a.deref b.deref) (eqI 9996 w a.size b.size) (eqI 9996 w a.time b.time) (eqB 9996 w a.tonly b.tonly) (eqS 9996 w a.nrdn b.nrdn) (eqB 9996 w a.dold b.dold)
  have r2 := six 9998 w _ _ _ _ _ _ _ _ _ _ _ _ _ _ _ _ _ _ (eqB 9996 w a.hsup b.hsup) (eqS 9996 w a.sup b.sup) (eqS 9996 w a.attr b.attr) (eqS 9996 w a.value b.value) (eqI 9996 w a.target b.target) (eqI 9996 w a.code b.code)
  have r3 := six 9998 w _ _ _ _ _ _ _ _ _ _ _ _ _ _ _ _ _ _ (eqS 9996 w a.matched b.matched) (eqS 9996 w a.text b.text) (eqN 9996 w) (eqN 9996 w) (eqN 9996 w) (eqN 9996 w)
  rw [run_eqItems 9999 _ _ _ _ (fun i => [a.id == b.id && a.kind == b.kind && a.name.toList == b.name.toList && a.pw.toList == b.pw.toList && a.ver == b.ver && a.scope == b.scope,
    a.deref == b.deref && a.size == b.size && a.time == b.time && a.tonly == b.tonly && a.nrdn.toList == b.nrdn.toList && a.dold == b.dold,
    a.hsup == b.hsup && a.sup.toList == b.sup.toList && a.attr.toList == b.attr.toList && a.value.toList == b.value.toList && a.target == b.target && a.code == b.code,
    a.matched.toList == b.matched.toList && a.text.toList == b.text.toList && true && true && true && true].getD i true)]
  · simp only [List.range_succ, List.range_zero, List.nil_append, List.cons_append, List.all_cons, List.all_nil, List.getD_cons_zero, List.getD_cons_succ, Bool.and_true, Result.andThen_ok]
    rfl
  · intro j hj
    simp only [List.mem_range] at hj
    obtain rfl | rfl | rfl | rfl : j = 0 ∨ j = 1 ∨ j = 2 ∨ j = 3 := by omega
    · exact ⟨_, _, part66 _ _ _, part66 _ _ _, r0⟩
    · exact ⟨_, _, part66 _ _ _, part66 _ _ _, r1⟩
    · exact ⟨_, _, part66 _ _ _, part66 _ _ _, r2⟩
    · exact ⟨_, _, part66 _ _ _, part66 _ _ _, r3⟩
end Go.Proofs.Ytabaeiolpbdjnaa
