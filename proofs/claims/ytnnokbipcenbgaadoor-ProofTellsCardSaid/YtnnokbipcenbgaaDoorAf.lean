/- An append to a row that is full, whoever owns it: a new row of the call's own. -/
import Derived.Test.YtnnokbipcenbgaaDoorBuf
set_option linter.unusedVariables false
set_option linter.unusedSimpArgs false
set_option linter.unnecessarySimpa false
namespace Go.Proofs.YtnnokbipcenbgaaDoor
open Go.RowKit

theorem wpList_appFull {P : Program} {w : World} {ops : Array Oper} {rest : List Oper} {o : Oper} {a : Act} {Q : Exit → Act → World → Prop} {ok : Nat → Prop} (s x : Operand) (t e : TypeId) (i : TypeInfo) (z : Value) (bytes : Nat) (hgd : o.guard = none)
    (ho : o.op = .call { callee := .builtin .append, args := #[s, x], argTypes := #[t, t] }) (ht : P.underlying t = some (.slice e)) (hi : P.info? e = some i) (hz : i.zero = some z) (hsize : i.size = 1) (hby : i.bytes = bytes) (hzs : z.cells.size = 1) (hb0 : 0 < bytes)
    (b : Addr) (n : Nat) (xs : List Value) (hs : a.eval s = .slice (some b) n n) (hxs : xs.length = n) (holds : ∀ j u, xs[j]? = some u → w.cell? (b.add j) = some u)
    (A : Option Addr) (m c : Nat) (ys : List Value) (hx : a.eval x = .slice A m c) (hm : ys.length = m) (hm0 : 0 < m) (hR : RdC ok w A ys) (hl : (n + m) * bytes ≤ 140737488355328)
    (h : ∀ v' w', w'.ownsRow w.heap.size e 1 v' (n + m) (xs ++ ys) → Below w.heap.size w w' → wpList P ops Q rest (a.put o.dst v') w') : wpList P ops Q (o :: rest) a w := by
  have hn : n + m ≤ 140737488355328 := Nat.le_trans (Nat.le_mul_of_pos_right _ hb0) hl
  obtain ⟨ad, rfl, _, hc⟩ := hR (by intro e; rw [e] at hm; simp at hm; omega)
  have hr := run_append_grow (P := P) w t o.type e i z ht hi hz b n n xs (by rw [hsize]; omega) holds ad m c ys (by rw [hsize]; omega) hc (by omega) (by omega) (growslice_fits (by omega) (by rw [hby]; exact hl))
  have hcm := grownCap_le_maxLen w (n + m) n e (by unfold maxLen; omega)
  have hcg := grownCap_ge w (n + m) n e
  refine wpList_plain hgd fun K hK => ?_
  unfold Oper.wp execOp
  simp only [ho, resolve, invoke, builtin, Sem.run_bind, Sem.run_pure, Result.andThen_ok, List.map_toArray, List.map_cons, List.map_nil, hs, hx, hr]
  refine hK _ _ (h _ _ ?_ ?_)
  · refine ⟨by simp [hxs, hm], .inr ⟨w.heap.size, _, _, rfl, Nat.le_refl _, heap_alloc_new w.drew _, hcg, hcm, ?_, ?_⟩⟩
    · simp only [Array.size_append, List.size_toArray, hxs, hm, size_zeroCells, hzs]
      omega
    · rw [Array.toList_append, Array.toList_append, List.toList_toArray, List.toList_toArray, List.take_append_of_le_length (by simp [hxs, hm]), List.take_of_length_le (by simp [hxs, hm])]
  · exact ((Below.refl _ _).drew).alloc (Nat.le_refl _) _
end Go.Proofs.YtnnokbipcenbgaaDoor
