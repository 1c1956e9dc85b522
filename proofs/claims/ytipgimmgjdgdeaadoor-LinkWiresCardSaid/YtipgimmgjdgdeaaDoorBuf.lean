/- A row of bytes (elements of one cell) of the call's own that grows at its end and is cut at its beginning: s = append(s, b...), s = s[64:]. Plain theorems over any program. -/
import Derived.Test.YtipgimmgjdgdeaaDoorBase
import Derived.Deep.AppendSrc
set_option linter.unusedVariables false
set_option linter.unusedSimpArgs false
set_option linter.unnecessarySimpa false
namespace Go.Proofs.YtipgimmgjdgdeaaDoor
open Go.RowKit

/-- The value v is a row of the call's own, maybe cut at its beginning; it holds xs. -/
def OwnAt (w : World) (base : Nat) (e : TypeId) (v : Value) (xs : List Value) : Prop :=
  (v = .slice none 0 0 ∧ xs = []) ∨
  ∃ g off cap cur, v = .slice (some ⟨g, off, none⟩) xs.length cap ∧ base ≤ g ∧ w.heap[g]? = some (.cells cur e (0, 0)) ∧ xs.length ≤ cap ∧ off + cap ≤ cur.size ∧ cap ≤ maxLen ∧ (cur.toList.drop off).take xs.length = xs

section
variable {P : Program} (w : World)

theorem OwnAt.lt {w : World} {base : Nat} {e : TypeId} {v : Value} {xs : List Value} (h : OwnAt w base e v xs) : ∀ k, v.ownBlock = some k → base ≤ k ∧ k < w.heap.size := by
  rcases h with ⟨rfl, _⟩ | ⟨g, off, cap, cur, rfl, hb, hg, _⟩
  · intro k hk; cases hk
  · intro k hk
    injection hk with hk
    subst hk
    exact ⟨hb, (Array.getElem?_eq_some_iff.1 hg).1⟩
theorem OwnAt.grown {w w' : World} {base : Nat} {e : TypeId} {v : Value} {xs : List Value} {row : Option Nat} (h : OwnAt w base e v xs) (hg : w.grownBy w' row) (hne : v.ownBlock = none ∨ v.ownBlock ≠ row) : OwnAt w' base e v xs := by
  rcases h with h | ⟨g, off, cap, cur, rfl, hb, hgc, h3⟩
  · exact .inl h
  · refine .inr ⟨g, off, cap, cur, rfl, hb, ?_, h3⟩
    rw [hg.block g (Array.getElem?_eq_some_iff.1 hgc).1 (by rcases hne with h | h; cases h; exact h)]
    exact hgc
theorem OwnAt.below {w w' : World} {base : Nat} {e : TypeId} {v : Value} {xs : List Value} (h : OwnAt w base e v xs) (hb : Below w.heap.size w w') : OwnAt w' base e v xs :=
  h.grown (grown_of_below hb none) (by cases v.ownBlock <;> simp)
theorem OwnAt.slice {w : World} {base : Nat} {e : TypeId} {v : Value} {xs : List Value} (h : OwnAt w base e v xs) : ∃ A c, v = .slice A xs.length c ∧ xs.length ≤ c ∧ c ≤ maxLen := by
  rcases h with ⟨rfl, rfl⟩ | ⟨g, off, cap, cur, rfl, _, _, h1, _, h2, _⟩
  · exact ⟨none, 0, rfl, Nat.le_refl _, by unfold maxLen; omega⟩
  · exact ⟨_, _, rfl, h1, h2⟩
theorem OwnAt.reads {w : World} {base : Nat} {e : TypeId} {A : Option Addr} {n c : Nat} {xs : List Value} (h : OwnAt w base e (.slice A n c) xs) : RdC (fun k => base ≤ k ∧ k < w.heap.size) w A xs := fun hn => by
  rcases h with ⟨_, h⟩ | ⟨g, off, cap, cur, he, hb, hg, h1, h2, h3, h4⟩
  · exact absurd h hn
  · injection he with he
    subst he
    refine ⟨_, rfl, ⟨hb, (Array.getElem?_eq_some_iff.1 hg).1⟩, fun j u hu => ?_⟩
    have hadd : (⟨g, off, none⟩ : Addr).add j = ⟨g, off + j, none⟩ := by unfold Addr.add; split <;> simp_all
    rw [hadd]
    rw [← h4, List.getElem?_take] at hu
    split at hu
    · rw [List.getElem?_drop] at hu
      simpa [World.cell?, hg] using hu
    · cases hu
/-- What is cut off at the beginning. -/
theorem OwnAt.cut {w : World} {base : Nat} {e : TypeId} {A : Option Addr} {n c : Nat} {xs : List Value} (h : OwnAt w base e (.slice A n c) xs) (k : Nat) (hk : k ≤ xs.length) :
    OwnAt w base e (.slice (if c = k then A else A.map (·.add k)) (n - k) (c - k)) (xs.drop k) := by
  rcases h with ⟨h0, h⟩ | ⟨g, off, cap, cur, he, hb, hg, h1, h2, h3, h4⟩
  · injection h0 with e1 e2 e3
    subst e1 e2 e3 h
    left
    obtain rfl : k = 0 := by simpa using hk
    simp
  · injection he with e1 e2 e3
    subst e1 e2 e3
    have hl : (xs.drop k).length = xs.length - k := List.length_drop
    right
    by_cases hck : c = k
    · rw [if_pos hck]
      refine ⟨g, off, c - k, cur, by rw [hl], hb, hg, by omega, by omega, by omega, ?_⟩
      rw [List.drop_eq_nil_of_le (by omega)]
      simp
    · rw [if_neg hck]
      have hadd : (⟨g, off, none⟩ : Addr).add k = ⟨g, off + k, none⟩ := by unfold Addr.add; split <;> simp_all
      refine ⟨g, off + k, c - k, cur, by rw [hl, Option.map_some, hadd], hb, hg, by omega, by omega, by omega, ?_⟩
      rw [hl, ← List.drop_drop, ← List.drop_take]
      have := congrArg (List.drop k) h4
      simpa using this
theorem run_append_off (t tx ty e : TypeId) (i : TypeInfo) (ht : P.underlying t = some (.slice e)) (hi : P.info? e = some i) (h1 : i.size = 1) (g off n cap : Nat) (cur : Array Value) (hg : w.heap[g]? = some (.cells cur e (0, 0)))
    (x : Value) (m : Nat) (news : List Value) (hs : Src P 1 tx x m news w) (hroom : n + m ≤ cap) (hfit : off + n + m ≤ cur.size) :
    (Builtin.append_ #[t, tx] ty #[.slice (some ⟨g, off, none⟩) n cap, x]).run P w = .ok (.slice (some ⟨g, off, none⟩) (n + m) cap) (w.setRow g (cur.toList.take (off + n) ++ news ++ cur.toList.drop (off + n + news.length)).toArray) := by
  have hnl := hs.newsLen
  have hst := run_storeCells_at P g (off + n) e news 0 cur w hg (by omega) hs.one
  simp only [Nat.add_zero] at hst
  rcases hs.kind with ⟨e', hk⟩ | hk <;> simp [Builtin.append_, run_underlying ht, run_underlying hk, sizeOf, typeInfo, hi, h1, hs.len, hroom, hs.cells, Addr.add_lit, hst]
/-- append onto such a row. -/
theorem run_append_ownAt (base : Nat) (t tx ty e : TypeId) (i : TypeInfo) (z : Value) (bytes : Nat) (ht : P.underlying t = some (.slice e)) (hi : P.info? e = some i) (hz : i.zero = some z) (h1 : i.size = 1) (hby : i.bytes = bytes)
    (hzs : z.cells.size = 1) (v : Value) (xs : List Value) (hown : OwnAt w base e v xs) (x : Value) (m : Nat) (news : List Value) (hs : Src P 1 tx x m news w) (hl : (xs.length + m) * bytes ≤ 140737488355328) (h63 : xs.length + m ≤ 140737488355328) (hbase : base ≤ w.heap.size) :
    ∃ v' w', (Builtin.append_ #[t, tx] ty #[v, x]).run P w = .ok v' w' ∧ OwnAt w' base e v' (xs ++ news) ∧ Grew w v w' v' := by
  subst hby
  have hnl : news.length = m := by have := hs.newsLen; omega
  have grow : ∀ (bs : Option Addr) (sc : Nat), v = .slice bs xs.length sc → sc < xs.length + m → (Builtin.firstCells i.size xs.length (.slice bs xs.length sc)).run P w.drew = .ok xs.toArray w.drew →
      ∃ v' w', (Builtin.append_ #[t, tx] ty #[v, x]).run P w = .ok v' w' ∧ OwnAt w' base e v' (xs ++ news) ∧ Grew w v w' v' := by
    rintro bs sc rfl hlt hold
    have hrun := run_append_grow_src (P := P) w t tx ty e i z ht hi hz bs xs.length sc xs hold x m news (by rw [h1]; exact hs) hlt (by omega) (growslice_fits hlt hl)
    have hge := grownCap_ge w (xs.length + m) sc e
    have hcm := grownCap_le_maxLen w (xs.length + m) sc e (by unfold maxLen; omega)
    refine ⟨_, _, hrun, .inr ⟨w.heap.size, 0, grownCap w (xs.length + m) sc e, _, by rw [List.length_append, hnl], hbase, heap_alloc_new w.drew _, by rw [List.length_append, hnl]; exact hge, ?_, hcm, ?_⟩, ⟨⟨rfl, rfl, rfl, by simp, fun k hk _ => Below.heap_alloc w.drew _ k hk⟩, .inr ⟨_, rfl, Nat.le_refl _⟩⟩⟩
    · simp only [Array.size_append, List.size_toArray, size_zeroCells, hzs, List.length_append, hnl]
      omega
    · simp only [List.drop_zero, Array.toList_append]
      exact List.take_left
  rcases hown with ⟨rfl, rfl⟩ | ⟨g, off, cap, cur, rfl, hb, hg, hnc, hoc, hcm, htk⟩
  · by_cases hm : m = 0
    · subst hm
      have hn : news = [] := List.eq_nil_of_length_eq_zero hnl
      subst hn
      refine ⟨.slice none 0 0, w, ?_, .inl ⟨rfl, rfl⟩, Grew.refl _ _⟩
      rcases hs.kind with ⟨e', hk⟩ | hk <;> simp [Builtin.append_, run_underlying ht, run_underlying hk, sizeOf, typeInfo, hi, h1, hs.len, hs.cells]
    · exact grow none 0 rfl (by simp; omega) (by simp [Builtin.firstCells, loadCells, loadCellsFrom])
  · by_cases hroom : xs.length + m ≤ cap
    · have hrun := run_append_off (P := P) w t tx ty e i ht hi h1 g off xs.length cap cur hg x m news hs hroom (by omega)
      refine ⟨_, _, hrun, .inr ⟨g, off, cap, _, by rw [List.length_append, hnl], hb, setRow_heap w g cur _ e _ hg, by rw [List.length_append, hnl]; exact hroom, ?_, hcm, ?_⟩, ⟨⟨rfl, rfl, rfl, by simp, fun k _ hk => setRow_other w g k _ (fun e => hk (by simp [Value.ownBlock, e]))⟩, .inl rfl⟩⟩
      · simp only [List.size_toArray, List.length_append, List.length_take, List.length_drop, Array.length_toList]
        omega
      · have e1 : cur.toList.take (off + xs.length) = cur.toList.take off ++ xs := by rw [List.take_add, htk]
        rw [e1]
        simp only [List.toList_toArray, List.append_assoc]
        rw [List.drop_append_of_le_length (by rw [List.length_take, Array.length_toList]; omega), List.drop_of_length_le (by rw [List.length_take]; omega), List.nil_append, ← List.append_assoc, List.length_append]
        rw [← List.length_append]
        exact List.take_left
    · refine grow (some ⟨g, off, none⟩) cap rfl (by omega) ?_
      have hrd : ∀ j u, xs[j]? = some u → w.drew.cell? ((⟨g, off, none⟩ : Addr).add j) = some u := fun j u hu => by
        have hadd : (⟨g, off, none⟩ : Addr).add j = ⟨g, off + j, none⟩ := by unfold Addr.add; split <;> simp_all
        rw [hadd]
        rw [← htk, List.getElem?_take] at hu
        split at hu
        · rw [List.getElem?_drop] at hu
          have hg2 : w.drew.heap[g]? = some (.cells cur e (0, 0)) := hg
          simpa [World.cell?, hg2] using hu
        · cases hu
      exact run_firstCells_some w.drew i.size xs.length ⟨g, off, none⟩ xs.length cap xs (by rw [h1]; omega) hrd
end
section
variable {P : Program} {w : World}
theorem Src.ofRd {ok : Nat → Prop} {tx e' : TypeId} (hk : P.underlying tx = some (.slice e')) {A : Option Addr} {n c : Nat} {news : List Value} (hl : news.length = n) (hR : RdC ok w A news) (h1 : ∀ u ∈ news, u.oneCell' = true) :
    Src P 1 tx (.slice A n c) n news w := by
  cases A with
  | none =>
    have hy : news = [] := by
      cases news with
      | nil => rfl
      | cons y ys =>
        obtain ⟨ad, e, _⟩ := hR (by simp)
        cases e
    subst hy
    subst hl
    exact Src.ofNil _ hk c
  | some ad =>
    refine Src.ofSlice _ hk ad n c news (by omega) (fun j u hu => ?_) h1
    obtain ⟨ad', e, _, hc⟩ := hR (by intro e; rw [e] at hu; simp at hu)
    injection e with e
    subst e
    exact hc j u hu
/-- append(v, x..): v a row that is cut at its beginning; x whatever can be appended. -/
theorem wpList_appOwnAt {ops : Array Oper} {rest : List Oper} {o : Oper} {a : Act} {Q : Exit → Act → World → Prop} (base : Nat) (s x : Operand) (t tx e : TypeId) (i : TypeInfo) (z : Value) (bytes : Nat) (hgd : o.guard = none)
    (ho : o.op = .call { callee := .builtin .append, args := #[s, x], argTypes := #[t, tx] }) (ht : P.underlying t = some (.slice e)) (hi : P.info? e = some i) (hz : i.zero = some z) (h1 : i.size = 1) (hby : i.bytes = bytes)
    (hzs : z.cells.size = 1) (v : Value) (xs : List Value) (hs : a.eval s = v) (hown : OwnAt w base e v xs) (xv : Value) (m : Nat) (news : List Value) (hx : a.eval x = xv) (hsrc : Src P 1 tx xv m news w) (hl : (xs.length + m) * bytes ≤ 140737488355328) (h63 : xs.length + m ≤ 140737488355328) (hbase : base ≤ w.heap.size)
    (h : ∀ v' w', OwnAt w' base e v' (xs ++ news) → Grew w v w' v' → wpList P ops Q rest (a.put o.dst v') w') : wpList P ops Q (o :: rest) a w := by
  refine wpList_plain hgd fun _ hK => ?_
  obtain ⟨v', w', hr, h2, h3⟩ := run_append_ownAt (P := P) w base t tx o.type e i z bytes ht hi hz h1 hby hzs v xs hown xv m news hsrc hl h63 hbase
  unfold Oper.wp execOp
  simp only [ho, resolve, invoke, builtin, Sem.run_bind, Sem.run_pure, Result.andThen_ok, List.map_toArray, List.map_cons, List.map_nil, hs, hx, hr]
  exact hK _ _ (h v' w' h2 h3)
end
end Go.Proofs.YtipgimmgjdgdeaaDoor
