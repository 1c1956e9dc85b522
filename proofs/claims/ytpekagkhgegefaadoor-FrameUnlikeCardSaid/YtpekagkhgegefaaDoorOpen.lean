/- Arguments opened: what a reading of a slice says of memory, and of the bulk. -/
import Derived.Test.YtpekagkhgegefaaDoorRow
set_option linter.unusedVariables false
set_option linter.unusedSimpArgs false
set_option linter.unnecessarySimpa false
namespace Go.Proofs.YtpekagkhgegefaaDoor
open Go.RowKit Go.ChangeShapes Go.WideShapes Go.ChangeAt

section
variable {H : Type} {enc : TypeId × Value → H} {P : Program} {W : World}

theorem bulk_pos (d : DataW H) : 1 ≤ Rows.uptoBulk d := by
  cases d with
  | lit l => cases l <;> simp [Rows.uptoBulk]
  | _ => simp [Rows.uptoBulk]
theorem bulkAll_append (l r : List (DataW H)) : Rows.uptoBulkAll (l ++ r) = Rows.uptoBulkAll l + Rows.uptoBulkAll r := by
  induction l with
  | nil => simp [Rows.uptoBulkAll]
  | cons x l ih => simp only [List.cons_append, Rows.uptoBulkAll, ih]; omega

/-- A SLICE OF WHATEVER ELEMENTS: 'rep cs a': the cells cs stand for a. -/
theorem open_slice {t e : TypeId} {size fuel : Nat} {v : Value} {x : DataW H × List MemPlace} (ht : P.underlying t = some (.slice e)) (hc : P.cellsOf e = size) (hs : 0 < size)
    {α : Type} (rep : List Value → α → Prop) (wt : α → Nat)
    (helem : ∀ (fuel : Nat) (cs : List Value) (y : DataW H × List MemPlace), DataW.trod enc P W 0 (fun _ => true) true fuel e cs = some y → ∃ a, rep cs a ∧ wt a ≤ Rows.uptoBulk y.1)
    (h : DataW.trod enc P W 0 (fun _ => true) true fuel t [v] = some x) :
    ∃ (A : Option Addr) (n c : Nat) (chs : List (List Value)) (xs : List α), v = .slice A n c ∧ chs.length = n ∧ xs.length = n ∧ n ≤ c ∧ c ≤ maxLen ∧ RdC (· < W.heap.size) W A chs.flatten ∧
      (∀ i (h1 : i < chs.length) (h2 : i < xs.length), rep chs[i] xs[i] ∧ chs[i].length = size) ∧ (xs.map wt).sum + 1 ≤ Rows.uptoBulk x.1 := by
  rcases DataW.trod_slice ht h with ⟨hv, rfl⟩ | ⟨a, len, cap, elems, rest, n, _, hv, rfl, _, hlc, hcm, hlen, hel, _⟩
  · injection hv with hv _
    subst hv
    exact ⟨none, 0, 0, [], [], rfl, rfl, rfl, Nat.le_refl _, by simp [maxLen], RdC.nil _ _ _, fun i h1 => absurd h1 (by simp), by simp [Rows.uptoBulk]⟩
  · injection hv with hv _
    subst hv
    have key : ∀ k, k ≤ len → ∃ (chs : List (List Value)) (xs : List α), chs.length = k ∧ xs.length = k ∧ chs.flatten.length = k * size ∧
        (∀ j u, chs.flatten[j]? = some u → W.cell? (a.add j) = some u) ∧
        (∀ i (h1 : i < chs.length) (h2 : i < xs.length), rep chs[i] xs[i] ∧ chs[i].length = size) ∧ (xs.map wt).sum ≤ Rows.uptoBulkAll ((elems.take k).map (·.1)) := by
      intro k
      induction k with
      | zero => intro _; exact ⟨[], [], rfl, rfl, by simp, fun j u hu => by simp at hu, fun i h1 => absurd h1 (by simp), by simp [Rows.uptoBulkAll]⟩
      | succ k ih =>
        intro hk
        obtain ⟨chs, xs, l1, l2, l3, hcell, hrep, hsum⟩ := ih (by omega)
        have hkl : k < elems.length := by omega
        have hE := hel k (by omega)
        rw [hc, List.getElem?_eq_getElem hkl] at hE
        obtain ⟨cs, hcs, htr⟩ := Option.bind_eq_some_iff.1 hE
        obtain ⟨_, hcl, hci⟩ := World.cells?_some hcs
        obtain ⟨x, hx, hw⟩ := helem _ _ _ htr
        refine ⟨chs ++ [cs], xs ++ [x], by simp [l1], by simp [l2], by simp [l3, hcl, Nat.add_mul], ?_, ?_, ?_⟩
        · intro j u hu
          rw [List.flatten_append, List.getElem?_append] at hu
          split at hu
          · exact hcell j u hu
          · rename_i hj
            simp only [List.flatten_cons, List.flatten_nil, List.append_nil] at hu
            have hj2 : j - chs.flatten.length < cs.length := (List.getElem?_eq_some_iff.1 hu).1
            have := hci (j - chs.flatten.length) (by omega)
            rw [add_add, l3, show k * size + (j - k * size) = j from by omega] at this
            rw [l3] at hu
            rw [this, hu]
        · intro i h1 h2
          by_cases hi : i < k
          · rw [List.getElem_append_left (by omega), List.getElem_append_left (by omega)]
            exact hrep i (by omega) (by omega)
          · have hik : i = k := by simp at h1; omega
            subst hik
            simp only [List.getElem_append_right (Nat.le_of_eq l1), List.getElem_append_right (Nat.le_of_eq l2), l1, l2, Nat.sub_self, List.getElem_cons_zero]
            exact ⟨hx, hcl⟩
        · rw [List.map_append, List.sum_append, List.take_succ_eq_append_getElem hkl, List.map_append, bulkAll_append]
          simp only [List.map_cons, List.map_nil, List.sum_cons, List.sum_nil, Rows.uptoBulkAll]
          omega
    obtain ⟨chs, xs, l1, l2, l3, hcell, hrep, hsum⟩ := key len (Nat.le_refl _)
    have hall : elems.take len = elems := List.take_of_length_le (by omega)
    rw [hall] at hsum
    refine ⟨some a, len, cap, chs, xs, rfl, l1, l2, hlc, hcm, fun hne => ⟨a, rfl, ?_, hcell⟩, hrep, ?_⟩
    · obtain ⟨u, us, hu⟩ := List.exists_cons_of_ne_nil hne
      have := World.block_lt_of_cell? W _ (hcell 0 u (by rw [hu]; rfl))
      rwa [add_block] at this
    · simp only [Rows.uptoBulk]
      omega

theorem flat_one : ∀ xs : Bs, (xs.map fun b => [bv b]).flatten = bvs xs
  | [] => rfl
  | x :: xs => by simp [bvs, flat_one xs]
theorem sum_ones {α : Type} : ∀ xs : List α, (xs.map fun _ => 1).sum = xs.length
  | [] => rfl
  | x :: xs => by simp [sum_ones xs]; omega
/-- A string. -/
theorem open_str {t : TypeId} {r : Reach} {b0 : Nat} {v : Value} {d : DataW H} {ps : List MemPlace} (ht : P.underlying t = some .string) (hval : Value.okWide P W r b0 t v) (hd : DataW.Trod enc P W 0 (fun _ => true) true t v d ps) :
    ∃ s : ByteArray, v = .string s ∧ s.size ≤ maxLen ∧ s.size + 1 ≤ Rows.uptoBulk d := by
  obtain ⟨s, rfl, rfl, rfl, hs⟩ := Go.ChangeMaps.open_string ht hval hd
  refine ⟨s, rfl, hs, ?_⟩
  simp [Rows.uptoBulk]
/-- []byte. -/
theorem open_bytes {t e : TypeId} {fuel : Nat} {v : Value} {x : DataW H × List MemPlace} (ht : P.underlying t = some (.slice e)) (he : P.underlying e = some (.int .u8)) (hc : P.cellsOf e = 1)
    (h : DataW.trod enc P W 0 (fun _ => true) true fuel t [v] = some x) :
    ∃ (A : Option Addr) (n c : Nat) (b : Bs), v = .slice A n c ∧ n = b.length ∧ n ≤ c ∧ c ≤ maxLen ∧ RdC (· < W.heap.size) W A (bvs b) ∧ b.length + 1 ≤ Rows.uptoBulk x.1 := by
  obtain ⟨A, n, c, chs, xs, rfl, l1, l2, h1, h2, hR, hrep, hb⟩ := open_slice ht hc (by omega) (fun cs (b : UInt8) => cs = [bv b]) (fun _ => 1) (fun fuel cs y hy => by
    obtain ⟨z, rfl, rfl, hw⟩ := DataW.trod_int he hy
    have hz := Go.bounds_u8 hw
    refine ⟨UInt8.ofNat z.toNat, ?_, bulk_pos _⟩
    unfold bv
    congr 2
    rw [UInt8.toNat_ofNat']
    omega) h
  refine ⟨A, n, c, xs, rfl, l2.symm, h1, h2, ?_, ?_⟩
  · have : chs.flatten = bvs xs := by
      have e : chs = xs.map fun b => [bv b] := by
        apply List.ext_getElem
        · simp [l1, l2]
        · intro i hi1 hi2
          have := (hrep i hi1 (by omega)).1
          simp [this]
      rw [e]
      exact flat_one xs
    rw [← this]
    exact hR
  · have := sum_ones xs
    omega
end
end Go.Proofs.YtpekagkhgegefaaDoor
