/- Arguments opened: what a reading of a slice says of memory, and of the bulk. -/
import Derived.Test.YtipgimmgjdgdeaaDoorCards
import Derived.Test.YtipgimmgjdgdeaaDoorTie
import Derived.Test.YtipgimmgjdgdeaaDoorBase
import Derived.ProofKit
import Derived.Carry
import Derived.ChangeSame
import Derived.MakeChecks
import Derived.LaidMore
import Derived.Stop.LaidErr
import Derived.OpenShut
import Derived.Deep.DeepHandedRow
import Derived.Deep.DeepWitnessRowRef
set_option linter.unusedVariables false
set_option linter.unusedSimpArgs false
set_option linter.unnecessarySimpa false
namespace Go.Proofs.YtipgimmgjdgdeaaDoor
open Go.RowKit Go.ChangeShapes Go.WideShapes Go.ChangeAt

theorem rowOwn : ownKnob Tryd.prog.godebug = none := by kernel_rfl
theorem rowLaidOut : laidOutB Tryd.prog = true := by kernel_rfl

section
variable {H : Type} {enc : TypeId × Value → H} {P : Program} {W W' : World}
/-- What was read ahead of the call reads behind it as it did, if nothing below block W.heap.size has turned. -/
theorem trodAll_below (hl : laidOutB P = true) (hb : Below W.heap.size W W') (sp : Nat → Bool) :
    ∀ (ts : List TypeId) (vs : List Value) (ds : List (DataW H)) (ps : List MemPlace), (ts.all fun t => P.readableRec t && decide (t < P.types.size)) = true → DataW.TrodAll enc P W 0 (fun _ => true) true ts vs ds ps →
      (∀ x ∈ ps, x.block < W.heap.size ∧ sp x.block = true) → DataW.TrodAll enc P W' 0 sp true ts vs ds ps := by
  intro ts
  induction ts with
  | nil =>
    intro vs ds ps _ h _
    obtain ⟨rfl, rfl, rfl⟩ := trodAll_nil h
    exact trodAll_mk0
  | cons t ts ih =>
    intro vs ds ps hr h hp
    obtain ⟨v0, vs0, d0, ds0, p0, q0, rfl, rfl, rfl, h0, r0⟩ := trodAll_cons h
    rw [List.all_cons, Bool.and_eq_true, Bool.and_eq_true, decide_eq_true_eq] at hr
    exact trodAll_cons_mk (WideElems.Trod_stays hl hr.1.1 hr.1.2 h0 (fun x hx => hb.same (hp x (List.mem_append_left _ hx)).1) (fun x hx => (hp x (List.mem_append_left _ hx)).2))
      (ih vs0 ds0 q0 hr.2 r0 (fun x hx => hp x (List.mem_append_right _ hx)))

/-- THE POST OF A LAW: true; the arguments read as they did. -/
theorem post_of_law {tb : TypeId} (hl : laidOutB P = true) {f : Func} {s : ChangeSpec} {apart fresh handsOn again : Bool} {args : Array Value} {ds gs : List (DataW H)} {before : List MemPlace}
    (hW : DataW.Whole enc P f.params.toList s.vars apart W args.toList ds gs before) (hvars : s.vars = []) (hr : (f.params.toList.all fun t => P.readableRec t && decide (t < P.types.size)) = true)
    (htb : P.underlying tb = some .bool) (hres : f.resultTypes = #[tb]) (hfn : s.fn H ds = { results := [.lit (.bool true)], args := ds }) (hb : Below W.heap.size W W') :
    s.post enc P f apart fresh handsOn again W args (.bool true) W' := by
  have hlt : ∀ p ∈ before, p.block < W.heap.size := fun p hp => hW.lt p hp
  have hW2 := hW
  obtain ⟨p, q, hA, hV, rfl, hz, hn⟩ := hW2
  have hV2 := hV
  rw [hvars] at hV2
  obtain ⟨rfl, rfl⟩ := trodVars_none hV2
  rw [List.append_nil] at *
  have hfn2 : s.fn H (ds ++ []) = { results := [.lit (.bool true)], args := ds } := by rw [List.append_nil]; exact hfn
  have hA' : ∀ sp : Nat → Bool, (∀ x ∈ p, sp x.block = true) → DataW.TrodAll enc P W' 0 sp true f.params.toList args.toList (s.fn H (ds ++ [])).args p := fun sp hsp => by
    rw [hfn2]
    exact trodAll_below hl hb sp _ _ _ _ hr hA (fun x hx => ⟨hlt x hx, hsp x hx⟩)
  have hR : ∀ (b : Nat) (sp : Nat → Bool) (hd : Bool), DataW.TrodAll enc P W' b sp hd f.resultTypes.toList ((Value.bool true).resultList f.resultTypes.size) (s.fn H (ds ++ [])).results [] := fun b sp hd => by
    rw [hfn2, hres]
    exact trodAll_mk1 (shut_bool htb true)
  have hVs : ∀ sp : Nat → Bool, DataW.TrodVars enc P W' sp s.vars (s.fn H (ds ++ [])).vars [] := fun sp => by
    rw [hfn2, hvars]
    rfl
  have hold : ∀ x ∈ p, (fun b => decide (b < W.heap.size)) x.block = true := fun x hx => by simpa using hlt x hx
  refine ⟨ds, [], p, [], p, [], hW, hR _ _ _, hA' _ hold, hVs _, World.keptBut_mono (fun x hx => ⟨hx, by simpa using hx⟩) (hb.frame (· ∈ p)), fun _ => ?_⟩
  refine ⟨?_, _, _, ([] ++ p) ++ [], ⟨[] ++ p, [], trodAll_append (hA' _ (fun _ _ => rfl)) (hR _ _ _), hVs _, rfl, ?_, ?_⟩, ?_⟩
  · intro j t r hj hrr
    rw [hres] at hj hrr
    match j, hj, hrr with
    | 0, hj, hrr =>
      simp at hj
      simp [Value.resultList] at hrr
      subst hj hrr
      exact okWide_bool_mk htb true
    | j + 1, hj, _ => simp at hj
  · intro b off hp
    have hin : MemPlace.cell b off ∈ p := by simpa using hp
    rw [hb.frozen (hlt _ hin)]
    exact hz b off hin
  · intro ha
    simpa using hn ha
  · intro x hx _
    simpa using hx

end
end Go.Proofs.YtipgimmgjdgdeaaDoor
/- From a walk to a row, for every law of this seat: what the row's list of sentinels gives; the post of a law that returns true and turns nothing that was there; the start for the witness. -/
set_option linter.unusedVariables false
set_option linter.unusedSimpArgs false
set_option linter.unnecessarySimpa false
namespace Go.Proofs.YtipgimmgjdgdeaaDoor
open Go.RowKit Go.ChangeShapes Go.WideShapes Go.ChangeAt

section
variable {H : Type} {enc : TypeId × Value → H} {P : Program} {W : World}

theorem bulk_pos (d : DataW H) : 1 ≤ Rows.uptoBulk d := by
  cases d with
  | lit l => cases l <;> simp [Rows.uptoBulk]
  | _ => simp [Rows.uptoBulk]
theorem bulkAll_append (l r : List (DataW H)) : Rows.uptoBulkAll (l ++ r) = Rows.uptoBulkAll l + Rows.uptoBulkAll r := by
  induction l with
  | nil => simp [Rows.uptoBulkAll]
  | cons x l ih => simp only [List.cons_append, Rows.uptoBulkAll, ih]; omega

/-- A SLICE OF WHATEVER ELEMENTS: 'rep cs a': the cells cs stand for a. -/
theorem open_slice {t e : TypeId} {size fuel : Nat} {v : Value} {x : DataW H × List MemPlace} (ht : P.underlying t = some (.slice e)) (hc : P.cellsOf e = size) (hs : 0 < size)
    {α : Type} (rep : List Value → α → Prop) (wt : α → Nat)
    (helem : ∀ (fuel : Nat) (cs : List Value) (y : DataW H × List MemPlace), DataW.trod enc P W 0 (fun _ => true) true fuel e cs = some y → ∃ a, rep cs a ∧ wt a ≤ Rows.uptoBulk y.1)
    (h : DataW.trod enc P W 0 (fun _ => true) true fuel t [v] = some x) :
    ∃ (A : Option Addr) (n c : Nat) (chs : List (List Value)) (xs : List α), v = .slice A n c ∧ chs.length = n ∧ xs.length = n ∧ n ≤ c ∧ c ≤ maxLen ∧ RdC (· < W.heap.size) W A chs.flatten ∧
      (∀ i (h1 : i < chs.length) (h2 : i < xs.length), rep chs[i] xs[i] ∧ chs[i].length = size) ∧ (xs.map wt).sum + 1 ≤ Rows.uptoBulk x.1 := by
  rcases DataW.trod_slice ht h with ⟨hv, rfl⟩ | ⟨a, len, cap, elems, rest, n, _, hv, rfl, _, hlc, hcm, hlen, hel, _⟩
  · injection hv with hv _
    subst hv
    exact ⟨none, 0, 0, [], [], rfl, rfl, rfl, Nat.le_refl _, by simp [maxLen], RdC.nil _ _ _, fun i h1 => absurd h1 (by simp), by simp [Rows.uptoBulk]⟩
  · injection hv with hv _
    subst hv
    have key : ∀ k, k ≤ len → ∃ (chs : List (List Value)) (xs : List α), chs.length = k ∧ xs.length = k ∧ chs.flatten.length = k * size ∧
        (∀ j u, chs.flatten[j]? = some u → W.cell? (a.add j) = some u) ∧
        (∀ i (h1 : i < chs.length) (h2 : i < xs.length), rep chs[i] xs[i] ∧ chs[i].length = size) ∧ (xs.map wt).sum ≤ Rows.uptoBulkAll ((elems.take k).map (·.1)) := by
      intro k
      induction k with
      | zero => intro _; exact ⟨[], [], rfl, rfl, by simp, fun j u hu => by simp at hu, fun i h1 => absurd h1 (by simp), by simp [Rows.uptoBulkAll]⟩
      | succ k ih =>
        intro hk
        obtain ⟨chs, xs, l1, l2, l3, hcell, hrep, hsum⟩ := ih (by omega)
        have hkl : k < elems.length := by omega
        have hE := hel k (by omega)
        rw [hc, List.getElem?_eq_getElem hkl] at hE
        obtain ⟨cs, hcs, htr⟩ := Option.bind_eq_some_iff.1 hE
        obtain ⟨_, hcl, hci⟩ := World.cells?_some hcs
        obtain ⟨x, hx, hw⟩ := helem _ _ _ htr
        refine ⟨chs ++ [cs], xs ++ [x], by simp [l1], by simp [l2], by simp [l3, hcl, Nat.add_mul], ?_, ?_, ?_⟩
        · intro j u hu
          rw [List.flatten_append, List.getElem?_append] at hu
          split at hu
          · exact hcell j u hu
          · rename_i hj
            simp only [List.flatten_cons, List.flatten_nil, List.append_nil] at hu
            have hj2 : j - chs.flatten.length < cs.length := (List.getElem?_eq_some_iff.1 hu).1
            have := hci (j - chs.flatten.length) (by omega)
            rw [add_add, l3, show k * size + (j - k * size) = j from by omega] at this
            rw [l3] at hu
            rw [this, hu]
        · intro i h1 h2
          by_cases hi : i < k
          · rw [List.getElem_append_left (by omega), List.getElem_append_left (by omega)]
            exact hrep i (by omega) (by omega)
          · have hik : i = k := by simp at h1; omega
            subst hik
            simp only [List.getElem_append_right (Nat.le_of_eq l1), List.getElem_append_right (Nat.le_of_eq l2), l1, l2, Nat.sub_self, List.getElem_cons_zero]
            exact ⟨hx, hcl⟩
        · rw [List.map_append, List.sum_append, List.take_succ_eq_append_getElem hkl, List.map_append, bulkAll_append]
          simp only [List.map_cons, List.map_nil, List.sum_cons, List.sum_nil, Rows.uptoBulkAll]
          omega
    obtain ⟨chs, xs, l1, l2, l3, hcell, hrep, hsum⟩ := key len (Nat.le_refl _)
    have hall : elems.take len = elems := List.take_of_length_le (by omega)
    rw [hall] at hsum
    refine ⟨some a, len, cap, chs, xs, rfl, l1, l2, hlc, hcm, fun hne => ⟨a, rfl, ?_, hcell⟩, hrep, ?_⟩
    · obtain ⟨u, us, hu⟩ := List.exists_cons_of_ne_nil hne
      have := World.block_lt_of_cell? W _ (hcell 0 u (by rw [hu]; rfl))
      rwa [add_block] at this
    · simp only [Rows.uptoBulk]
      omega

theorem flat_one : ∀ xs : Bs, (xs.map fun b => [bv b]).flatten = bvs xs
  | [] => rfl
  | x :: xs => by simp [bvs, flat_one xs]
theorem sum_ones {α : Type} : ∀ xs : List α, (xs.map fun _ => 1).sum = xs.length
  | [] => rfl
  | x :: xs => by simp [sum_ones xs]; omega
/-- A string. -/
theorem open_str {t : TypeId} {r : Reach} {b0 : Nat} {v : Value} {d : DataW H} {ps : List MemPlace} (ht : P.underlying t = some .string) (hval : Value.okWide P W r b0 t v) (hd : DataW.Trod enc P W 0 (fun _ => true) true t v d ps) :
    ∃ s : ByteArray, v = .string s ∧ s.size ≤ maxLen ∧ s.size + 1 ≤ Rows.uptoBulk d := by
  obtain ⟨s, rfl, rfl, rfl, hs⟩ := Go.ChangeMaps.open_string ht hval hd
  refine ⟨s, rfl, hs, ?_⟩
  simp [Rows.uptoBulk]
/-- []byte. -/
theorem open_bytes {t e : TypeId} {fuel : Nat} {v : Value} {x : DataW H × List MemPlace} (ht : P.underlying t = some (.slice e)) (he : P.underlying e = some (.int .u8)) (hc : P.cellsOf e = 1)
    (h : DataW.trod enc P W 0 (fun _ => true) true fuel t [v] = some x) :
    ∃ (A : Option Addr) (n c : Nat) (b : Bs), v = .slice A n c ∧ n = b.length ∧ n ≤ c ∧ c ≤ maxLen ∧ RdC (· < W.heap.size) W A (bvs b) ∧ b.length + 1 ≤ Rows.uptoBulk x.1 := by
  obtain ⟨A, n, c, chs, xs, rfl, l1, l2, h1, h2, hR, hrep, hb⟩ := open_slice ht hc (by omega) (fun cs (b : UInt8) => cs = [bv b]) (fun _ => 1) (fun fuel cs y hy => by
    obtain ⟨z, rfl, rfl, hw⟩ := DataW.trod_int he hy
    have hz := Go.bounds_u8 hw
    refine ⟨UInt8.ofNat z.toNat, ?_, bulk_pos _⟩
    unfold bv
    congr 2
    rw [UInt8.toNat_ofNat']
    omega) h
  refine ⟨A, n, c, xs, rfl, l2.symm, h1, h2, ?_, ?_⟩
  · have : chs.flatten = bvs xs := by
      have e : chs = xs.map fun b => [bv b] := by
        apply List.ext_getElem
        · simp [l1, l2]
        · intro i hi1 hi2
          have := (hrep i hi1 (by omega)).1
          simp [this]
      rw [e]
      exact flat_one xs
    rw [← this]
    exact hR
  · have := sum_ones xs
    omega
end
end Go.Proofs.YtipgimmgjdgdeaaDoor
