/- Walk of package hash: Keyed. -/
import Derived.Test.YtnnokbipcenbgaaDoorHc
set_option linter.unusedVariables false
set_option linter.unusedSimpArgs false
set_option linter.unnecessarySimpa false
namespace Go.Proofs.YtnnokbipcenbgaaDoor
open Go.RowKit

/-- copy(pad[:], key): into an array of its own. -/
theorem copy_front {P : Program} {W : World} {ops : Array Oper} {rest : List Oper} {o : Oper} {a : Act} {Q : Exit → Act → World → Prop} (hgd : o.guard = none) (d s : Operand) (dT e T : TypeId)
    (ho : o.op = .call { callee := .builtin .copy, args := #[d, s], argTypes := #[dT, dT] }) (hu : P.underlying dT = some (.slice e)) (hsz : (P.info? e).map (·.size) = some 1) (H c1 c2 n m : Nat) (K : Option Addr) (ok : Nat → Prop) (ps key : Bs)
    (hn : ps.length = n) (hm : key.length = m) (hd : a.eval d = .slice (some ⟨H, 0, none⟩) n c1) (hs : a.eval s = .slice K m c2) (hA : BArr W H T ps) (hR : RdC ok W K (bvs key)) (hk : key.length ≤ ps.length)
    (h : ∀ w', BArr w' H T (key ++ ps.drop key.length) → (∀ B w0, B ≤ H → Below B w0 W → Below B w0 w') → (∀ k, k ≠ H → w'.heap[k]? = W.heap[k]?) → wpList P ops Q rest (a.put o.dst (goInt m)) w') : wpList P ops Q (o :: rest) a W := by
  subst hn
  subst hm
  have hA' : W.heap[H]? = _ := hA
  rcases Nat.eq_zero_or_pos key.length with h0 | h0
  · obtain rfl : key = [] := List.eq_nil_of_length_eq_zero h0
    refine wpList_copy_nothing hgd d s dT dT ho e hu hsz (some ⟨H, 0, none⟩) K ps.length c1 0 c2 hd hs (by simp) ?_
    exact h W (by simpa using hA) (fun _ _ _ hb => hb) (fun _ _ => rfl)
  · obtain ⟨ad, rfl, _, hc⟩ := hR (by intro e; have := congrArg List.length e; simp at this; rw [this] at h0; simp at h0)
    refine wpList_copy_own hgd d s dT dT ho e hu hsz H 0 ps.length c1 ad key.length c2 hd hs _ T hA' (bvs key) (by rw [bvs_length]; exact (Nat.min_eq_left hk).symm) hc (by simp; omega) (bvs_one key) ?_
    have e0 : goInt (bvs key).length = goInt key.length := by rw [bvs_length]
    rw [e0]
    refine h _ ?_ (fun B w0 hB hb => below_setRow hb hB _) (fun k hk => setRow_other _ _ _ _ hk)
    unfold BArr
    rw [setRow_heap _ _ _ _ _ _ hA']
    congr 2
    simp [bvs_append, bvs_drop]
/-- The first t of p are turned by f. -/
def mapTo (f : UInt8 → UInt8) (p : Bs) (t : Nat) : Bs := (p.take t).map f ++ p.drop t
theorem mapTo_length (f : UInt8 → UInt8) (p : Bs) (t : Nat) : (mapTo f p t).length = p.length := by
  unfold mapTo
  rw [List.length_append, List.length_map, List.length_take, List.length_drop]
  omega
theorem mapTo_set (f : UInt8 → UInt8) (p : Bs) (t : Nat) (h : t < p.length) : (mapTo f p t).set t (f (p.getD t 0)) = mapTo f p (t + 1) := by
  unfold mapTo
  rw [List.set_append_right _ _ (by rw [List.length_map, List.length_take]; omega), List.length_map, List.length_take, show t - min t p.length = 0 by omega, List.drop_eq_getElem_cons h, List.set_cons_zero, List.take_succ_eq_append_getElem h, List.map_append, List.append_assoc]
  simp [h]
theorem mapTo_get (f : UInt8 → UInt8) (p : Bs) (t : Nat) (h : t < p.length) : (mapTo f p t).getD t 0 = p.getD t 0 := by
  unfold mapTo
  simp only [List.getD_eq_getElem?_getD]
  rw [List.getElem?_append_right (by rw [List.length_map, List.length_take]; omega), List.length_map, List.length_take, show t - min t p.length = 0 by omega, List.getElem?_drop]
  simp
theorem mapTo_all (f : UInt8 → UInt8) (p : Bs) : mapTo f p p.length = p.map f := by simp [mapTo]
theorem mapTo_none (f : UInt8 → UInt8) (p : Bs) : mapTo f p 0 = p := by simp [mapTo]
theorem xor_bv (x : UInt8) (k : UInt8) : Value.int .u8 (bits .xor .u8 (x.toNat : Int) (k.toNat : Int)) = bv (x ^^^ k) := by
  unfold bv
  rw [xor8 _ _ x.toNat_lt k.toNat_lt, UInt8.toNat_xor]
theorem xor36 (x : UInt8) : Value.int .u8 (bits .xor .u8 (x.toNat : Int) 54) = bv (x ^^^ 54) := xor_bv x 54
theorem xor5c (x : UInt8) : Value.int .u8 (bits .xor .u8 (x.toNat : Int) 92) = bv (x ^^^ 92) := xor_bv x 92
theorem pad64_length (key : Bs) : (pad64 key).length = 64 := by
  unfold pad64
  by_cases h : 64 < key.length
  · simp only [if_pos h, List.length_append, List.length_replicate, sha_length]
  · simp only [if_neg h, List.length_append, List.length_replicate]
    omega
theorem size_alloc1 (w : World) (o : Obj) : (w.alloc o).heap.size = w.heap.size + 1 := by simp
theorem RowsOf.one {ok : Nat → Prop} {w : World} {vs : List Value} {ps : List Bs} (h : RowsOf ok w vs ps) : ∀ u ∈ vs, u.oneCell' = true := fun u hu => by
  obtain ⟨i, hi⟩ := List.getElem?_of_mem hu
  have hl : i < ps.length := by rw [← h.1]; exact (List.getElem?_eq_some_iff.1 hi).1
  obtain ⟨A, c, h1, _⟩ := h.2 i hl
  rw [hi] at h1
  injection h1 with h1
  subst h1
  rfl
theorem slices_two {ok : Nat → Prop} {w : World} {A B : Option Addr} {n d : Nat} {xs : List Value} {a : Value} (hA : RdC ok w A [a]) (hB : RdC ok w B xs) (hn : n = xs.length) (hd : n ≤ d) (h1 : ∀ u ∈ xs, u.oneCell' = true) (ha : a.oneCell' = true := by rfl) :
    SlicesOf ok w [.slice A 1 1, .slice B n d] [[a], xs] := by
  subst hn
  refine ⟨rfl, fun i hi => ?_⟩
  match i, hi with
  | 0, _ => exact ⟨A, 1, rfl, hA, Nat.le_refl _, by simpa using ha⟩
  | 1, _ => exact ⟨B, d, rfl, hB, hd, h1⟩
def zeros64 : Bs := List.replicate 64 0
theorem zeros64_length : zeros64.length = 64 := by decide
theorem zeros64_drop (n : Nat) : zeros64.drop n = List.replicate (64 - n) 0 := by unfold zeros64; rw [List.drop_replicate]
theorem info64 : (Tryd.prog.info? 89).map (·.size) = some 64 := by kernel_rfl
theorem info32 : (Tryd.prog.info? 81).map (·.size) = some 32 := by kernel_rfl
def KeyedP (w : World) (key b : Bs) (e : Ending) (w' : World) : Prop := e = .returned (.agg (bvs (keyed key b)).toArray) ∧ Below w.heap.size w w'
set_option maxRecDepth 8000 in
set_option maxHeartbeats 4000000 in
theorem keyed_any (w : World) (K : Option Addr) (kc : Nat) (key : Bs) (PA : Option Addr) (pc : Nat) (vs : List Value) (ps : List Bs) (hRo : RoundAt w) (hK : RdC (· < w.heap.size) w K (bvs key)) (hkc : key.length ≤ kc)
    (hP : RdC (· < w.heap.size) w PA vs) (hV : RowsOf (· < w.heap.size) w vs ps) (hpc : ps.length ≤ pc) (hk : ps.length ≤ 1099511627000) (hl : ps.flatten.length ≤ 1099511627776) (hkl : key.length ≤ 1099511627776) :
    Calls Tryd.prog 44 #[.slice K key.length kc, .slice PA ps.length pc] w (KeyedP w key ps.flatten) := by
  have HRo := Lib.hid hRo
  have HK := Lib.hid hK
  have HP := Lib.hid hP
  have HV := Lib.hid hV
  clear hRo hK hP hV
  by_cases h64 : 64 < key.length
  · have t1 : (64 : Int) < (key.length : Int) := by omega
    have hpad : sha key ++ zeros64.drop (sha key).length = pad64 key := by
      unfold pad64
      simp only [if_pos h64, zeros64_drop]
    have hsl := sha_length key
    have b4 : BArr (((w.alloc (Obj.cells #[Value.int .u8 0, Value.int .u8 0, Value.int .u8 0, Value.int .u8 0, Value.int .u8 0, Value.int .u8 0, Value.int .u8 0, Value.int .u8 0, Value.int .u8 0, Value.int .u8 0, Value.int .u8 0, Value.int .u8 0, Value.int .u8 0, Value.int .u8 0, Value.int .u8 0, Value.int .u8 0, Value.int .u8 0, Value.int .u8 0, Value.int .u8 0, Value.int .u8 0, Value.int .u8 0, Value.int .u8 0, Value.int .u8 0, Value.int .u8 0, Value.int .u8 0, Value.int .u8 0, Value.int .u8 0, Value.int .u8 0, Value.int .u8 0, Value.int .u8 0, Value.int .u8 0, Value.int .u8 0] 81 (0, 0))).alloc (Obj.cells #[Value.int .u8 0, Value.int .u8 0, Value.int .u8 0, Value.int .u8 0, Value.int .u8 0, Value.int .u8 0, Value.int .u8 0, Value.int .u8 0, Value.int .u8 0, Value.int .u8 0, Value.int .u8 0, Value.int .u8 0, Value.int .u8 0, Value.int .u8 0, Value.int .u8 0, Value.int .u8 0, Value.int .u8 0, Value.int .u8 0, Value.int .u8 0, Value.int .u8 0, Value.int .u8 0, Value.int .u8 0, Value.int .u8 0, Value.int .u8 0, Value.int .u8 0, Value.int .u8 0, Value.int .u8 0, Value.int .u8 0, Value.int .u8 0, Value.int .u8 0, Value.int .u8 0, Value.int .u8 0, Value.int .u8 0, Value.int .u8 0, Value.int .u8 0, Value.int .u8 0, Value.int .u8 0, Value.int .u8 0, Value.int .u8 0, Value.int .u8 0, Value.int .u8 0, Value.int .u8 0, Value.int .u8 0, Value.int .u8 0, Value.int .u8 0, Value.int .u8 0, Value.int .u8 0, Value.int .u8 0, Value.int .u8 0, Value.int .u8 0, Value.int .u8 0, Value.int .u8 0, Value.int .u8 0, Value.int .u8 0, Value.int .u8 0, Value.int .u8 0, Value.int .u8 0, Value.int .u8 0, Value.int .u8 0, Value.int .u8 0, Value.int .u8 0, Value.int .u8 0, Value.int .u8 0, Value.int .u8 0] 89 (0, 0))).alloc (.cells #[.slice K key.length kc] 22 (0, 0))) (w.heap.size + 1) 89 zeros64 := (heap_alloc_old _ _ (by simp)).trans (heap_alloc2_new _ _ _)
    obtain ⟨Z, hZ, z4⟩ : ∃ Z, Obj.cells #[Value.int .u8 0, Value.int .u8 0, Value.int .u8 0, Value.int .u8 0, Value.int .u8 0, Value.int .u8 0, Value.int .u8 0, Value.int .u8 0, Value.int .u8 0, Value.int .u8 0, Value.int .u8 0, Value.int .u8 0, Value.int .u8 0, Value.int .u8 0, Value.int .u8 0, Value.int .u8 0, Value.int .u8 0, Value.int .u8 0, Value.int .u8 0, Value.int .u8 0, Value.int .u8 0, Value.int .u8 0, Value.int .u8 0, Value.int .u8 0, Value.int .u8 0, Value.int .u8 0, Value.int .u8 0, Value.int .u8 0, Value.int .u8 0, Value.int .u8 0, Value.int .u8 0, Value.int .u8 0] 81 (0, 0) = Z ∧ (((w.alloc (Obj.cells #[Value.int .u8 0, Value.int .u8 0, Value.int .u8 0, Value.int .u8 0, Value.int .u8 0, Value.int .u8 0, Value.int .u8 0, Value.int .u8 0, Value.int .u8 0, Value.int .u8 0, Value.int .u8 0, Value.int .u8 0, Value.int .u8 0, Value.int .u8 0, Value.int .u8 0, Value.int .u8 0, Value.int .u8 0, Value.int .u8 0, Value.int .u8 0, Value.int .u8 0, Value.int .u8 0, Value.int .u8 0, Value.int .u8 0, Value.int .u8 0, Value.int .u8 0, Value.int .u8 0, Value.int .u8 0, Value.int .u8 0, Value.int .u8 0, Value.int .u8 0, Value.int .u8 0, Value.int .u8 0] 81 (0, 0))).alloc (Obj.cells #[Value.int .u8 0, Value.int .u8 0, Value.int .u8 0, Value.int .u8 0, Value.int .u8 0, Value.int .u8 0, Value.int .u8 0, Value.int .u8 0, Value.int .u8 0, Value.int .u8 0, Value.int .u8 0, Value.int .u8 0, Value.int .u8 0, Value.int .u8 0, Value.int .u8 0, Value.int .u8 0, Value.int .u8 0, Value.int .u8 0, Value.int .u8 0, Value.int .u8 0, Value.int .u8 0, Value.int .u8 0, Value.int .u8 0, Value.int .u8 0, Value.int .u8 0, Value.int .u8 0, Value.int .u8 0, Value.int .u8 0, Value.int .u8 0, Value.int .u8 0, Value.int .u8 0, Value.int .u8 0, Value.int .u8 0, Value.int .u8 0, Value.int .u8 0, Value.int .u8 0, Value.int .u8 0, Value.int .u8 0, Value.int .u8 0, Value.int .u8 0, Value.int .u8 0, Value.int .u8 0, Value.int .u8 0, Value.int .u8 0, Value.int .u8 0, Value.int .u8 0, Value.int .u8 0, Value.int .u8 0, Value.int .u8 0, Value.int .u8 0, Value.int .u8 0, Value.int .u8 0, Value.int .u8 0, Value.int .u8 0, Value.int .u8 0, Value.int .u8 0, Value.int .u8 0, Value.int .u8 0, Value.int .u8 0, Value.int .u8 0, Value.int .u8 0, Value.int .u8 0, Value.int .u8 0, Value.int .u8 0] 89 (0, 0))).alloc (.cells #[.slice K key.length kc] 22 (0, 0))).heap[w.heap.size]? = some Z := ⟨_, rfl, (heap_alloc_old _ _ (by simp; omega)).trans (heap_alloc2_old _ _ _)⟩
    have bl4 : Below w.heap.size w (((w.alloc (Obj.cells #[Value.int .u8 0, Value.int .u8 0, Value.int .u8 0, Value.int .u8 0, Value.int .u8 0, Value.int .u8 0, Value.int .u8 0, Value.int .u8 0, Value.int .u8 0, Value.int .u8 0, Value.int .u8 0, Value.int .u8 0, Value.int .u8 0, Value.int .u8 0, Value.int .u8 0, Value.int .u8 0, Value.int .u8 0, Value.int .u8 0, Value.int .u8 0, Value.int .u8 0, Value.int .u8 0, Value.int .u8 0, Value.int .u8 0, Value.int .u8 0, Value.int .u8 0, Value.int .u8 0, Value.int .u8 0, Value.int .u8 0, Value.int .u8 0, Value.int .u8 0, Value.int .u8 0, Value.int .u8 0] 81 (0, 0))).alloc (Obj.cells #[Value.int .u8 0, Value.int .u8 0, Value.int .u8 0, Value.int .u8 0, Value.int .u8 0, Value.int .u8 0, Value.int .u8 0, Value.int .u8 0, Value.int .u8 0, Value.int .u8 0, Value.int .u8 0, Value.int .u8 0, Value.int .u8 0, Value.int .u8 0, Value.int .u8 0, Value.int .u8 0, Value.int .u8 0, Value.int .u8 0, Value.int .u8 0, Value.int .u8 0, Value.int .u8 0, Value.int .u8 0, Value.int .u8 0, Value.int .u8 0, Value.int .u8 0, Value.int .u8 0, Value.int .u8 0, Value.int .u8 0, Value.int .u8 0, Value.int .u8 0, Value.int .u8 0, Value.int .u8 0, Value.int .u8 0, Value.int .u8 0, Value.int .u8 0, Value.int .u8 0, Value.int .u8 0, Value.int .u8 0, Value.int .u8 0, Value.int .u8 0, Value.int .u8 0, Value.int .u8 0, Value.int .u8 0, Value.int .u8 0, Value.int .u8 0, Value.int .u8 0, Value.int .u8 0, Value.int .u8 0, Value.int .u8 0, Value.int .u8 0, Value.int .u8 0, Value.int .u8 0, Value.int .u8 0, Value.int .u8 0, Value.int .u8 0, Value.int .u8 0, Value.int .u8 0, Value.int .u8 0, Value.int .u8 0, Value.int .u8 0, Value.int .u8 0, Value.int .u8 0, Value.int .u8 0, Value.int .u8 0] 89 (0, 0))).alloc (.cells #[.slice K key.length kc] 22 (0, 0))) := (((Below.refl _ _).alloc (Nat.le_refl _) _).alloc (by simp) _).alloc (by simp; omega) _
    have hdg0 := digest_any (((w.alloc (Obj.cells #[Value.int .u8 0, Value.int .u8 0, Value.int .u8 0, Value.int .u8 0, Value.int .u8 0, Value.int .u8 0, Value.int .u8 0, Value.int .u8 0, Value.int .u8 0, Value.int .u8 0, Value.int .u8 0, Value.int .u8 0, Value.int .u8 0, Value.int .u8 0, Value.int .u8 0, Value.int .u8 0, Value.int .u8 0, Value.int .u8 0, Value.int .u8 0, Value.int .u8 0, Value.int .u8 0, Value.int .u8 0, Value.int .u8 0, Value.int .u8 0, Value.int .u8 0, Value.int .u8 0, Value.int .u8 0, Value.int .u8 0, Value.int .u8 0, Value.int .u8 0, Value.int .u8 0, Value.int .u8 0] 81 (0, 0))).alloc (Obj.cells #[Value.int .u8 0, Value.int .u8 0, Value.int .u8 0, Value.int .u8 0, Value.int .u8 0, Value.int .u8 0, Value.int .u8 0, Value.int .u8 0, Value.int .u8 0, Value.int .u8 0, Value.int .u8 0, Value.int .u8 0, Value.int .u8 0, Value.int .u8 0, Value.int .u8 0, Value.int .u8 0, Value.int .u8 0, Value.int .u8 0, Value.int .u8 0, Value.int .u8 0, Value.int .u8 0, Value.int .u8 0, Value.int .u8 0, Value.int .u8 0, Value.int .u8 0, Value.int .u8 0, Value.int .u8 0, Value.int .u8 0, Value.int .u8 0, Value.int .u8 0, Value.int .u8 0, Value.int .u8 0, Value.int .u8 0, Value.int .u8 0, Value.int .u8 0, Value.int .u8 0, Value.int .u8 0, Value.int .u8 0, Value.int .u8 0, Value.int .u8 0, Value.int .u8 0, Value.int .u8 0, Value.int .u8 0, Value.int .u8 0, Value.int .u8 0, Value.int .u8 0, Value.int .u8 0, Value.int .u8 0, Value.int .u8 0, Value.int .u8 0, Value.int .u8 0, Value.int .u8 0, Value.int .u8 0, Value.int .u8 0, Value.int .u8 0, Value.int .u8 0, Value.int .u8 0, Value.int .u8 0, Value.int .u8 0, Value.int .u8 0, Value.int .u8 0, Value.int .u8 0, Value.int .u8 0, Value.int .u8 0] 89 (0, 0))).alloc (.cells #[.slice K key.length kc] 22 (0, 0))) (some ⟨w.heap.size + 1 + 1, 0, none⟩) 1 [.slice K key.length kc] [key] (HRo.out.below bl4 HRo.out.lt)
      (by
        have := RdC.new ((w.alloc (Obj.cells #[Value.int .u8 0, Value.int .u8 0, Value.int .u8 0, Value.int .u8 0, Value.int .u8 0, Value.int .u8 0, Value.int .u8 0, Value.int .u8 0, Value.int .u8 0, Value.int .u8 0, Value.int .u8 0, Value.int .u8 0, Value.int .u8 0, Value.int .u8 0, Value.int .u8 0, Value.int .u8 0, Value.int .u8 0, Value.int .u8 0, Value.int .u8 0, Value.int .u8 0, Value.int .u8 0, Value.int .u8 0, Value.int .u8 0, Value.int .u8 0, Value.int .u8 0, Value.int .u8 0, Value.int .u8 0, Value.int .u8 0, Value.int .u8 0, Value.int .u8 0, Value.int .u8 0, Value.int .u8 0] 81 (0, 0))).alloc (Obj.cells #[Value.int .u8 0, Value.int .u8 0, Value.int .u8 0, Value.int .u8 0, Value.int .u8 0, Value.int .u8 0, Value.int .u8 0, Value.int .u8 0, Value.int .u8 0, Value.int .u8 0, Value.int .u8 0, Value.int .u8 0, Value.int .u8 0, Value.int .u8 0, Value.int .u8 0, Value.int .u8 0, Value.int .u8 0, Value.int .u8 0, Value.int .u8 0, Value.int .u8 0, Value.int .u8 0, Value.int .u8 0, Value.int .u8 0, Value.int .u8 0, Value.int .u8 0, Value.int .u8 0, Value.int .u8 0, Value.int .u8 0, Value.int .u8 0, Value.int .u8 0, Value.int .u8 0, Value.int .u8 0, Value.int .u8 0, Value.int .u8 0, Value.int .u8 0, Value.int .u8 0, Value.int .u8 0, Value.int .u8 0, Value.int .u8 0, Value.int .u8 0, Value.int .u8 0, Value.int .u8 0, Value.int .u8 0, Value.int .u8 0, Value.int .u8 0, Value.int .u8 0, Value.int .u8 0, Value.int .u8 0, Value.int .u8 0, Value.int .u8 0, Value.int .u8 0, Value.int .u8 0, Value.int .u8 0, Value.int .u8 0, Value.int .u8 0, Value.int .u8 0, Value.int .u8 0, Value.int .u8 0, Value.int .u8 0, Value.int .u8 0, Value.int .u8 0, Value.int .u8 0, Value.int .u8 0, Value.int .u8 0] 89 (0, 0))) #[.slice K key.length kc] 22
        simp only [size_alloc1] at this
        exact this.mono (fun k hk => by simp; omega))
      (RowsOf.cons (RowsOf.nil _ _) (HK.out.toBelow bl4 (by simp; omega)) hkc) (by simp) (by simp; omega)
    have e1 : ([key] : List Bs).flatten = key := by simp
    rw [e1] at hdg0
    have HDg0 := Lib.hid hdg0
    have HPad := Lib.hid hpad
    have HZe := Lib.hid hZ
    have HA0 := Lib.hid b4
    have HZ0 := Lib.hid z4
    have HB0 := Lib.hid bl4
    have HSl0 := Lib.hid hsl
    clear hpad b4 z4 bl4 hZ hdg0 e1 hsl
    go_enter Tryd.func44, Tryd.ntmps44
    go_wp2_with fail
    refine HDg0.out.mono ?_
    rintro e w3 ⟨rfl, hb3⟩
    have hw3 : w.heap.size + 2 < w3.heap.size := by have := hb3.size; simp at this; omega
    have b3 : BArr w3 (w.heap.size + 1) 89 zeros64 := HA0.out.move (hb3.block _ HA0.out.lt)
    have z3 : w3.heap[w.heap.size]? = some Z := (hb3.block _ (by simp; omega)).trans HZ0.out
    have bl3 : Below w.heap.size w w3 := HB0.out.trans (hb3.mono (by simp; omega))
    generalize hS : sha key = S at *
    have HA4 := Lib.hid (show BArr (w3.alloc (.cells (bvs S).toArray 81 (0, 0))) (w.heap.size + 1) 89 zeros64 from b3.move (heap_alloc_old _ _ (by omega)))
    have HZ4 := Lib.hid ((heap_alloc_old w3 (.cells (bvs S).toArray 81 (0, 0)) (show w.heap.size < w3.heap.size by omega)).trans z3)
    have HB4 := Lib.hid (bl3.alloc (show w.heap.size ≤ w3.heap.size by omega) (.cells (bvs S).toArray 81 (0, 0)))
    have HI0 := Lib.hid (show (Tryd.prog.info? 81).map (·.size) = some ((bvs S).toArray).size by rw [info32]; simp [HSl0.out])
    have HS0 := Lib.hid (bv_one S)
    have HRd := Lib.hid ((show BArr (w3.alloc (.cells (bvs S).toArray 81 (0, 0))) w3.heap.size 81 S from heap_alloc_new _ _).reads)
    have HSS := Lib.hid hS
    clear hS b3 z3 bl3 hb3
    go_wp2_with (first
      | (with_reducible refine wpList_store_new (op := ⟨none, .store 81 (.tmp 6) _, _, _, _, _⟩) rfl 81 _ _ rfl _ (bvs S).toArray _ rfl rfl (by simp; exact HSl0.out.symm) HI0.out (by simpa using HS0.out) ?_)
      | refine copy_front (o := ⟨some 20, _, _, _, _, _⟩) rfl _ _ 22 5 89 rfl Tryd.underlying22 (by kernel_rfl) (w.heap.size + 1) 64 32 64 32 (some ⟨w3.heap.size, 0, none⟩) _ zeros64 S zeros64_length HSl0.out rfl rfl HA4.out HRd.out (by rw [zeros64_length, HSl0.out]; omega) ?_)
    intro w5 hp5 hb5 ho5
    have hpl : (pad64 key).length = 64 := pad64_length key
    rw [HPad.out] at hp5
    have hz5 : w5.heap[w.heap.size]? = some Z := (ho5 _ (by omega)).trans HZ4.out
    have hbw5 : Below w.heap.size w w5 := hb5 _ _ (by omega) HB4.out
    have hs5 : w.heap.size + 1 < w5.heap.size := hp5.lt
    generalize hpp : pad64 key = p at *
    have HPP := Lib.hid hpp
    have HPL := Lib.hid hpl
    have HI64 := Lib.hid (show (Tryd.prog.info? 89).map (·.size) = some ((bvs p).toArray).size by rw [info64]; simp [hpl])
    have HO1 := Lib.hid (bv_one p)
    have h7 : ((w5.alloc (Obj.cells #[Value.int .u8 0, Value.int .u8 0, Value.int .u8 0, Value.int .u8 0, Value.int .u8 0, Value.int .u8 0, Value.int .u8 0, Value.int .u8 0, Value.int .u8 0, Value.int .u8 0, Value.int .u8 0, Value.int .u8 0, Value.int .u8 0, Value.int .u8 0, Value.int .u8 0, Value.int .u8 0, Value.int .u8 0, Value.int .u8 0, Value.int .u8 0, Value.int .u8 0, Value.int .u8 0, Value.int .u8 0, Value.int .u8 0, Value.int .u8 0, Value.int .u8 0, Value.int .u8 0, Value.int .u8 0, Value.int .u8 0, Value.int .u8 0, Value.int .u8 0, Value.int .u8 0, Value.int .u8 0, Value.int .u8 0, Value.int .u8 0, Value.int .u8 0, Value.int .u8 0, Value.int .u8 0, Value.int .u8 0, Value.int .u8 0, Value.int .u8 0, Value.int .u8 0, Value.int .u8 0, Value.int .u8 0, Value.int .u8 0, Value.int .u8 0, Value.int .u8 0, Value.int .u8 0, Value.int .u8 0, Value.int .u8 0, Value.int .u8 0, Value.int .u8 0, Value.int .u8 0, Value.int .u8 0, Value.int .u8 0, Value.int .u8 0, Value.int .u8 0, Value.int .u8 0, Value.int .u8 0, Value.int .u8 0, Value.int .u8 0, Value.int .u8 0, Value.int .u8 0, Value.int .u8 0, Value.int .u8 0] 89 (0, 0))).alloc (Obj.cells #[Value.int .u8 0, Value.int .u8 0, Value.int .u8 0, Value.int .u8 0, Value.int .u8 0, Value.int .u8 0, Value.int .u8 0, Value.int .u8 0, Value.int .u8 0, Value.int .u8 0, Value.int .u8 0, Value.int .u8 0, Value.int .u8 0, Value.int .u8 0, Value.int .u8 0, Value.int .u8 0, Value.int .u8 0, Value.int .u8 0, Value.int .u8 0, Value.int .u8 0, Value.int .u8 0, Value.int .u8 0, Value.int .u8 0, Value.int .u8 0, Value.int .u8 0, Value.int .u8 0, Value.int .u8 0, Value.int .u8 0, Value.int .u8 0, Value.int .u8 0, Value.int .u8 0, Value.int .u8 0, Value.int .u8 0, Value.int .u8 0, Value.int .u8 0, Value.int .u8 0, Value.int .u8 0, Value.int .u8 0, Value.int .u8 0, Value.int .u8 0, Value.int .u8 0, Value.int .u8 0, Value.int .u8 0, Value.int .u8 0, Value.int .u8 0, Value.int .u8 0, Value.int .u8 0, Value.int .u8 0, Value.int .u8 0, Value.int .u8 0, Value.int .u8 0, Value.int .u8 0, Value.int .u8 0, Value.int .u8 0, Value.int .u8 0, Value.int .u8 0, Value.int .u8 0, Value.int .u8 0, Value.int .u8 0, Value.int .u8 0, Value.int .u8 0, Value.int .u8 0, Value.int .u8 0, Value.int .u8 0] 89 (0, 0))).heap[w5.heap.size]? = some (Obj.cells #[Value.int .u8 0, Value.int .u8 0, Value.int .u8 0, Value.int .u8 0, Value.int .u8 0, Value.int .u8 0, Value.int .u8 0, Value.int .u8 0, Value.int .u8 0, Value.int .u8 0, Value.int .u8 0, Value.int .u8 0, Value.int .u8 0, Value.int .u8 0, Value.int .u8 0, Value.int .u8 0, Value.int .u8 0, Value.int .u8 0, Value.int .u8 0, Value.int .u8 0, Value.int .u8 0, Value.int .u8 0, Value.int .u8 0, Value.int .u8 0, Value.int .u8 0, Value.int .u8 0, Value.int .u8 0, Value.int .u8 0, Value.int .u8 0, Value.int .u8 0, Value.int .u8 0, Value.int .u8 0, Value.int .u8 0, Value.int .u8 0, Value.int .u8 0, Value.int .u8 0, Value.int .u8 0, Value.int .u8 0, Value.int .u8 0, Value.int .u8 0, Value.int .u8 0, Value.int .u8 0, Value.int .u8 0, Value.int .u8 0, Value.int .u8 0, Value.int .u8 0, Value.int .u8 0, Value.int .u8 0, Value.int .u8 0, Value.int .u8 0, Value.int .u8 0, Value.int .u8 0, Value.int .u8 0, Value.int .u8 0, Value.int .u8 0, Value.int .u8 0, Value.int .u8 0, Value.int .u8 0, Value.int .u8 0, Value.int .u8 0, Value.int .u8 0, Value.int .u8 0, Value.int .u8 0, Value.int .u8 0] 89 (0, 0)) := heap_alloc2_old _ _ _
    have h8 : (((w5.alloc (Obj.cells #[Value.int .u8 0, Value.int .u8 0, Value.int .u8 0, Value.int .u8 0, Value.int .u8 0, Value.int .u8 0, Value.int .u8 0, Value.int .u8 0, Value.int .u8 0, Value.int .u8 0, Value.int .u8 0, Value.int .u8 0, Value.int .u8 0, Value.int .u8 0, Value.int .u8 0, Value.int .u8 0, Value.int .u8 0, Value.int .u8 0, Value.int .u8 0, Value.int .u8 0, Value.int .u8 0, Value.int .u8 0, Value.int .u8 0, Value.int .u8 0, Value.int .u8 0, Value.int .u8 0, Value.int .u8 0, Value.int .u8 0, Value.int .u8 0, Value.int .u8 0, Value.int .u8 0, Value.int .u8 0, Value.int .u8 0, Value.int .u8 0, Value.int .u8 0, Value.int .u8 0, Value.int .u8 0, Value.int .u8 0, Value.int .u8 0, Value.int .u8 0, Value.int .u8 0, Value.int .u8 0, Value.int .u8 0, Value.int .u8 0, Value.int .u8 0, Value.int .u8 0, Value.int .u8 0, Value.int .u8 0, Value.int .u8 0, Value.int .u8 0, Value.int .u8 0, Value.int .u8 0, Value.int .u8 0, Value.int .u8 0, Value.int .u8 0, Value.int .u8 0, Value.int .u8 0, Value.int .u8 0, Value.int .u8 0, Value.int .u8 0, Value.int .u8 0, Value.int .u8 0, Value.int .u8 0, Value.int .u8 0] 89 (0, 0))).alloc (Obj.cells #[Value.int .u8 0, Value.int .u8 0, Value.int .u8 0, Value.int .u8 0, Value.int .u8 0, Value.int .u8 0, Value.int .u8 0, Value.int .u8 0, Value.int .u8 0, Value.int .u8 0, Value.int .u8 0, Value.int .u8 0, Value.int .u8 0, Value.int .u8 0, Value.int .u8 0, Value.int .u8 0, Value.int .u8 0, Value.int .u8 0, Value.int .u8 0, Value.int .u8 0, Value.int .u8 0, Value.int .u8 0, Value.int .u8 0, Value.int .u8 0, Value.int .u8 0, Value.int .u8 0, Value.int .u8 0, Value.int .u8 0, Value.int .u8 0, Value.int .u8 0, Value.int .u8 0, Value.int .u8 0, Value.int .u8 0, Value.int .u8 0, Value.int .u8 0, Value.int .u8 0, Value.int .u8 0, Value.int .u8 0, Value.int .u8 0, Value.int .u8 0, Value.int .u8 0, Value.int .u8 0, Value.int .u8 0, Value.int .u8 0, Value.int .u8 0, Value.int .u8 0, Value.int .u8 0, Value.int .u8 0, Value.int .u8 0, Value.int .u8 0, Value.int .u8 0, Value.int .u8 0, Value.int .u8 0, Value.int .u8 0, Value.int .u8 0, Value.int .u8 0, Value.int .u8 0, Value.int .u8 0, Value.int .u8 0, Value.int .u8 0, Value.int .u8 0, Value.int .u8 0, Value.int .u8 0, Value.int .u8 0] 89 (0, 0))).setRow w5.heap.size (bvs p).toArray).heap[w5.heap.size + 1]? = some (Obj.cells #[Value.int .u8 0, Value.int .u8 0, Value.int .u8 0, Value.int .u8 0, Value.int .u8 0, Value.int .u8 0, Value.int .u8 0, Value.int .u8 0, Value.int .u8 0, Value.int .u8 0, Value.int .u8 0, Value.int .u8 0, Value.int .u8 0, Value.int .u8 0, Value.int .u8 0, Value.int .u8 0, Value.int .u8 0, Value.int .u8 0, Value.int .u8 0, Value.int .u8 0, Value.int .u8 0, Value.int .u8 0, Value.int .u8 0, Value.int .u8 0, Value.int .u8 0, Value.int .u8 0, Value.int .u8 0, Value.int .u8 0, Value.int .u8 0, Value.int .u8 0, Value.int .u8 0, Value.int .u8 0, Value.int .u8 0, Value.int .u8 0, Value.int .u8 0, Value.int .u8 0, Value.int .u8 0, Value.int .u8 0, Value.int .u8 0, Value.int .u8 0, Value.int .u8 0, Value.int .u8 0, Value.int .u8 0, Value.int .u8 0, Value.int .u8 0, Value.int .u8 0, Value.int .u8 0, Value.int .u8 0, Value.int .u8 0, Value.int .u8 0, Value.int .u8 0, Value.int .u8 0, Value.int .u8 0, Value.int .u8 0, Value.int .u8 0, Value.int .u8 0, Value.int .u8 0, Value.int .u8 0, Value.int .u8 0, Value.int .u8 0, Value.int .u8 0, Value.int .u8 0, Value.int .u8 0, Value.int .u8 0] 89 (0, 0)) := (setRow_other _ _ _ _ (by omega)).trans (heap_alloc2_new _ _ _)
    have h9 : w5.heap[w.heap.size + 1]? = some (.cells (bvs p).toArray 89 (0, 0)) := hp5
    have hsz : (#[Value.int .u8 0, Value.int .u8 0, Value.int .u8 0, Value.int .u8 0, Value.int .u8 0, Value.int .u8 0, Value.int .u8 0, Value.int .u8 0, Value.int .u8 0, Value.int .u8 0, Value.int .u8 0, Value.int .u8 0, Value.int .u8 0, Value.int .u8 0, Value.int .u8 0, Value.int .u8 0, Value.int .u8 0, Value.int .u8 0, Value.int .u8 0, Value.int .u8 0, Value.int .u8 0, Value.int .u8 0, Value.int .u8 0, Value.int .u8 0, Value.int .u8 0, Value.int .u8 0, Value.int .u8 0, Value.int .u8 0, Value.int .u8 0, Value.int .u8 0, Value.int .u8 0, Value.int .u8 0, Value.int .u8 0, Value.int .u8 0, Value.int .u8 0, Value.int .u8 0, Value.int .u8 0, Value.int .u8 0, Value.int .u8 0, Value.int .u8 0, Value.int .u8 0, Value.int .u8 0, Value.int .u8 0, Value.int .u8 0, Value.int .u8 0, Value.int .u8 0, Value.int .u8 0, Value.int .u8 0, Value.int .u8 0, Value.int .u8 0, Value.int .u8 0, Value.int .u8 0, Value.int .u8 0, Value.int .u8 0, Value.int .u8 0, Value.int .u8 0, Value.int .u8 0, Value.int .u8 0, Value.int .u8 0, Value.int .u8 0, Value.int .u8 0, Value.int .u8 0, Value.int .u8 0, Value.int .u8 0]).size = ((bvs p).toArray).size := by simp [hpl]
    have g1 : BArr ((((w5.alloc (Obj.cells #[Value.int .u8 0, Value.int .u8 0, Value.int .u8 0, Value.int .u8 0, Value.int .u8 0, Value.int .u8 0, Value.int .u8 0, Value.int .u8 0, Value.int .u8 0, Value.int .u8 0, Value.int .u8 0, Value.int .u8 0, Value.int .u8 0, Value.int .u8 0, Value.int .u8 0, Value.int .u8 0, Value.int .u8 0, Value.int .u8 0, Value.int .u8 0, Value.int .u8 0, Value.int .u8 0, Value.int .u8 0, Value.int .u8 0, Value.int .u8 0, Value.int .u8 0, Value.int .u8 0, Value.int .u8 0, Value.int .u8 0, Value.int .u8 0, Value.int .u8 0, Value.int .u8 0, Value.int .u8 0, Value.int .u8 0, Value.int .u8 0, Value.int .u8 0, Value.int .u8 0, Value.int .u8 0, Value.int .u8 0, Value.int .u8 0, Value.int .u8 0, Value.int .u8 0, Value.int .u8 0, Value.int .u8 0, Value.int .u8 0, Value.int .u8 0, Value.int .u8 0, Value.int .u8 0, Value.int .u8 0, Value.int .u8 0, Value.int .u8 0, Value.int .u8 0, Value.int .u8 0, Value.int .u8 0, Value.int .u8 0, Value.int .u8 0, Value.int .u8 0, Value.int .u8 0, Value.int .u8 0, Value.int .u8 0, Value.int .u8 0, Value.int .u8 0, Value.int .u8 0, Value.int .u8 0, Value.int .u8 0] 89 (0, 0))).alloc (Obj.cells #[Value.int .u8 0, Value.int .u8 0, Value.int .u8 0, Value.int .u8 0, Value.int .u8 0, Value.int .u8 0, Value.int .u8 0, Value.int .u8 0, Value.int .u8 0, Value.int .u8 0, Value.int .u8 0, Value.int .u8 0, Value.int .u8 0, Value.int .u8 0, Value.int .u8 0, Value.int .u8 0, Value.int .u8 0, Value.int .u8 0, Value.int .u8 0, Value.int .u8 0, Value.int .u8 0, Value.int .u8 0, Value.int .u8 0, Value.int .u8 0, Value.int .u8 0, Value.int .u8 0, Value.int .u8 0, Value.int .u8 0, Value.int .u8 0, Value.int .u8 0, Value.int .u8 0, Value.int .u8 0, Value.int .u8 0, Value.int .u8 0, Value.int .u8 0, Value.int .u8 0, Value.int .u8 0, Value.int .u8 0, Value.int .u8 0, Value.int .u8 0, Value.int .u8 0, Value.int .u8 0, Value.int .u8 0, Value.int .u8 0, Value.int .u8 0, Value.int .u8 0, Value.int .u8 0, Value.int .u8 0, Value.int .u8 0, Value.int .u8 0, Value.int .u8 0, Value.int .u8 0, Value.int .u8 0, Value.int .u8 0, Value.int .u8 0, Value.int .u8 0, Value.int .u8 0, Value.int .u8 0, Value.int .u8 0, Value.int .u8 0, Value.int .u8 0, Value.int .u8 0, Value.int .u8 0, Value.int .u8 0] 89 (0, 0))).setRow w5.heap.size (bvs p).toArray).setRow (w5.heap.size + 1) (bvs p).toArray) w5.heap.size 89 p := (setRow_other _ _ _ _ (by omega)).trans (setRow_heap _ _ _ _ _ _ h7)
    have g2 : BArr ((((w5.alloc (Obj.cells #[Value.int .u8 0, Value.int .u8 0, Value.int .u8 0, Value.int .u8 0, Value.int .u8 0, Value.int .u8 0, Value.int .u8 0, Value.int .u8 0, Value.int .u8 0, Value.int .u8 0, Value.int .u8 0, Value.int .u8 0, Value.int .u8 0, Value.int .u8 0, Value.int .u8 0, Value.int .u8 0, Value.int .u8 0, Value.int .u8 0, Value.int .u8 0, Value.int .u8 0, Value.int .u8 0, Value.int .u8 0, Value.int .u8 0, Value.int .u8 0, Value.int .u8 0, Value.int .u8 0, Value.int .u8 0, Value.int .u8 0, Value.int .u8 0, Value.int .u8 0, Value.int .u8 0, Value.int .u8 0, Value.int .u8 0, Value.int .u8 0, Value.int .u8 0, Value.int .u8 0, Value.int .u8 0, Value.int .u8 0, Value.int .u8 0, Value.int .u8 0, Value.int .u8 0, Value.int .u8 0, Value.int .u8 0, Value.int .u8 0, Value.int .u8 0, Value.int .u8 0, Value.int .u8 0, Value.int .u8 0, Value.int .u8 0, Value.int .u8 0, Value.int .u8 0, Value.int .u8 0, Value.int .u8 0, Value.int .u8 0, Value.int .u8 0, Value.int .u8 0, Value.int .u8 0, Value.int .u8 0, Value.int .u8 0, Value.int .u8 0, Value.int .u8 0, Value.int .u8 0, Value.int .u8 0, Value.int .u8 0] 89 (0, 0))).alloc (Obj.cells #[Value.int .u8 0, Value.int .u8 0, Value.int .u8 0, Value.int .u8 0, Value.int .u8 0, Value.int .u8 0, Value.int .u8 0, Value.int .u8 0, Value.int .u8 0, Value.int .u8 0, Value.int .u8 0, Value.int .u8 0, Value.int .u8 0, Value.int .u8 0, Value.int .u8 0, Value.int .u8 0, Value.int .u8 0, Value.int .u8 0, Value.int .u8 0, Value.int .u8 0, Value.int .u8 0, Value.int .u8 0, Value.int .u8 0, Value.int .u8 0, Value.int .u8 0, Value.int .u8 0, Value.int .u8 0, Value.int .u8 0, Value.int .u8 0, Value.int .u8 0, Value.int .u8 0, Value.int .u8 0, Value.int .u8 0, Value.int .u8 0, Value.int .u8 0, Value.int .u8 0, Value.int .u8 0, Value.int .u8 0, Value.int .u8 0, Value.int .u8 0, Value.int .u8 0, Value.int .u8 0, Value.int .u8 0, Value.int .u8 0, Value.int .u8 0, Value.int .u8 0, Value.int .u8 0, Value.int .u8 0, Value.int .u8 0, Value.int .u8 0, Value.int .u8 0, Value.int .u8 0, Value.int .u8 0, Value.int .u8 0, Value.int .u8 0, Value.int .u8 0, Value.int .u8 0, Value.int .u8 0, Value.int .u8 0, Value.int .u8 0, Value.int .u8 0, Value.int .u8 0, Value.int .u8 0, Value.int .u8 0] 89 (0, 0))).setRow w5.heap.size (bvs p).toArray).setRow (w5.heap.size + 1) (bvs p).toArray) (w5.heap.size + 1) 89 p := setRow_heap _ _ _ _ _ _ h8
    have g3 : ((((w5.alloc (Obj.cells #[Value.int .u8 0, Value.int .u8 0, Value.int .u8 0, Value.int .u8 0, Value.int .u8 0, Value.int .u8 0, Value.int .u8 0, Value.int .u8 0, Value.int .u8 0, Value.int .u8 0, Value.int .u8 0, Value.int .u8 0, Value.int .u8 0, Value.int .u8 0, Value.int .u8 0, Value.int .u8 0, Value.int .u8 0, Value.int .u8 0, Value.int .u8 0, Value.int .u8 0, Value.int .u8 0, Value.int .u8 0, Value.int .u8 0, Value.int .u8 0, Value.int .u8 0, Value.int .u8 0, Value.int .u8 0, Value.int .u8 0, Value.int .u8 0, Value.int .u8 0, Value.int .u8 0, Value.int .u8 0, Value.int .u8 0, Value.int .u8 0, Value.int .u8 0, Value.int .u8 0, Value.int .u8 0, Value.int .u8 0, Value.int .u8 0, Value.int .u8 0, Value.int .u8 0, Value.int .u8 0, Value.int .u8 0, Value.int .u8 0, Value.int .u8 0, Value.int .u8 0, Value.int .u8 0, Value.int .u8 0, Value.int .u8 0, Value.int .u8 0, Value.int .u8 0, Value.int .u8 0, Value.int .u8 0, Value.int .u8 0, Value.int .u8 0, Value.int .u8 0, Value.int .u8 0, Value.int .u8 0, Value.int .u8 0, Value.int .u8 0, Value.int .u8 0, Value.int .u8 0, Value.int .u8 0, Value.int .u8 0] 89 (0, 0))).alloc (Obj.cells #[Value.int .u8 0, Value.int .u8 0, Value.int .u8 0, Value.int .u8 0, Value.int .u8 0, Value.int .u8 0, Value.int .u8 0, Value.int .u8 0, Value.int .u8 0, Value.int .u8 0, Value.int .u8 0, Value.int .u8 0, Value.int .u8 0, Value.int .u8 0, Value.int .u8 0, Value.int .u8 0, Value.int .u8 0, Value.int .u8 0, Value.int .u8 0, Value.int .u8 0, Value.int .u8 0, Value.int .u8 0, Value.int .u8 0, Value.int .u8 0, Value.int .u8 0, Value.int .u8 0, Value.int .u8 0, Value.int .u8 0, Value.int .u8 0, Value.int .u8 0, Value.int .u8 0, Value.int .u8 0, Value.int .u8 0, Value.int .u8 0, Value.int .u8 0, Value.int .u8 0, Value.int .u8 0, Value.int .u8 0, Value.int .u8 0, Value.int .u8 0, Value.int .u8 0, Value.int .u8 0, Value.int .u8 0, Value.int .u8 0, Value.int .u8 0, Value.int .u8 0, Value.int .u8 0, Value.int .u8 0, Value.int .u8 0, Value.int .u8 0, Value.int .u8 0, Value.int .u8 0, Value.int .u8 0, Value.int .u8 0, Value.int .u8 0, Value.int .u8 0, Value.int .u8 0, Value.int .u8 0, Value.int .u8 0, Value.int .u8 0, Value.int .u8 0, Value.int .u8 0, Value.int .u8 0, Value.int .u8 0] 89 (0, 0))).setRow w5.heap.size (bvs p).toArray).setRow (w5.heap.size + 1) (bvs p).toArray).heap[w.heap.size]? = some Z := (setRow_other _ _ _ _ (by omega)).trans ((setRow_other _ _ _ _ (by omega)).trans ((heap_alloc_old _ _ (by simp; omega)).trans ((heap_alloc_old _ _ (by omega)).trans hz5)))
    have g4 : Below w.heap.size w ((((w5.alloc (Obj.cells #[Value.int .u8 0, Value.int .u8 0, Value.int .u8 0, Value.int .u8 0, Value.int .u8 0, Value.int .u8 0, Value.int .u8 0, Value.int .u8 0, Value.int .u8 0, Value.int .u8 0, Value.int .u8 0, Value.int .u8 0, Value.int .u8 0, Value.int .u8 0, Value.int .u8 0, Value.int .u8 0, Value.int .u8 0, Value.int .u8 0, Value.int .u8 0, Value.int .u8 0, Value.int .u8 0, Value.int .u8 0, Value.int .u8 0, Value.int .u8 0, Value.int .u8 0, Value.int .u8 0, Value.int .u8 0, Value.int .u8 0, Value.int .u8 0, Value.int .u8 0, Value.int .u8 0, Value.int .u8 0, Value.int .u8 0, Value.int .u8 0, Value.int .u8 0, Value.int .u8 0, Value.int .u8 0, Value.int .u8 0, Value.int .u8 0, Value.int .u8 0, Value.int .u8 0, Value.int .u8 0, Value.int .u8 0, Value.int .u8 0, Value.int .u8 0, Value.int .u8 0, Value.int .u8 0, Value.int .u8 0, Value.int .u8 0, Value.int .u8 0, Value.int .u8 0, Value.int .u8 0, Value.int .u8 0, Value.int .u8 0, Value.int .u8 0, Value.int .u8 0, Value.int .u8 0, Value.int .u8 0, Value.int .u8 0, Value.int .u8 0, Value.int .u8 0, Value.int .u8 0, Value.int .u8 0, Value.int .u8 0] 89 (0, 0))).alloc (Obj.cells #[Value.int .u8 0, Value.int .u8 0, Value.int .u8 0, Value.int .u8 0, Value.int .u8 0, Value.int .u8 0, Value.int .u8 0, Value.int .u8 0, Value.int .u8 0, Value.int .u8 0, Value.int .u8 0, Value.int .u8 0, Value.int .u8 0, Value.int .u8 0, Value.int .u8 0, Value.int .u8 0, Value.int .u8 0, Value.int .u8 0, Value.int .u8 0, Value.int .u8 0, Value.int .u8 0, Value.int .u8 0, Value.int .u8 0, Value.int .u8 0, Value.int .u8 0, Value.int .u8 0, Value.int .u8 0, Value.int .u8 0, Value.int .u8 0, Value.int .u8 0, Value.int .u8 0, Value.int .u8 0, Value.int .u8 0, Value.int .u8 0, Value.int .u8 0, Value.int .u8 0, Value.int .u8 0, Value.int .u8 0, Value.int .u8 0, Value.int .u8 0, Value.int .u8 0, Value.int .u8 0, Value.int .u8 0, Value.int .u8 0, Value.int .u8 0, Value.int .u8 0, Value.int .u8 0, Value.int .u8 0, Value.int .u8 0, Value.int .u8 0, Value.int .u8 0, Value.int .u8 0, Value.int .u8 0, Value.int .u8 0, Value.int .u8 0, Value.int .u8 0, Value.int .u8 0, Value.int .u8 0, Value.int .u8 0, Value.int .u8 0, Value.int .u8 0, Value.int .u8 0, Value.int .u8 0, Value.int .u8 0] 89 (0, 0))).setRow w5.heap.size (bvs p).toArray).setRow (w5.heap.size + 1) (bvs p).toArray) := below_setRow (below_setRow ((hbw5.alloc (by omega) _).alloc (by simp; omega) _) (by omega) _) (by omega) _
    have H7 := Lib.hid h7
    have H8 := Lib.hid h8
    have H9 := Lib.hid h9
    have HSz := Lib.hid hsz
    have G1 := Lib.hid g1
    have G2 := Lib.hid g2
    have G3 := Lib.hid g3
    have G4 := Lib.hid g4
    clear hp5 hb5 ho5 hpl hz5 hbw5 hpp h7 h8 h9 hsz g1 g2 g3 g4
    go_wp2_with (first
      | (with_reducible refine wpList_load_row (o := ⟨some 21, _, _, _, _, _⟩) rfl _ _ rfl (w.heap.size + 1) rfl _ (bvs p).toArray _ _ H9.out Tryd.underlying89 rfl HI64.out ?_)
      | (with_reducible refine wpList_load_row (o := ⟨some 22, _, _, _, _, _⟩) rfl _ _ rfl (w.heap.size + 1) rfl _ (bvs p).toArray _ _ H9.out Tryd.underlying89 rfl HI64.out ?_)
      | (with_reducible refine wpList_store_all (op := ⟨none, .store 89 (.tmp 7) _, _, _, _, _⟩) rfl 89 _ _ rfl w5.heap.size _ (bvs p).toArray _ rfl rfl H7.out HSz.out HI64.out (by simpa using HO1.out) ?_)
      | (with_reducible refine wpList_store_all (op := ⟨none, .store 89 (.tmp 8) _, _, _, _, _⟩) rfl 89 _ _ rfl (w5.heap.size + 1) _ (bvs p).toArray _ rfl rfl H8.out HSz.out HI64.out (by simpa using HO1.out) ?_))
    go_loopw [23] (fun i wq => ∃ t : Nat, t ≤ 64 ∧ i = .int .i64 t ∧ BArr wq w5.heap.size 89 (mapTo (· ^^^ 54) p t) ∧ BArr wq (w5.heap.size + 1) 89 (mapTo (· ^^^ 92) p t) ∧ wq.heap[w.heap.size]? = some Z ∧ Below w.heap.size w wq) (fun i _ => 64 - (intOf i).toNat)
    case atStart => exact ⟨0, by omega, rfl, by rw [mapTo_none]; exact G1.out, by rw [mapTo_none]; exact G2.out, G3.out, G4.out⟩
    case round =>
      obtain ⟨t, ht, rfl, ha1, ha2, hz, hbel⟩ := hrel
      by_cases h8 : t < 64
      · have htp : t < p.length := by rw [HPL.out]; exact h8
        have c1 := ha1.cell t (by rw [mapTo_length]; exact htp)
        have c2 := ha2.cell t (by rw [mapTo_length]; exact htp)
        rw [mapTo_get _ _ _ htp] at c1 c2
        have f1 := ha1.frozen t
        have f2 := ha2.frozen t
        have s1 := mapTo_set (· ^^^ 54) p t htp
        have s2 := mapTo_set (· ^^^ 92) p t htp
        generalize p.getD t 0 = x at *
        have hadd : ∀ b j, (⟨b, 0, none⟩ : Addr).add j = ⟨b, j, none⟩ := fun b j => by unfold Addr.add; split <;> simp_all
        have j0 : (0 : Int) ≤ (t : Int) := by omega
        have j1 : (t : Int) < 64 := by omega
        have hne : w5.heap.size + 1 ≠ w5.heap.size := by omega
        unfold bv at c1 c2
        have HA1 := Lib.hid ha1
        have HA2 := Lib.hid ha2
        have HZ5 := Lib.hid hz
        have HB5 := Lib.hid hbel
        have HS1 := Lib.hid s1
        have HS2 := Lib.hid s2
        clear ha1 ha2 hz hbel s1 s2
        go_wp2_with fail
        rw [xor36, xor5c]
        refine ⟨⟨t + 1, by omega, by go_num, ?_, ?_, ?_, ?_⟩, by simp [intOf]; omega⟩
        · rw [← HS1.out]
          exact (HA1.out.set t _).move (heap_setCell_other _ _ _ _ (by simp))
        · rw [← HS2.out]
          exact BArr.set (HA2.out.move (heap_setCell_other _ _ _ _ (by simp))) t _
        · exact (heap_setCell_other _ _ _ _ (by simp; omega)).trans ((heap_setCell_other _ _ _ _ (by simp; omega)).trans HZ5.out)
        · exact below_set (below_set HB5.out _ _ _ (by omega)) _ _ _ (by omega)
      · obtain rfl : t = 64 := by omega
        have m1 := mapTo_all (· ^^^ 54) p
        have m2 := mapTo_all (· ^^^ 92) p
        rw [HPL.out] at m1 m2
        rw [m1] at ha1
        rw [m2] at ha2
        rw [show ((64 : Nat) : Int) = 64 from rfl]
        have li : (p.map (· ^^^ 54)).length = 64 := by rw [List.length_map, HPL.out]
        have lo : (p.map (· ^^^ 92)).length = 64 := by rw [List.length_map, HPL.out]
        generalize hip : p.map (· ^^^ 54) = ip at *
        generalize hop : p.map (· ^^^ 92) = op at *
        have hq1 : w.heap.size < wr.heap.size := (Array.getElem?_eq_some_iff.1 hz).1
        have hq2 : w5.heap.size + 1 < wr.heap.size := ha2.lt
        have hcc := concat_any ((wr.alloc (.cells #[.slice (some ⟨w5.heap.size, 0, none⟩) 64 64] 22 (0, 0))).alloc (.cells #[.slice (some ⟨wr.heap.size, 0, none⟩) 1 1, .slice PA ps.length pc] 88 (0, 0)))
          (some ⟨wr.heap.size + 1, 0, none⟩) 2 [.slice (some ⟨wr.heap.size, 0, none⟩) 1 1, .slice PA ps.length pc] [[.slice (some ⟨w5.heap.size, 0, none⟩) 64 64], vs]
          (by
            have := RdC.new (wr.alloc (.cells #[.slice (some ⟨w5.heap.size, 0, none⟩) 64 64] 22 (0, 0))) #[.slice (some ⟨wr.heap.size, 0, none⟩) 1 1, .slice PA ps.length pc] 88
            simp only [size_alloc1] at this
            exact this.mono (fun k hk => by simp; omega))
          (slices_two
            ((RdC.new wr #[.slice (some ⟨w5.heap.size, 0, none⟩) 64 64] 22).move (fun k hk => heap_alloc_old _ _ (by simp; omega)) |>.mono (fun k hk => by simp; omega))
            (HP.out.toBelow ((hbel.alloc (by omega) _).alloc (by simp; omega) _) (by simp; omega)) HV.out.1.symm (by omega) HV.out.one)
          (by simp) (by simp [HV.out.1]; omega)
        have hRo2 : RoundAt wr := HRo.out.below hbel HRo.out.lt
        have HCC := Lib.hid hcc
        have HA1 := Lib.hid ha1
        have HA2 := Lib.hid ha2
        have HZ5 := Lib.hid hz
        have HB5 := Lib.hid hbel
        have HIp := Lib.hid hip
        have HOp := Lib.hid hop
        have HLi := Lib.hid li
        have HLo := Lib.hid lo
        have HRo2 := Lib.hid hRo2
        clear ha1 ha2 hz hbel m1 m2 hip hop li lo hcc hRo2
        go_wp2_with fail
        refine HCC.out.mono ?_
        rintro e w6 ⟨v6, rfl, hown6, hb6⟩
        have hflat : [[Value.slice (some ⟨w5.heap.size, 0, none⟩) 64 64], vs].flatten = Value.slice (some ⟨w5.heap.size, 0, none⟩) 64 64 :: vs := by simp
        have hN : [[Value.slice (some ⟨w5.heap.size, 0, none⟩) 64 64], vs].flatten.length = ps.length + 1 := by rw [hflat, List.length_cons, HV.out.1]
        rw [hN, hflat] at hown6
        obtain ⟨A6, c6, rfl, hc6, _⟩ := own_slice hown6
        have hb7 : Below wr.heap.size wr w6 := (((Below.refl _ _).alloc (Nat.le_refl _) _).alloc (by simp) _).trans (hb6.mono (by simp; omega))
        have hb9 : Below w.heap.size w w6 := HB5.out.trans (hb7.mono (by omega))
        have hw6 : wr.heap.size ≤ w6.heap.size := hb7.size
        have hr6 : RowsOf (· < w6.heap.size) w6 (Value.slice (some ⟨w5.heap.size, 0, none⟩) 64 64 :: vs) (ip :: ps) := by
          have := RowsOf.cons (c := 64) (HV.out.toBelow hb9 (by omega)) ((HA1.out.move (hb7.block _ (by omega))).reads.mono (ok' := (· < w6.heap.size)) (fun k hk => by omega)) (by rw [HLi.out]; omega)
          rw [HLi.out] at this
          exact this
        have hdg := digest_any w6 A6 c6 _ (ip :: ps) (HRo2.out.below hb7 HRo2.out.lt) ((RdC.of_own hown6).mono fun k hk => hk.2) hr6 (by rw [List.length_cons]; omega) (by rw [List.flatten_cons, List.length_append, HLi.out]; omega)
        rw [List.length_cons, List.flatten_cons] at hdg
        have ha2' := HA2.out.move (hb7.block _ (by omega))
        have hz6 := (hb7.block _ hq1).trans HZ5.out
        have HA22 := Lib.hid ha2'
        have HZ6 := Lib.hid hz6
        have HB9 := Lib.hid hb9
        have HDg := Lib.hid hdg
        have HRo3 := Lib.hid (HRo2.out.below hb7 HRo2.out.lt)
        clear hown6 hb6 hflat hN hb7 hb9 hr6 hdg ha2' hz6
        go_wp2_with fail
        refine HDg.out.mono ?_
        rintro e w7 ⟨rfl, hb10⟩
        have hdl := sha_length (ip ++ ps.flatten)
        generalize hd : sha (ip ++ ps.flatten) = d at *
        have hi32 : (Tryd.prog.info? 81).map (·.size) = some ((bvs d).toArray).size := by rw [info32]; simp [hdl]
        have hb11 : Below w.heap.size w w7 := HB9.out.trans (hb10.mono (by omega))
        have hw7 : w6.heap.size ≤ w7.heap.size := hb10.size
        have ha3 := HA22.out.move (hb10.block _ (by omega))
        have hz7 := (hb10.block _ (by omega)).trans HZ6.out
        have hr7 := HRo3.out.below hb10 HRo3.out.lt
        have HD := Lib.hid hd
        have HDl := Lib.hid hdl
        have HI32 := Lib.hid hi32
        have HB11 := Lib.hid hb11
        have HA3 := Lib.hid ha3
        have HZ7 := Lib.hid hz7
        have HR7 := Lib.hid hr7
        clear hd hdl hi32 hb10 hb11 ha3 hz7 hr7
        go_wp2_with (with_reducible refine wpList_store_new (op := ⟨none, .store 81 (.tmp 10) _, _, _, _, _⟩) rfl 81 _ _ rfl _ (bvs d).toArray _ rfl rfl (by simp; exact HDl.out.symm) HI32.out (by simpa using bv_one d) ?_)
        refine region_tail 2 (by kernel_rfl) (by kernel_rfl) ?_
        simp only [List.take_succ_cons, List.take_zero, List.drop_succ_cons, List.drop_zero]
        repeat still_step
        refine wpStill_nil ?_
        have hbA : Below w7.heap.size w7 ((w7.alloc (.cells (bvs d).toArray 81 (0, 0))).alloc (.cells #[.slice (some ⟨w5.heap.size + 1, 0, none⟩) 64 64, .slice (some ⟨w7.heap.size, 0, none⟩) 32 32] 22 (0, 0))).drew := (((Below.refl _ _).alloc (Nat.le_refl _) _).alloc (by simp) _).drew
        have hdB : BArr ((w7.alloc (.cells (bvs d).toArray 81 (0, 0))).alloc (.cells #[.slice (some ⟨w5.heap.size + 1, 0, none⟩) 64 64, .slice (some ⟨w7.heap.size, 0, none⟩) 32 32] 22 (0, 0))).drew w7.heap.size 81 d := (heap_alloc_old _ _ (by simp)).trans (heap_alloc_new _ _)
        have hlo : w5.heap.size + 1 < w7.heap.size := HA3.out.lt
        have hrw : RowsOf (· < ((w7.alloc (.cells (bvs d).toArray 81 (0, 0))).alloc (.cells #[.slice (some ⟨w5.heap.size + 1, 0, none⟩) 64 64, .slice (some ⟨w7.heap.size, 0, none⟩) 32 32] 22 (0, 0))).drew.heap.size) ((w7.alloc (.cells (bvs d).toArray 81 (0, 0))).alloc (.cells #[.slice (some ⟨w5.heap.size + 1, 0, none⟩) 64 64, .slice (some ⟨w7.heap.size, 0, none⟩) 32 32] 22 (0, 0))).drew
            [.slice (some ⟨w5.heap.size + 1, 0, none⟩) 64 64, .slice (some ⟨w7.heap.size, 0, none⟩) 32 32] [op, d] := by
          have h1 := RowsOf.cons (c := 32) (RowsOf.nil _ _) (hdB.reads.mono (ok' := (· < ((w7.alloc (.cells (bvs d).toArray 81 (0, 0))).alloc (.cells #[.slice (some ⟨w5.heap.size + 1, 0, none⟩) 64 64, .slice (some ⟨w7.heap.size, 0, none⟩) 32 32] 22 (0, 0))).drew.heap.size)) (fun k hk => by simp; omega)) (by rw [HDl.out]; omega)
          have h2 := RowsOf.cons (c := 64) h1 ((HA3.out.move (hbA.block _ hlo)).reads.mono (fun k hk => by simp; omega)) (by rw [HLo.out]; omega)
          rw [HLo.out, HDl.out] at h2
          exact h2
        have hfin : sha ([op, d] : List Bs).flatten = keyed key ps.flatten := by
          unfold keyed
          simp only [HPP.out, HIp.out, HOp.out, HD.out]
          simp
        have hdg2 := digest_any ((w7.alloc (.cells (bvs d).toArray 81 (0, 0))).alloc (.cells #[.slice (some ⟨w5.heap.size + 1, 0, none⟩) 64 64, .slice (some ⟨w7.heap.size, 0, none⟩) 32 32] 22 (0, 0))).drew (some ⟨w7.heap.size + 1, 0, none⟩) 2 _ [op, d] (HR7.out.below hbA HR7.out.lt)
          (by
            have := RdC.new (w7.alloc (.cells (bvs d).toArray 81 (0, 0))) #[.slice (some ⟨w5.heap.size + 1, 0, none⟩) 64 64, .slice (some ⟨w7.heap.size, 0, none⟩) 32 32] 22
            simp only [size_alloc1] at this
            exact (this.move (w' := ((w7.alloc (.cells (bvs d).toArray 81 (0, 0))).alloc (.cells #[.slice (some ⟨w5.heap.size + 1, 0, none⟩) 64 64, .slice (some ⟨w7.heap.size, 0, none⟩) 32 32] 22 (0, 0))).drew) (fun _ _ => rfl)).mono (fun k hk => by simp; omega))
          hrw (by simp) (by simp [HLo.out, HDl.out])
        have HDg2 := Lib.hid hdg2
        have HBA := Lib.hid hbA
        have HFin := Lib.hid hfin
        clear hdg2 hbA hdB hrw hfin
        go_wp2_with fail
        refine HDg2.out.mono ?_
        rintro e w8 ⟨rfl, hb12⟩
        have hb13 : Below w7.heap.size w7 w8 := HBA.out.trans (hb12.mono (by simp; omega))
        have hz8 : w8.heap[w.heap.size]? = some Z := (hb13.block _ (by omega)).trans HZ7.out
        rw [← HZe.out] at hz8
        rw [HFin.out]
        have hkl2 : (keyed key ps.flatten).length = 32 := by unfold keyed; exact sha_length _
        generalize hF : keyed key ps.flatten = F at *
        have hi32 : (Tryd.prog.info? 81).map (·.size) = some ((bvs F).toArray).size := by rw [info32]; simp [hkl2]
        have hnew := setRow_heap w8 w.heap.size _ (bvs F).toArray _ _ hz8
        have hbn : Below w.heap.size w (w8.setRow w.heap.size (bvs F).toArray) := below_setRow (HB11.out.trans (hb13.mono (by omega))) (Nat.le_refl _) _
        have HF := Lib.hid hF
        have HKl := Lib.hid hkl2
        have HI := Lib.hid hi32
        have HZ8 := Lib.hid hz8
        have HNew := Lib.hid hnew
        have HBn := Lib.hid hbn
        clear hF hkl2 hi32 hz8 hnew hbn hb12 hb13
        go_wp2_with (with_reducible refine wpList_store_all (op := ⟨none, .store 81 _ _, _, _, _, _⟩) rfl 81 _ _ rfl w.heap.size _ (bvs F).toArray _ rfl rfl HZ8.out (by simp; exact HKl.out.symm) HI.out (by simpa using bv_one F) ?_)
        refine bodyPost_ret (v := .agg (bvs F).toArray) (results_cell_row rfl _ _ w.heap.size _ _ _ _ rfl HNew.out Tryd.underlying81 rfl HI.out) rfl ⟨by rw [HF.out], HBn.out⟩

  · have t1 : ¬ (64 : Int) < (key.length : Int) := by omega
    have hpad : key ++ zeros64.drop key.length = pad64 key := by
      unfold pad64
      simp only [if_neg h64, zeros64_drop]
    have HPad := Lib.hid hpad
    have b4 : BArr ((w.alloc (Obj.cells #[Value.int .u8 0, Value.int .u8 0, Value.int .u8 0, Value.int .u8 0, Value.int .u8 0, Value.int .u8 0, Value.int .u8 0, Value.int .u8 0, Value.int .u8 0, Value.int .u8 0, Value.int .u8 0, Value.int .u8 0, Value.int .u8 0, Value.int .u8 0, Value.int .u8 0, Value.int .u8 0, Value.int .u8 0, Value.int .u8 0, Value.int .u8 0, Value.int .u8 0, Value.int .u8 0, Value.int .u8 0, Value.int .u8 0, Value.int .u8 0, Value.int .u8 0, Value.int .u8 0, Value.int .u8 0, Value.int .u8 0, Value.int .u8 0, Value.int .u8 0, Value.int .u8 0, Value.int .u8 0] 81 (0, 0))).alloc (Obj.cells #[Value.int .u8 0, Value.int .u8 0, Value.int .u8 0, Value.int .u8 0, Value.int .u8 0, Value.int .u8 0, Value.int .u8 0, Value.int .u8 0, Value.int .u8 0, Value.int .u8 0, Value.int .u8 0, Value.int .u8 0, Value.int .u8 0, Value.int .u8 0, Value.int .u8 0, Value.int .u8 0, Value.int .u8 0, Value.int .u8 0, Value.int .u8 0, Value.int .u8 0, Value.int .u8 0, Value.int .u8 0, Value.int .u8 0, Value.int .u8 0, Value.int .u8 0, Value.int .u8 0, Value.int .u8 0, Value.int .u8 0, Value.int .u8 0, Value.int .u8 0, Value.int .u8 0, Value.int .u8 0, Value.int .u8 0, Value.int .u8 0, Value.int .u8 0, Value.int .u8 0, Value.int .u8 0, Value.int .u8 0, Value.int .u8 0, Value.int .u8 0, Value.int .u8 0, Value.int .u8 0, Value.int .u8 0, Value.int .u8 0, Value.int .u8 0, Value.int .u8 0, Value.int .u8 0, Value.int .u8 0, Value.int .u8 0, Value.int .u8 0, Value.int .u8 0, Value.int .u8 0, Value.int .u8 0, Value.int .u8 0, Value.int .u8 0, Value.int .u8 0, Value.int .u8 0, Value.int .u8 0, Value.int .u8 0, Value.int .u8 0, Value.int .u8 0, Value.int .u8 0, Value.int .u8 0, Value.int .u8 0] 89 (0, 0))) (w.heap.size + 1) 89 zeros64 := heap_alloc2_new _ _ _
    obtain ⟨Z, hZ, z4⟩ : ∃ Z, Obj.cells #[Value.int .u8 0, Value.int .u8 0, Value.int .u8 0, Value.int .u8 0, Value.int .u8 0, Value.int .u8 0, Value.int .u8 0, Value.int .u8 0, Value.int .u8 0, Value.int .u8 0, Value.int .u8 0, Value.int .u8 0, Value.int .u8 0, Value.int .u8 0, Value.int .u8 0, Value.int .u8 0, Value.int .u8 0, Value.int .u8 0, Value.int .u8 0, Value.int .u8 0, Value.int .u8 0, Value.int .u8 0, Value.int .u8 0, Value.int .u8 0, Value.int .u8 0, Value.int .u8 0, Value.int .u8 0, Value.int .u8 0, Value.int .u8 0, Value.int .u8 0, Value.int .u8 0, Value.int .u8 0] 81 (0, 0) = Z ∧ ((w.alloc (Obj.cells #[Value.int .u8 0, Value.int .u8 0, Value.int .u8 0, Value.int .u8 0, Value.int .u8 0, Value.int .u8 0, Value.int .u8 0, Value.int .u8 0, Value.int .u8 0, Value.int .u8 0, Value.int .u8 0, Value.int .u8 0, Value.int .u8 0, Value.int .u8 0, Value.int .u8 0, Value.int .u8 0, Value.int .u8 0, Value.int .u8 0, Value.int .u8 0, Value.int .u8 0, Value.int .u8 0, Value.int .u8 0, Value.int .u8 0, Value.int .u8 0, Value.int .u8 0, Value.int .u8 0, Value.int .u8 0, Value.int .u8 0, Value.int .u8 0, Value.int .u8 0, Value.int .u8 0, Value.int .u8 0] 81 (0, 0))).alloc (Obj.cells #[Value.int .u8 0, Value.int .u8 0, Value.int .u8 0, Value.int .u8 0, Value.int .u8 0, Value.int .u8 0, Value.int .u8 0, Value.int .u8 0, Value.int .u8 0, Value.int .u8 0, Value.int .u8 0, Value.int .u8 0, Value.int .u8 0, Value.int .u8 0, Value.int .u8 0, Value.int .u8 0, Value.int .u8 0, Value.int .u8 0, Value.int .u8 0, Value.int .u8 0, Value.int .u8 0, Value.int .u8 0, Value.int .u8 0, Value.int .u8 0, Value.int .u8 0, Value.int .u8 0, Value.int .u8 0, Value.int .u8 0, Value.int .u8 0, Value.int .u8 0, Value.int .u8 0, Value.int .u8 0, Value.int .u8 0, Value.int .u8 0, Value.int .u8 0, Value.int .u8 0, Value.int .u8 0, Value.int .u8 0, Value.int .u8 0, Value.int .u8 0, Value.int .u8 0, Value.int .u8 0, Value.int .u8 0, Value.int .u8 0, Value.int .u8 0, Value.int .u8 0, Value.int .u8 0, Value.int .u8 0, Value.int .u8 0, Value.int .u8 0, Value.int .u8 0, Value.int .u8 0, Value.int .u8 0, Value.int .u8 0, Value.int .u8 0, Value.int .u8 0, Value.int .u8 0, Value.int .u8 0, Value.int .u8 0, Value.int .u8 0, Value.int .u8 0, Value.int .u8 0, Value.int .u8 0, Value.int .u8 0] 89 (0, 0))).heap[w.heap.size]? = some Z := ⟨_, rfl, heap_alloc2_old _ _ _⟩
    have bl4 : Below w.heap.size w ((w.alloc (Obj.cells #[Value.int .u8 0, Value.int .u8 0, Value.int .u8 0, Value.int .u8 0, Value.int .u8 0, Value.int .u8 0, Value.int .u8 0, Value.int .u8 0, Value.int .u8 0, Value.int .u8 0, Value.int .u8 0, Value.int .u8 0, Value.int .u8 0, Value.int .u8 0, Value.int .u8 0, Value.int .u8 0, Value.int .u8 0, Value.int .u8 0, Value.int .u8 0, Value.int .u8 0, Value.int .u8 0, Value.int .u8 0, Value.int .u8 0, Value.int .u8 0, Value.int .u8 0, Value.int .u8 0, Value.int .u8 0, Value.int .u8 0, Value.int .u8 0, Value.int .u8 0, Value.int .u8 0, Value.int .u8 0] 81 (0, 0))).alloc (Obj.cells #[Value.int .u8 0, Value.int .u8 0, Value.int .u8 0, Value.int .u8 0, Value.int .u8 0, Value.int .u8 0, Value.int .u8 0, Value.int .u8 0, Value.int .u8 0, Value.int .u8 0, Value.int .u8 0, Value.int .u8 0, Value.int .u8 0, Value.int .u8 0, Value.int .u8 0, Value.int .u8 0, Value.int .u8 0, Value.int .u8 0, Value.int .u8 0, Value.int .u8 0, Value.int .u8 0, Value.int .u8 0, Value.int .u8 0, Value.int .u8 0, Value.int .u8 0, Value.int .u8 0, Value.int .u8 0, Value.int .u8 0, Value.int .u8 0, Value.int .u8 0, Value.int .u8 0, Value.int .u8 0, Value.int .u8 0, Value.int .u8 0, Value.int .u8 0, Value.int .u8 0, Value.int .u8 0, Value.int .u8 0, Value.int .u8 0, Value.int .u8 0, Value.int .u8 0, Value.int .u8 0, Value.int .u8 0, Value.int .u8 0, Value.int .u8 0, Value.int .u8 0, Value.int .u8 0, Value.int .u8 0, Value.int .u8 0, Value.int .u8 0, Value.int .u8 0, Value.int .u8 0, Value.int .u8 0, Value.int .u8 0, Value.int .u8 0, Value.int .u8 0, Value.int .u8 0, Value.int .u8 0, Value.int .u8 0, Value.int .u8 0, Value.int .u8 0, Value.int .u8 0, Value.int .u8 0, Value.int .u8 0] 89 (0, 0))) := ((Below.refl _ _).alloc (Nat.le_refl _) _).alloc (by simp) _
    have HZe := Lib.hid hZ
    have HA4 := Lib.hid b4
    have HZ4 := Lib.hid z4
    have HB4 := Lib.hid bl4
    clear hpad b4 z4 bl4 hZ
    go_enter Tryd.func44, Tryd.ntmps44
    go_wp2_with (refine copy_front (o := ⟨some 20, _, _, _, _, _⟩) rfl _ _ 22 5 89 rfl Tryd.underlying22 (by kernel_rfl) (w.heap.size + 1) 64 kc 64 key.length K (· < w.heap.size) zeros64 key zeros64_length rfl rfl rfl HA4.out (HK.out.below HB4.out) (by rw [zeros64_length]; omega) ?_)
    intro w5 hp5 hb5 ho5
    have hpl : (pad64 key).length = 64 := pad64_length key
    rw [HPad.out] at hp5
    have hz5 : w5.heap[w.heap.size]? = some Z := (ho5 _ (by omega)).trans HZ4.out
    have hbw5 : Below w.heap.size w w5 := hb5 _ _ (by omega) HB4.out
    have hs5 : w.heap.size + 1 < w5.heap.size := hp5.lt
    generalize hpp : pad64 key = p at *
    have HPP := Lib.hid hpp
    have HPL := Lib.hid hpl
    have HI64 := Lib.hid (show (Tryd.prog.info? 89).map (·.size) = some ((bvs p).toArray).size by rw [info64]; simp [hpl])
    have HO1 := Lib.hid (bv_one p)
    have h7 : ((w5.alloc (Obj.cells #[Value.int .u8 0, Value.int .u8 0, Value.int .u8 0, Value.int .u8 0, Value.int .u8 0, Value.int .u8 0, Value.int .u8 0, Value.int .u8 0, Value.int .u8 0, Value.int .u8 0, Value.int .u8 0, Value.int .u8 0, Value.int .u8 0, Value.int .u8 0, Value.int .u8 0, Value.int .u8 0, Value.int .u8 0, Value.int .u8 0, Value.int .u8 0, Value.int .u8 0, Value.int .u8 0, Value.int .u8 0, Value.int .u8 0, Value.int .u8 0, Value.int .u8 0, Value.int .u8 0, Value.int .u8 0, Value.int .u8 0, Value.int .u8 0, Value.int .u8 0, Value.int .u8 0, Value.int .u8 0, Value.int .u8 0, Value.int .u8 0, Value.int .u8 0, Value.int .u8 0, Value.int .u8 0, Value.int .u8 0, Value.int .u8 0, Value.int .u8 0, Value.int .u8 0, Value.int .u8 0, Value.int .u8 0, Value.int .u8 0, Value.int .u8 0, Value.int .u8 0, Value.int .u8 0, Value.int .u8 0, Value.int .u8 0, Value.int .u8 0, Value.int .u8 0, Value.int .u8 0, Value.int .u8 0, Value.int .u8 0, Value.int .u8 0, Value.int .u8 0, Value.int .u8 0, Value.int .u8 0, Value.int .u8 0, Value.int .u8 0, Value.int .u8 0, Value.int .u8 0, Value.int .u8 0, Value.int .u8 0] 89 (0, 0))).alloc (Obj.cells #[Value.int .u8 0, Value.int .u8 0, Value.int .u8 0, Value.int .u8 0, Value.int .u8 0, Value.int .u8 0, Value.int .u8 0, Value.int .u8 0, Value.int .u8 0, Value.int .u8 0, Value.int .u8 0, Value.int .u8 0, Value.int .u8 0, Value.int .u8 0, Value.int .u8 0, Value.int .u8 0, Value.int .u8 0, Value.int .u8 0, Value.int .u8 0, Value.int .u8 0, Value.int .u8 0, Value.int .u8 0, Value.int .u8 0, Value.int .u8 0, Value.int .u8 0, Value.int .u8 0, Value.int .u8 0, Value.int .u8 0, Value.int .u8 0, Value.int .u8 0, Value.int .u8 0, Value.int .u8 0, Value.int .u8 0, Value.int .u8 0, Value.int .u8 0, Value.int .u8 0, Value.int .u8 0, Value.int .u8 0, Value.int .u8 0, Value.int .u8 0, Value.int .u8 0, Value.int .u8 0, Value.int .u8 0, Value.int .u8 0, Value.int .u8 0, Value.int .u8 0, Value.int .u8 0, Value.int .u8 0, Value.int .u8 0, Value.int .u8 0, Value.int .u8 0, Value.int .u8 0, Value.int .u8 0, Value.int .u8 0, Value.int .u8 0, Value.int .u8 0, Value.int .u8 0, Value.int .u8 0, Value.int .u8 0, Value.int .u8 0, Value.int .u8 0, Value.int .u8 0, Value.int .u8 0, Value.int .u8 0] 89 (0, 0))).heap[w5.heap.size]? = some (Obj.cells #[Value.int .u8 0, Value.int .u8 0, Value.int .u8 0, Value.int .u8 0, Value.int .u8 0, Value.int .u8 0, Value.int .u8 0, Value.int .u8 0, Value.int .u8 0, Value.int .u8 0, Value.int .u8 0, Value.int .u8 0, Value.int .u8 0, Value.int .u8 0, Value.int .u8 0, Value.int .u8 0, Value.int .u8 0, Value.int .u8 0, Value.int .u8 0, Value.int .u8 0, Value.int .u8 0, Value.int .u8 0, Value.int .u8 0, Value.int .u8 0, Value.int .u8 0, Value.int .u8 0, Value.int .u8 0, Value.int .u8 0, Value.int .u8 0, Value.int .u8 0, Value.int .u8 0, Value.int .u8 0, Value.int .u8 0, Value.int .u8 0, Value.int .u8 0, Value.int .u8 0, Value.int .u8 0, Value.int .u8 0, Value.int .u8 0, Value.int .u8 0, Value.int .u8 0, Value.int .u8 0, Value.int .u8 0, Value.int .u8 0, Value.int .u8 0, Value.int .u8 0, Value.int .u8 0, Value.int .u8 0, Value.int .u8 0, Value.int .u8 0, Value.int .u8 0, Value.int .u8 0, Value.int .u8 0, Value.int .u8 0, Value.int .u8 0, Value.int .u8 0, Value.int .u8 0, Value.int .u8 0, Value.int .u8 0, Value.int .u8 0, Value.int .u8 0, Value.int .u8 0, Value.int .u8 0, Value.int .u8 0] 89 (0, 0)) := heap_alloc2_old _ _ _
    have h8 : (((w5.alloc (Obj.cells #[Value.int .u8 0, Value.int .u8 0, Value.int .u8 0, Value.int .u8 0, Value.int .u8 0, Value.int .u8 0, Value.int .u8 0, Value.int .u8 0, Value.int .u8 0, Value.int .u8 0, Value.int .u8 0, Value.int .u8 0, Value.int .u8 0, Value.int .u8 0, Value.int .u8 0, Value.int .u8 0, Value.int .u8 0, Value.int .u8 0, Value.int .u8 0, Value.int .u8 0, Value.int .u8 0, Value.int .u8 0, Value.int .u8 0, Value.int .u8 0, Value.int .u8 0, Value.int .u8 0, Value.int .u8 0, Value.int .u8 0, Value.int .u8 0, Value.int .u8 0, Value.int .u8 0, Value.int .u8 0, Value.int .u8 0, Value.int .u8 0, Value.int .u8 0, Value.int .u8 0, Value.int .u8 0, Value.int .u8 0, Value.int .u8 0, Value.int .u8 0, Value.int .u8 0, Value.int .u8 0, Value.int .u8 0, Value.int .u8 0, Value.int .u8 0, Value.int .u8 0, Value.int .u8 0, Value.int .u8 0, Value.int .u8 0, Value.int .u8 0, Value.int .u8 0, Value.int .u8 0, Value.int .u8 0, Value.int .u8 0, Value.int .u8 0, Value.int .u8 0, Value.int .u8 0, Value.int .u8 0, Value.int .u8 0, Value.int .u8 0, Value.int .u8 0, Value.int .u8 0, Value.int .u8 0, Value.int .u8 0] 89 (0, 0))).alloc (Obj.cells #[Value.int .u8 0, Value.int .u8 0, Value.int .u8 0, Value.int .u8 0, Value.int .u8 0, Value.int .u8 0, Value.int .u8 0, Value.int .u8 0, Value.int .u8 0, Value.int .u8 0, Value.int .u8 0, Value.int .u8 0, Value.int .u8 0, Value.int .u8 0, Value.int .u8 0, Value.int .u8 0, Value.int .u8 0, Value.int .u8 0, Value.int .u8 0, Value.int .u8 0, Value.int .u8 0, Value.int .u8 0, Value.int .u8 0, Value.int .u8 0, Value.int .u8 0, Value.int .u8 0, Value.int .u8 0, Value.int .u8 0, Value.int .u8 0, Value.int .u8 0, Value.int .u8 0, Value.int .u8 0, Value.int .u8 0, Value.int .u8 0, Value.int .u8 0, Value.int .u8 0, Value.int .u8 0, Value.int .u8 0, Value.int .u8 0, Value.int .u8 0, Value.int .u8 0, Value.int .u8 0, Value.int .u8 0, Value.int .u8 0, Value.int .u8 0, Value.int .u8 0, Value.int .u8 0, Value.int .u8 0, Value.int .u8 0, Value.int .u8 0, Value.int .u8 0, Value.int .u8 0, Value.int .u8 0, Value.int .u8 0, Value.int .u8 0, Value.int .u8 0, Value.int .u8 0, Value.int .u8 0, Value.int .u8 0, Value.int .u8 0, Value.int .u8 0, Value.int .u8 0, Value.int .u8 0, Value.int .u8 0] 89 (0, 0))).setRow w5.heap.size (bvs p).toArray).heap[w5.heap.size + 1]? = some (Obj.cells #[Value.int .u8 0, Value.int .u8 0, Value.int .u8 0, Value.int .u8 0, Value.int .u8 0, Value.int .u8 0, Value.int .u8 0, Value.int .u8 0, Value.int .u8 0, Value.int .u8 0, Value.int .u8 0, Value.int .u8 0, Value.int .u8 0, Value.int .u8 0, Value.int .u8 0, Value.int .u8 0, Value.int .u8 0, Value.int .u8 0, Value.int .u8 0, Value.int .u8 0, Value.int .u8 0, Value.int .u8 0, Value.int .u8 0, Value.int .u8 0, Value.int .u8 0, Value.int .u8 0, Value.int .u8 0, Value.int .u8 0, Value.int .u8 0, Value.int .u8 0, Value.int .u8 0, Value.int .u8 0, Value.int .u8 0, Value.int .u8 0, Value.int .u8 0, Value.int .u8 0, Value.int .u8 0, Value.int .u8 0, Value.int .u8 0, Value.int .u8 0, Value.int .u8 0, Value.int .u8 0, Value.int .u8 0, Value.int .u8 0, Value.int .u8 0, Value.int .u8 0, Value.int .u8 0, Value.int .u8 0, Value.int .u8 0, Value.int .u8 0, Value.int .u8 0, Value.int .u8 0, Value.int .u8 0, Value.int .u8 0, Value.int .u8 0, Value.int .u8 0, Value.int .u8 0, Value.int .u8 0, Value.int .u8 0, Value.int .u8 0, Value.int .u8 0, Value.int .u8 0, Value.int .u8 0, Value.int .u8 0] 89 (0, 0)) := (setRow_other _ _ _ _ (by omega)).trans (heap_alloc2_new _ _ _)
    have h9 : w5.heap[w.heap.size + 1]? = some (.cells (bvs p).toArray 89 (0, 0)) := hp5
    have hsz : (#[Value.int .u8 0, Value.int .u8 0, Value.int .u8 0, Value.int .u8 0, Value.int .u8 0, Value.int .u8 0, Value.int .u8 0, Value.int .u8 0, Value.int .u8 0, Value.int .u8 0, Value.int .u8 0, Value.int .u8 0, Value.int .u8 0, Value.int .u8 0, Value.int .u8 0, Value.int .u8 0, Value.int .u8 0, Value.int .u8 0, Value.int .u8 0, Value.int .u8 0, Value.int .u8 0, Value.int .u8 0, Value.int .u8 0, Value.int .u8 0, Value.int .u8 0, Value.int .u8 0, Value.int .u8 0, Value.int .u8 0, Value.int .u8 0, Value.int .u8 0, Value.int .u8 0, Value.int .u8 0, Value.int .u8 0, Value.int .u8 0, Value.int .u8 0, Value.int .u8 0, Value.int .u8 0, Value.int .u8 0, Value.int .u8 0, Value.int .u8 0, Value.int .u8 0, Value.int .u8 0, Value.int .u8 0, Value.int .u8 0, Value.int .u8 0, Value.int .u8 0, Value.int .u8 0, Value.int .u8 0, Value.int .u8 0, Value.int .u8 0, Value.int .u8 0, Value.int .u8 0, Value.int .u8 0, Value.int .u8 0, Value.int .u8 0, Value.int .u8 0, Value.int .u8 0, Value.int .u8 0, Value.int .u8 0, Value.int .u8 0, Value.int .u8 0, Value.int .u8 0, Value.int .u8 0, Value.int .u8 0]).size = ((bvs p).toArray).size := by simp [hpl]
    have g1 : BArr ((((w5.alloc (Obj.cells #[Value.int .u8 0, Value.int .u8 0, Value.int .u8 0, Value.int .u8 0, Value.int .u8 0, Value.int .u8 0, Value.int .u8 0, Value.int .u8 0, Value.int .u8 0, Value.int .u8 0, Value.int .u8 0, Value.int .u8 0, Value.int .u8 0, Value.int .u8 0, Value.int .u8 0, Value.int .u8 0, Value.int .u8 0, Value.int .u8 0, Value.int .u8 0, Value.int .u8 0, Value.int .u8 0, Value.int .u8 0, Value.int .u8 0, Value.int .u8 0, Value.int .u8 0, Value.int .u8 0, Value.int .u8 0, Value.int .u8 0, Value.int .u8 0, Value.int .u8 0, Value.int .u8 0, Value.int .u8 0, Value.int .u8 0, Value.int .u8 0, Value.int .u8 0, Value.int .u8 0, Value.int .u8 0, Value.int .u8 0, Value.int .u8 0, Value.int .u8 0, Value.int .u8 0, Value.int .u8 0, Value.int .u8 0, Value.int .u8 0, Value.int .u8 0, Value.int .u8 0, Value.int .u8 0, Value.int .u8 0, Value.int .u8 0, Value.int .u8 0, Value.int .u8 0, Value.int .u8 0, Value.int .u8 0, Value.int .u8 0, Value.int .u8 0, Value.int .u8 0, Value.int .u8 0, Value.int .u8 0, Value.int .u8 0, Value.int .u8 0, Value.int .u8 0, Value.int .u8 0, Value.int .u8 0, Value.int .u8 0] 89 (0, 0))).alloc (Obj.cells #[Value.int .u8 0, Value.int .u8 0, Value.int .u8 0, Value.int .u8 0, Value.int .u8 0, Value.int .u8 0, Value.int .u8 0, Value.int .u8 0, Value.int .u8 0, Value.int .u8 0, Value.int .u8 0, Value.int .u8 0, Value.int .u8 0, Value.int .u8 0, Value.int .u8 0, Value.int .u8 0, Value.int .u8 0, Value.int .u8 0, Value.int .u8 0, Value.int .u8 0, Value.int .u8 0, Value.int .u8 0, Value.int .u8 0, Value.int .u8 0, Value.int .u8 0, Value.int .u8 0, Value.int .u8 0, Value.int .u8 0, Value.int .u8 0, Value.int .u8 0, Value.int .u8 0, Value.int .u8 0, Value.int .u8 0, Value.int .u8 0, Value.int .u8 0, Value.int .u8 0, Value.int .u8 0, Value.int .u8 0, Value.int .u8 0, Value.int .u8 0, Value.int .u8 0, Value.int .u8 0, Value.int .u8 0, Value.int .u8 0, Value.int .u8 0, Value.int .u8 0, Value.int .u8 0, Value.int .u8 0, Value.int .u8 0, Value.int .u8 0, Value.int .u8 0, Value.int .u8 0, Value.int .u8 0, Value.int .u8 0, Value.int .u8 0, Value.int .u8 0, Value.int .u8 0, Value.int .u8 0, Value.int .u8 0, Value.int .u8 0, Value.int .u8 0, Value.int .u8 0, Value.int .u8 0, Value.int .u8 0] 89 (0, 0))).setRow w5.heap.size (bvs p).toArray).setRow (w5.heap.size + 1) (bvs p).toArray) w5.heap.size 89 p := (setRow_other _ _ _ _ (by omega)).trans (setRow_heap _ _ _ _ _ _ h7)
    have g2 : BArr ((((w5.alloc (Obj.cells #[Value.int .u8 0, Value.int .u8 0, Value.int .u8 0, Value.int .u8 0, Value.int .u8 0, Value.int .u8 0, Value.int .u8 0, Value.int .u8 0, Value.int .u8 0, Value.int .u8 0, Value.int .u8 0, Value.int .u8 0, Value.int .u8 0, Value.int .u8 0, Value.int .u8 0, Value.int .u8 0, Value.int .u8 0, Value.int .u8 0, Value.int .u8 0, Value.int .u8 0, Value.int .u8 0, Value.int .u8 0, Value.int .u8 0, Value.int .u8 0, Value.int .u8 0, Value.int .u8 0, Value.int .u8 0, Value.int .u8 0, Value.int .u8 0, Value.int .u8 0, Value.int .u8 0, Value.int .u8 0, Value.int .u8 0, Value.int .u8 0, Value.int .u8 0, Value.int .u8 0, Value.int .u8 0, Value.int .u8 0, Value.int .u8 0, Value.int .u8 0, Value.int .u8 0, Value.int .u8 0, Value.int .u8 0, Value.int .u8 0, Value.int .u8 0, Value.int .u8 0, Value.int .u8 0, Value.int .u8 0, Value.int .u8 0, Value.int .u8 0, Value.int .u8 0, Value.int .u8 0, Value.int .u8 0, Value.int .u8 0, Value.int .u8 0, Value.int .u8 0, Value.int .u8 0, Value.int .u8 0, Value.int .u8 0, Value.int .u8 0, Value.int .u8 0, Value.int .u8 0, Value.int .u8 0, Value.int .u8 0] 89 (0, 0))).alloc (Obj.cells #[Value.int .u8 0, Value.int .u8 0, Value.int .u8 0, Value.int .u8 0, Value.int .u8 0, Value.int .u8 0, Value.int .u8 0, Value.int .u8 0, Value.int .u8 0, Value.int .u8 0, Value.int .u8 0, Value.int .u8 0, Value.int .u8 0, Value.int .u8 0, Value.int .u8 0, Value.int .u8 0, Value.int .u8 0, Value.int .u8 0, Value.int .u8 0, Value.int .u8 0, Value.int .u8 0, Value.int .u8 0, Value.int .u8 0, Value.int .u8 0, Value.int .u8 0, Value.int .u8 0, Value.int .u8 0, Value.int .u8 0, Value.int .u8 0, Value.int .u8 0, Value.int .u8 0, Value.int .u8 0, Value.int .u8 0, Value.int .u8 0, Value.int .u8 0, Value.int .u8 0, Value.int .u8 0, Value.int .u8 0, Value.int .u8 0, Value.int .u8 0, Value.int .u8 0, Value.int .u8 0, Value.int .u8 0, Value.int .u8 0, Value.int .u8 0, Value.int .u8 0, Value.int .u8 0, Value.int .u8 0, Value.int .u8 0, Value.int .u8 0, Value.int .u8 0, Value.int .u8 0, Value.int .u8 0, Value.int .u8 0, Value.int .u8 0, Value.int .u8 0, Value.int .u8 0, Value.int .u8 0, Value.int .u8 0, Value.int .u8 0, Value.int .u8 0, Value.int .u8 0, Value.int .u8 0, Value.int .u8 0] 89 (0, 0))).setRow w5.heap.size (bvs p).toArray).setRow (w5.heap.size + 1) (bvs p).toArray) (w5.heap.size + 1) 89 p := setRow_heap _ _ _ _ _ _ h8
    have g3 : ((((w5.alloc (Obj.cells #[Value.int .u8 0, Value.int .u8 0, Value.int .u8 0, Value.int .u8 0, Value.int .u8 0, Value.int .u8 0, Value.int .u8 0, Value.int .u8 0, Value.int .u8 0, Value.int .u8 0, Value.int .u8 0, Value.int .u8 0, Value.int .u8 0, Value.int .u8 0, Value.int .u8 0, Value.int .u8 0, Value.int .u8 0, Value.int .u8 0, Value.int .u8 0, Value.int .u8 0, Value.int .u8 0, Value.int .u8 0, Value.int .u8 0, Value.int .u8 0, Value.int .u8 0, Value.int .u8 0, Value.int .u8 0, Value.int .u8 0, Value.int .u8 0, Value.int .u8 0, Value.int .u8 0, Value.int .u8 0, Value.int .u8 0, Value.int .u8 0, Value.int .u8 0, Value.int .u8 0, Value.int .u8 0, Value.int .u8 0, Value.int .u8 0, Value.int .u8 0, Value.int .u8 0, Value.int .u8 0, Value.int .u8 0, Value.int .u8 0, Value.int .u8 0, Value.int .u8 0, Value.int .u8 0, Value.int .u8 0, Value.int .u8 0, Value.int .u8 0, Value.int .u8 0, Value.int .u8 0, Value.int .u8 0, Value.int .u8 0, Value.int .u8 0, Value.int .u8 0, Value.int .u8 0, Value.int .u8 0, Value.int .u8 0, Value.int .u8 0, Value.int .u8 0, Value.int .u8 0, Value.int .u8 0, Value.int .u8 0] 89 (0, 0))).alloc (Obj.cells #[Value.int .u8 0, Value.int .u8 0, Value.int .u8 0, Value.int .u8 0, Value.int .u8 0, Value.int .u8 0, Value.int .u8 0, Value.int .u8 0, Value.int .u8 0, Value.int .u8 0, Value.int .u8 0, Value.int .u8 0, Value.int .u8 0, Value.int .u8 0, Value.int .u8 0, Value.int .u8 0, Value.int .u8 0, Value.int .u8 0, Value.int .u8 0, Value.int .u8 0, Value.int .u8 0, Value.int .u8 0, Value.int .u8 0, Value.int .u8 0, Value.int .u8 0, Value.int .u8 0, Value.int .u8 0, Value.int .u8 0, Value.int .u8 0, Value.int .u8 0, Value.int .u8 0, Value.int .u8 0, Value.int .u8 0, Value.int .u8 0, Value.int .u8 0, Value.int .u8 0, Value.int .u8 0, Value.int .u8 0, Value.int .u8 0, Value.int .u8 0, Value.int .u8 0, Value.int .u8 0, Value.int .u8 0, Value.int .u8 0, Value.int .u8 0, Value.int .u8 0, Value.int .u8 0, Value.int .u8 0, Value.int .u8 0, Value.int .u8 0, Value.int .u8 0, Value.int .u8 0, Value.int .u8 0, Value.int .u8 0, Value.int .u8 0, Value.int .u8 0, Value.int .u8 0, Value.int .u8 0, Value.int .u8 0, Value.int .u8 0, Value.int .u8 0, Value.int .u8 0, Value.int .u8 0, Value.int .u8 0] 89 (0, 0))).setRow w5.heap.size (bvs p).toArray).setRow (w5.heap.size + 1) (bvs p).toArray).heap[w.heap.size]? = some Z := (setRow_other _ _ _ _ (by omega)).trans ((setRow_other _ _ _ _ (by omega)).trans ((heap_alloc_old _ _ (by simp; omega)).trans ((heap_alloc_old _ _ (by omega)).trans hz5)))
    have g4 : Below w.heap.size w ((((w5.alloc (Obj.cells #[Value.int .u8 0, Value.int .u8 0, Value.int .u8 0, Value.int .u8 0, Value.int .u8 0, Value.int .u8 0, Value.int .u8 0, Value.int .u8 0, Value.int .u8 0, Value.int .u8 0, Value.int .u8 0, Value.int .u8 0, Value.int .u8 0, Value.int .u8 0, Value.int .u8 0, Value.int .u8 0, Value.int .u8 0, Value.int .u8 0, Value.int .u8 0, Value.int .u8 0, Value.int .u8 0, Value.int .u8 0, Value.int .u8 0, Value.int .u8 0, Value.int .u8 0, Value.int .u8 0, Value.int .u8 0, Value.int .u8 0, Value.int .u8 0, Value.int .u8 0, Value.int .u8 0, Value.int .u8 0, Value.int .u8 0, Value.int .u8 0, Value.int .u8 0, Value.int .u8 0, Value.int .u8 0, Value.int .u8 0, Value.int .u8 0, Value.int .u8 0, Value.int .u8 0, Value.int .u8 0, Value.int .u8 0, Value.int .u8 0, Value.int .u8 0, Value.int .u8 0, Value.int .u8 0, Value.int .u8 0, Value.int .u8 0, Value.int .u8 0, Value.int .u8 0, Value.int .u8 0, Value.int .u8 0, Value.int .u8 0, Value.int .u8 0, Value.int .u8 0, Value.int .u8 0, Value.int .u8 0, Value.int .u8 0, Value.int .u8 0, Value.int .u8 0, Value.int .u8 0, Value.int .u8 0, Value.int .u8 0] 89 (0, 0))).alloc (Obj.cells #[Value.int .u8 0, Value.int .u8 0, Value.int .u8 0, Value.int .u8 0, Value.int .u8 0, Value.int .u8 0, Value.int .u8 0, Value.int .u8 0, Value.int .u8 0, Value.int .u8 0, Value.int .u8 0, Value.int .u8 0, Value.int .u8 0, Value.int .u8 0, Value.int .u8 0, Value.int .u8 0, Value.int .u8 0, Value.int .u8 0, Value.int .u8 0, Value.int .u8 0, Value.int .u8 0, Value.int .u8 0, Value.int .u8 0, Value.int .u8 0, Value.int .u8 0, Value.int .u8 0, Value.int .u8 0, Value.int .u8 0, Value.int .u8 0, Value.int .u8 0, Value.int .u8 0, Value.int .u8 0, Value.int .u8 0, Value.int .u8 0, Value.int .u8 0, Value.int .u8 0, Value.int .u8 0, Value.int .u8 0, Value.int .u8 0, Value.int .u8 0, Value.int .u8 0, Value.int .u8 0, Value.int .u8 0, Value.int .u8 0, Value.int .u8 0, Value.int .u8 0, Value.int .u8 0, Value.int .u8 0, Value.int .u8 0, Value.int .u8 0, Value.int .u8 0, Value.int .u8 0, Value.int .u8 0, Value.int .u8 0, Value.int .u8 0, Value.int .u8 0, Value.int .u8 0, Value.int .u8 0, Value.int .u8 0, Value.int .u8 0, Value.int .u8 0, Value.int .u8 0, Value.int .u8 0, Value.int .u8 0] 89 (0, 0))).setRow w5.heap.size (bvs p).toArray).setRow (w5.heap.size + 1) (bvs p).toArray) := below_setRow (below_setRow ((hbw5.alloc (by omega) _).alloc (by simp; omega) _) (by omega) _) (by omega) _
    have H7 := Lib.hid h7
    have H8 := Lib.hid h8
    have H9 := Lib.hid h9
    have HSz := Lib.hid hsz
    have G1 := Lib.hid g1
    have G2 := Lib.hid g2
    have G3 := Lib.hid g3
    have G4 := Lib.hid g4
    clear hp5 hb5 ho5 hpl hz5 hbw5 hpp h7 h8 h9 hsz g1 g2 g3 g4
    go_wp2_with (first
      | (with_reducible refine wpList_load_row (o := ⟨some 21, _, _, _, _, _⟩) rfl _ _ rfl (w.heap.size + 1) rfl _ (bvs p).toArray _ _ H9.out Tryd.underlying89 rfl HI64.out ?_)
      | (with_reducible refine wpList_load_row (o := ⟨some 22, _, _, _, _, _⟩) rfl _ _ rfl (w.heap.size + 1) rfl _ (bvs p).toArray _ _ H9.out Tryd.underlying89 rfl HI64.out ?_)
      | (with_reducible refine wpList_store_all (op := ⟨none, .store 89 (.tmp 7) _, _, _, _, _⟩) rfl 89 _ _ rfl w5.heap.size _ (bvs p).toArray _ rfl rfl H7.out HSz.out HI64.out (by simpa using HO1.out) ?_)
      | (with_reducible refine wpList_store_all (op := ⟨none, .store 89 (.tmp 8) _, _, _, _, _⟩) rfl 89 _ _ rfl (w5.heap.size + 1) _ (bvs p).toArray _ rfl rfl H8.out HSz.out HI64.out (by simpa using HO1.out) ?_))
    go_loopw [23] (fun i wq => ∃ t : Nat, t ≤ 64 ∧ i = .int .i64 t ∧ BArr wq w5.heap.size 89 (mapTo (· ^^^ 54) p t) ∧ BArr wq (w5.heap.size + 1) 89 (mapTo (· ^^^ 92) p t) ∧ wq.heap[w.heap.size]? = some Z ∧ Below w.heap.size w wq) (fun i _ => 64 - (intOf i).toNat)
    case atStart => exact ⟨0, by omega, rfl, by rw [mapTo_none]; exact G1.out, by rw [mapTo_none]; exact G2.out, G3.out, G4.out⟩
    case round =>
      obtain ⟨t, ht, rfl, ha1, ha2, hz, hbel⟩ := hrel
      by_cases h8 : t < 64
      · have htp : t < p.length := by rw [HPL.out]; exact h8
        have c1 := ha1.cell t (by rw [mapTo_length]; exact htp)
        have c2 := ha2.cell t (by rw [mapTo_length]; exact htp)
        rw [mapTo_get _ _ _ htp] at c1 c2
        have f1 := ha1.frozen t
        have f2 := ha2.frozen t
        have s1 := mapTo_set (· ^^^ 54) p t htp
        have s2 := mapTo_set (· ^^^ 92) p t htp
        generalize p.getD t 0 = x at *
        have hadd : ∀ b j, (⟨b, 0, none⟩ : Addr).add j = ⟨b, j, none⟩ := fun b j => by unfold Addr.add; split <;> simp_all
        have j0 : (0 : Int) ≤ (t : Int) := by omega
        have j1 : (t : Int) < 64 := by omega
        have hne : w5.heap.size + 1 ≠ w5.heap.size := by omega
        unfold bv at c1 c2
        have HA1 := Lib.hid ha1
        have HA2 := Lib.hid ha2
        have HZ5 := Lib.hid hz
        have HB5 := Lib.hid hbel
        have HS1 := Lib.hid s1
        have HS2 := Lib.hid s2
        clear ha1 ha2 hz hbel s1 s2
        go_wp2_with fail
        rw [xor36, xor5c]
        refine ⟨⟨t + 1, by omega, by go_num, ?_, ?_, ?_, ?_⟩, by simp [intOf]; omega⟩
        · rw [← HS1.out]
          exact (HA1.out.set t _).move (heap_setCell_other _ _ _ _ (by simp))
        · rw [← HS2.out]
          exact BArr.set (HA2.out.move (heap_setCell_other _ _ _ _ (by simp))) t _
        · exact (heap_setCell_other _ _ _ _ (by simp; omega)).trans ((heap_setCell_other _ _ _ _ (by simp; omega)).trans HZ5.out)
        · exact below_set (below_set HB5.out _ _ _ (by omega)) _ _ _ (by omega)
      · obtain rfl : t = 64 := by omega
        have m1 := mapTo_all (· ^^^ 54) p
        have m2 := mapTo_all (· ^^^ 92) p
        rw [HPL.out] at m1 m2
        rw [m1] at ha1
        rw [m2] at ha2
        rw [show ((64 : Nat) : Int) = 64 from rfl]
        have li : (p.map (· ^^^ 54)).length = 64 := by rw [List.length_map, HPL.out]
        have lo : (p.map (· ^^^ 92)).length = 64 := by rw [List.length_map, HPL.out]
        generalize hip : p.map (· ^^^ 54) = ip at *
        generalize hop : p.map (· ^^^ 92) = op at *
        have hq1 : w.heap.size < wr.heap.size := (Array.getElem?_eq_some_iff.1 hz).1
        have hq2 : w5.heap.size + 1 < wr.heap.size := ha2.lt
        have hcc := concat_any ((wr.alloc (.cells #[.slice (some ⟨w5.heap.size, 0, none⟩) 64 64] 22 (0, 0))).alloc (.cells #[.slice (some ⟨wr.heap.size, 0, none⟩) 1 1, .slice PA ps.length pc] 88 (0, 0)))
          (some ⟨wr.heap.size + 1, 0, none⟩) 2 [.slice (some ⟨wr.heap.size, 0, none⟩) 1 1, .slice PA ps.length pc] [[.slice (some ⟨w5.heap.size, 0, none⟩) 64 64], vs]
          (by
            have := RdC.new (wr.alloc (.cells #[.slice (some ⟨w5.heap.size, 0, none⟩) 64 64] 22 (0, 0))) #[.slice (some ⟨wr.heap.size, 0, none⟩) 1 1, .slice PA ps.length pc] 88
            simp only [size_alloc1] at this
            exact this.mono (fun k hk => by simp; omega))
          (slices_two
            ((RdC.new wr #[.slice (some ⟨w5.heap.size, 0, none⟩) 64 64] 22).move (fun k hk => heap_alloc_old _ _ (by simp; omega)) |>.mono (fun k hk => by simp; omega))
            (HP.out.toBelow ((hbel.alloc (by omega) _).alloc (by simp; omega) _) (by simp; omega)) HV.out.1.symm (by omega) HV.out.one)
          (by simp) (by simp [HV.out.1]; omega)
        have hRo2 : RoundAt wr := HRo.out.below hbel HRo.out.lt
        have HCC := Lib.hid hcc
        have HA1 := Lib.hid ha1
        have HA2 := Lib.hid ha2
        have HZ5 := Lib.hid hz
        have HB5 := Lib.hid hbel
        have HIp := Lib.hid hip
        have HOp := Lib.hid hop
        have HLi := Lib.hid li
        have HLo := Lib.hid lo
        have HRo2 := Lib.hid hRo2
        clear ha1 ha2 hz hbel m1 m2 hip hop li lo hcc hRo2
        go_wp2_with fail
        refine HCC.out.mono ?_
        rintro e w6 ⟨v6, rfl, hown6, hb6⟩
        have hflat : [[Value.slice (some ⟨w5.heap.size, 0, none⟩) 64 64], vs].flatten = Value.slice (some ⟨w5.heap.size, 0, none⟩) 64 64 :: vs := by simp
        have hN : [[Value.slice (some ⟨w5.heap.size, 0, none⟩) 64 64], vs].flatten.length = ps.length + 1 := by rw [hflat, List.length_cons, HV.out.1]
        rw [hN, hflat] at hown6
        obtain ⟨A6, c6, rfl, hc6, _⟩ := own_slice hown6
        have hb7 : Below wr.heap.size wr w6 := (((Below.refl _ _).alloc (Nat.le_refl _) _).alloc (by simp) _).trans (hb6.mono (by simp; omega))
        have hb9 : Below w.heap.size w w6 := HB5.out.trans (hb7.mono (by omega))
        have hw6 : wr.heap.size ≤ w6.heap.size := hb7.size
        have hr6 : RowsOf (· < w6.heap.size) w6 (Value.slice (some ⟨w5.heap.size, 0, none⟩) 64 64 :: vs) (ip :: ps) := by
          have := RowsOf.cons (c := 64) (HV.out.toBelow hb9 (by omega)) ((HA1.out.move (hb7.block _ (by omega))).reads.mono (ok' := (· < w6.heap.size)) (fun k hk => by omega)) (by rw [HLi.out]; omega)
          rw [HLi.out] at this
          exact this
        have hdg := digest_any w6 A6 c6 _ (ip :: ps) (HRo2.out.below hb7 HRo2.out.lt) ((RdC.of_own hown6).mono fun k hk => hk.2) hr6 (by rw [List.length_cons]; omega) (by rw [List.flatten_cons, List.length_append, HLi.out]; omega)
        rw [List.length_cons, List.flatten_cons] at hdg
        have ha2' := HA2.out.move (hb7.block _ (by omega))
        have hz6 := (hb7.block _ hq1).trans HZ5.out
        have HA22 := Lib.hid ha2'
        have HZ6 := Lib.hid hz6
        have HB9 := Lib.hid hb9
        have HDg := Lib.hid hdg
        have HRo3 := Lib.hid (HRo2.out.below hb7 HRo2.out.lt)
        clear hown6 hb6 hflat hN hb7 hb9 hr6 hdg ha2' hz6
        go_wp2_with fail
        refine HDg.out.mono ?_
        rintro e w7 ⟨rfl, hb10⟩
        have hdl := sha_length (ip ++ ps.flatten)
        generalize hd : sha (ip ++ ps.flatten) = d at *
        have hi32 : (Tryd.prog.info? 81).map (·.size) = some ((bvs d).toArray).size := by rw [info32]; simp [hdl]
        have hb11 : Below w.heap.size w w7 := HB9.out.trans (hb10.mono (by omega))
        have hw7 : w6.heap.size ≤ w7.heap.size := hb10.size
        have ha3 := HA22.out.move (hb10.block _ (by omega))
        have hz7 := (hb10.block _ (by omega)).trans HZ6.out
        have hr7 := HRo3.out.below hb10 HRo3.out.lt
        have HD := Lib.hid hd
        have HDl := Lib.hid hdl
        have HI32 := Lib.hid hi32
        have HB11 := Lib.hid hb11
        have HA3 := Lib.hid ha3
        have HZ7 := Lib.hid hz7
        have HR7 := Lib.hid hr7
        clear hd hdl hi32 hb10 hb11 ha3 hz7 hr7
        go_wp2_with (with_reducible refine wpList_store_new (op := ⟨none, .store 81 (.tmp 10) _, _, _, _, _⟩) rfl 81 _ _ rfl _ (bvs d).toArray _ rfl rfl (by simp; exact HDl.out.symm) HI32.out (by simpa using bv_one d) ?_)
        refine region_tail 2 (by kernel_rfl) (by kernel_rfl) ?_
        simp only [List.take_succ_cons, List.take_zero, List.drop_succ_cons, List.drop_zero]
        repeat still_step
        refine wpStill_nil ?_
        have hbA : Below w7.heap.size w7 ((w7.alloc (.cells (bvs d).toArray 81 (0, 0))).alloc (.cells #[.slice (some ⟨w5.heap.size + 1, 0, none⟩) 64 64, .slice (some ⟨w7.heap.size, 0, none⟩) 32 32] 22 (0, 0))).drew := (((Below.refl _ _).alloc (Nat.le_refl _) _).alloc (by simp) _).drew
        have hdB : BArr ((w7.alloc (.cells (bvs d).toArray 81 (0, 0))).alloc (.cells #[.slice (some ⟨w5.heap.size + 1, 0, none⟩) 64 64, .slice (some ⟨w7.heap.size, 0, none⟩) 32 32] 22 (0, 0))).drew w7.heap.size 81 d := (heap_alloc_old _ _ (by simp)).trans (heap_alloc_new _ _)
        have hlo : w5.heap.size + 1 < w7.heap.size := HA3.out.lt
        have hrw : RowsOf (· < ((w7.alloc (.cells (bvs d).toArray 81 (0, 0))).alloc (.cells #[.slice (some ⟨w5.heap.size + 1, 0, none⟩) 64 64, .slice (some ⟨w7.heap.size, 0, none⟩) 32 32] 22 (0, 0))).drew.heap.size) ((w7.alloc (.cells (bvs d).toArray 81 (0, 0))).alloc (.cells #[.slice (some ⟨w5.heap.size + 1, 0, none⟩) 64 64, .slice (some ⟨w7.heap.size, 0, none⟩) 32 32] 22 (0, 0))).drew
            [.slice (some ⟨w5.heap.size + 1, 0, none⟩) 64 64, .slice (some ⟨w7.heap.size, 0, none⟩) 32 32] [op, d] := by
          have h1 := RowsOf.cons (c := 32) (RowsOf.nil _ _) (hdB.reads.mono (ok' := (· < ((w7.alloc (.cells (bvs d).toArray 81 (0, 0))).alloc (.cells #[.slice (some ⟨w5.heap.size + 1, 0, none⟩) 64 64, .slice (some ⟨w7.heap.size, 0, none⟩) 32 32] 22 (0, 0))).drew.heap.size)) (fun k hk => by simp; omega)) (by rw [HDl.out]; omega)
          have h2 := RowsOf.cons (c := 64) h1 ((HA3.out.move (hbA.block _ hlo)).reads.mono (fun k hk => by simp; omega)) (by rw [HLo.out]; omega)
          rw [HLo.out, HDl.out] at h2
          exact h2
        have hfin : sha ([op, d] : List Bs).flatten = keyed key ps.flatten := by
          unfold keyed
          simp only [HPP.out, HIp.out, HOp.out, HD.out]
          simp
        have hdg2 := digest_any ((w7.alloc (.cells (bvs d).toArray 81 (0, 0))).alloc (.cells #[.slice (some ⟨w5.heap.size + 1, 0, none⟩) 64 64, .slice (some ⟨w7.heap.size, 0, none⟩) 32 32] 22 (0, 0))).drew (some ⟨w7.heap.size + 1, 0, none⟩) 2 _ [op, d] (HR7.out.below hbA HR7.out.lt)
          (by
            have := RdC.new (w7.alloc (.cells (bvs d).toArray 81 (0, 0))) #[.slice (some ⟨w5.heap.size + 1, 0, none⟩) 64 64, .slice (some ⟨w7.heap.size, 0, none⟩) 32 32] 22
            simp only [size_alloc1] at this
            exact (this.move (w' := ((w7.alloc (.cells (bvs d).toArray 81 (0, 0))).alloc (.cells #[.slice (some ⟨w5.heap.size + 1, 0, none⟩) 64 64, .slice (some ⟨w7.heap.size, 0, none⟩) 32 32] 22 (0, 0))).drew) (fun _ _ => rfl)).mono (fun k hk => by simp; omega))
          hrw (by simp) (by simp [HLo.out, HDl.out])
        have HDg2 := Lib.hid hdg2
        have HBA := Lib.hid hbA
        have HFin := Lib.hid hfin
        clear hdg2 hbA hdB hrw hfin
        go_wp2_with fail
        refine HDg2.out.mono ?_
        rintro e w8 ⟨rfl, hb12⟩
        have hb13 : Below w7.heap.size w7 w8 := HBA.out.trans (hb12.mono (by simp; omega))
        have hz8 : w8.heap[w.heap.size]? = some Z := (hb13.block _ (by omega)).trans HZ7.out
        rw [← HZe.out] at hz8
        rw [HFin.out]
        have hkl2 : (keyed key ps.flatten).length = 32 := by unfold keyed; exact sha_length _
        generalize hF : keyed key ps.flatten = F at *
        have hi32 : (Tryd.prog.info? 81).map (·.size) = some ((bvs F).toArray).size := by rw [info32]; simp [hkl2]
        have hnew := setRow_heap w8 w.heap.size _ (bvs F).toArray _ _ hz8
        have hbn : Below w.heap.size w (w8.setRow w.heap.size (bvs F).toArray) := below_setRow (HB11.out.trans (hb13.mono (by omega))) (Nat.le_refl _) _
        have HF := Lib.hid hF
        have HKl := Lib.hid hkl2
        have HI := Lib.hid hi32
        have HZ8 := Lib.hid hz8
        have HNew := Lib.hid hnew
        have HBn := Lib.hid hbn
        clear hF hkl2 hi32 hz8 hnew hbn hb12 hb13
        go_wp2_with (with_reducible refine wpList_store_all (op := ⟨none, .store 81 _ _, _, _, _, _⟩) rfl 81 _ _ rfl w.heap.size _ (bvs F).toArray _ rfl rfl HZ8.out (by simp; exact HKl.out.symm) HI.out (by simpa using bv_one F) ?_)
        refine bodyPost_ret (v := .agg (bvs F).toArray) (results_cell_row rfl _ _ w.heap.size _ _ _ _ rfl HNew.out Tryd.underlying81 rfl HI.out) rfl ⟨by rw [HF.out], HBn.out⟩

end Go.Proofs.YtnnokbipcenbgaaDoor
