/- Plain laws of layer 5: what is written is read back, and is written as it was; lengths; fields that aren't looked at. -/
import Derived.Test.YtipgimmgjdgdeaaDoorVp
import Derived.Test.YtipgimmgjdgdeaaDoorHs
import Derived.Test.YtipgimmgjdgdeaaDoorHd
set_option linter.unusedVariables false
set_option linter.unusedSimpArgs false
set_option linter.unnecessarySimpa false
namespace Go.Proofs.YtipgimmgjdgdeaaDoor

def noS : ByteArray := ⟨#[]⟩
structure Fr where
  kind : Int
  seq : Int
  got : Int
  stream : Int
  amount : Int
  code : Int
  who : ByteArray
  name : ByteArray
  weight : Nat
  bytes : Bs
  deriving DecidableEq
def Fr.of (k : Int) : Fr := ⟨k, 0, 0, 0, 0, 0, noS, noS, 0, []⟩
/-- A kind's fields: 0 seq, 1 got, 2 stream, 3 amount, 4 code, 5 who, 6 name, 7 weight, 8 raw. -/
def shapeF (k : Int) : List Nat :=
  if k = 1 then [5, 1, 8] else if k = 2 ∨ k = 3 then [8] else if k = 4 then [1, 8] else if k = 5 then [4] else if k = 6 then [1]
  else if k = 7 then [0, 2, 6] else if k = 8 ∨ k = 11 then [0, 2] else if k = 9 then [0, 2, 8] else if k = 10 then [0, 2, 3] else if k = 12 then [0, 2, 4]
  else if k = 13 then [0, 6, 7] else if k = 14 then [0, 6] else if k = 15 ∨ k = 16 then [0, 5, 6] else if k = 17 then [0, 4, 6] else []
def letterF (x : Nat) : UInt8 := ([113, 113, 119, 119, 98, 116, 116, 102, 114] : Bs).getD x 0
def layoutF (k : Int) : Bs := (shapeF k).map letterF
def cellF (f : Fr) : Nat → Cell
  | 0 => ⟨f.seq, 0, noS⟩
  | 1 => ⟨f.got, 0, noS⟩
  | 2 => ⟨f.stream, 0, noS⟩
  | 3 => ⟨f.amount, 0, noS⟩
  | 4 => ⟨f.code, 0, noS⟩
  | 5 => ⟨0, 0, f.who⟩
  | 6 => ⟨0, 0, f.name⟩
  | 7 => ⟨0, f.weight, noS⟩
  | _ => ⟨0, 0, ⟨f.bytes.toArray⟩⟩
def setF (o : Fr) (x : Nat) (c : Cell) : Fr := match x with
  | 0 => { o with seq := c.n }
  | 1 => { o with got := c.n }
  | 2 => { o with stream := c.n }
  | 3 => { o with amount := c.n }
  | 4 => { o with code := c.n }
  | 5 => { o with who := c.s }
  | 6 => { o with name := c.s }
  | 7 => { o with weight := c.f }
  | 8 => { o with bytes := c.s.data.toList }
  | _ => o
def withinF (n lo hi : Int) : Bool := decide (lo ≤ n ∧ n ≤ hi)
def bytesF (k n : Int) : Bool := if k = 1 then decide (n ≤ 32) else if k = 3 then decide (n = 32) else if k = 9 then withinF n 1 512 else withinF n 1 32
def goodF (f : Fr) : Nat → Bool
  | 0 => withinF f.seq 1 1099511627776
  | 1 => withinF f.got 0 1099511627776
  | 2 => withinF f.stream 1 2147483647
  | 3 => withinF f.amount 1 2147483647
  | 4 => withinF f.code 0 13
  | 5 => withinF f.who.size 1 16
  | 6 => withinF f.name.size 1 63
  | 8 => bytesF f.kind f.bytes.length
  | _ => true
/-- The fields that a list names, and no others. -/
def onlyF (f : Fr) (l : List Nat) : Fr := l.foldl (fun o x => setF o x (cellF f x)) (Fr.of f.kind)
def checkF (f : Fr) : Bool := !(shapeF f.kind).isEmpty && ((shapeF f.kind).all (goodF f) && decide (onlyF f (shapeF f.kind) = f))
def cellsF (f : Fr) : List Cell := (shapeF f.kind).map (cellF f)
def bodyF (f : Fr) : Bs := match encAll (98 :: layoutF f.kind) (⟨f.kind, 0, noS⟩ :: cellsF f) with | .ok b => b | .error _ => []
def frontF (f : Fr) : Bs := be (bodyF f).length 2 ++ bodyF f
def putF (f : Fr) : Bs := frontF f ++ (sha (frontF f)).take 4
def setAll (o : Fr) : List Nat → List Cell → Fr
  | x :: xs, c :: cs => setAll (setF o x c) xs cs
  | _, _ => o
def getF (b : Bs) : Option Fr :=
  if b.length < 7 ∨ b.length > 1024 then none
  else if (sha (b.take (b.length - 4))).take 4 ≠ b.drop (b.length - 4) ∨ num (b.take 2) ≠ b.length - 6 then none
  else match decode (layoutF (b.getD 2 0).toNat) ((b.take (b.length - 4)).drop 3) with
    | .error _ => none
    | .ok cs => if checkF (setAll (Fr.of (b.getD 2 0).toNat) (shapeF (b.getD 2 0).toNat) cs) = true then some (setAll (Fr.of (b.getD 2 0).toNat) (shapeF (b.getD 2 0).toNat) cs) else none
def rowF (k : Int) : Bool := withinF k 7 17

/-! ### Kinds -/
theorem shape_out {k : Int} (h : ¬ (1 ≤ k ∧ k ≤ 17)) : shapeF k = [] := by
  unfold shapeF
  repeat rw [if_neg (by omega)]
theorem shape_kind {k : Int} (h : shapeF k ≠ []) : 1 ≤ k ∧ k ≤ 17 := by
  by_cases hk : 1 ≤ k ∧ k ≤ 17
  · exact hk
  · exact absurd (shape_out hk) h
theorem kind_cases {k : Int} (h : 1 ≤ k ∧ k ≤ 17) : k = 1 ∨ k = 2 ∨ k = 3 ∨ k = 4 ∨ k = 5 ∨ k = 6 ∨ k = 7 ∨ k = 8 ∨ k = 9 ∨ k = 10 ∨ k = 11 ∨ k = 12 ∨ k = 13 ∨ k = 14 ∨ k = 15 ∨ k = 16 ∨ k = 17 := by omega
theorem shape_lt (k : Int) : ∀ x ∈ shapeF k, x < 9 := by
  by_cases hk : 1 ≤ k ∧ k ≤ 17
  · rcases kind_cases hk with h | h | h | h | h | h | h | h | h | h | h | h | h | h | h | h | h <;> subst h <;> decide
  · rw [shape_out hk]
    simp
theorem noS_toList : noS.data.toList = [] := rfl
theorem noS_size : noS.size = 0 := rfl
theorem toArray_data (b : Bs) : (⟨b.toArray⟩ : ByteArray).data.toList = b := by simp
theorem toArray_size (b : Bs) : (⟨b.toArray⟩ : ByteArray).size = b.length := by simp [ByteArray.size]
/-- What a field that isn't looked at holds. -/
def zeroAt (f : Fr) : Nat → Prop
  | 0 => f.seq = 0
  | 1 => f.got = 0
  | 2 => f.stream = 0
  | 3 => f.amount = 0
  | 4 => f.code = 0
  | 5 => f.who = noS
  | 6 => f.name = noS
  | 7 => f.weight = 0
  | _ => f.bytes = []
theorem only_iff (f : Fr) : onlyF f (shapeF f.kind) = f ↔ ∀ x, x < 9 → x ∉ shapeF f.kind → zeroAt f x := by
  obtain ⟨k, a, b, c, d, e, s, t, u, v⟩ := f
  simp only
  have key : (∀ x, x < 9 → x ∉ shapeF k → zeroAt ⟨k, a, b, c, d, e, s, t, u, v⟩ x) ↔
      (0 ∉ shapeF k → a = 0) ∧ (1 ∉ shapeF k → b = 0) ∧ (2 ∉ shapeF k → c = 0) ∧ (3 ∉ shapeF k → d = 0) ∧ (4 ∉ shapeF k → e = 0) ∧ (5 ∉ shapeF k → s = noS) ∧ (6 ∉ shapeF k → t = noS) ∧ (7 ∉ shapeF k → u = 0) ∧ (8 ∉ shapeF k → v = []) := by
    constructor
    · intro h
      exact ⟨h 0 (by omega), h 1 (by omega), h 2 (by omega), h 3 (by omega), h 4 (by omega), h 5 (by omega), h 6 (by omega), h 7 (by omega), h 8 (by omega)⟩
    · rintro ⟨h0, h1, h2, h3, h4, h5, h6, h7, h8⟩ x hx
      match x, hx with
      | 0, _ => exact h0
      | 1, _ => exact h1
      | 2, _ => exact h2
      | 3, _ => exact h3
      | 4, _ => exact h4
      | 5, _ => exact h5
      | 6, _ => exact h6
      | 7, _ => exact h7
      | 8, _ => exact h8
  rw [key]
  clear key
  by_cases hk : 1 ≤ k ∧ k ≤ 17
  · rcases kind_cases hk with h | h | h | h | h | h | h | h | h | h | h | h | h | h | h | h | h <;> subst h <;>
      simp [shapeF, onlyF, setF, cellF, Fr.of, eq_comm]
  · rw [shape_out hk]
    simp [onlyF, setF, cellF, Fr.of, eq_comm]
theorem check_iff (f : Fr) : checkF f = true ↔ shapeF f.kind ≠ [] ∧ (∀ x ∈ shapeF f.kind, goodF f x = true) ∧ ∀ x, x < 9 → x ∉ shapeF f.kind → zeroAt f x := by
  unfold checkF
  rw [Bool.and_eq_true, Bool.and_eq_true, decide_eq_true_eq, only_iff, List.all_eq_true]
  simp
end Go.Proofs.YtipgimmgjdgdeaaDoor
/- Layer 5 (frame) as plain Lean: frames, their form, their bytes. No program. -/
set_option linter.unusedVariables false
set_option linter.unusedSimpArgs false
set_option linter.unnecessarySimpa false
namespace Go.Proofs.YtipgimmgjdgdeaaDoor

theorem within_iff (n lo hi : Int) : withinF n lo hi = true ↔ lo ≤ n ∧ n ≤ hi := by simp [withinF]
theorem bytes_le {k n : Int} (h : bytesF k n = true) : n ≤ 512 := by
  unfold bytesF withinF at h
  split at h
  · have := of_decide_eq_true h; omega
  · split at h
    · have := of_decide_eq_true h; omega
    · split at h
      · have := of_decide_eq_true h; omega
      · have := of_decide_eq_true h; omega
/-- How many bytes a field has at most. -/
def lenF : Nat → Nat
  | 0 => 8
  | 1 => 8
  | 2 => 4
  | 3 => 4
  | 4 => 1
  | 5 => 17
  | 6 => 64
  | 7 => 8
  | _ => 514
theorem enc_int (l : UInt8) (n : Int) (hl : ¬ l = 102) (ht : isText l = false) (h0 : 0 ≤ n) (h1 : n ≤ ((256 ^ width l - 1 : Nat) : Int)) : encCell l ⟨n, 0, noS⟩ = .ok (be n.toNat (width l)) := by
  unfold encCell
  rw [if_neg hl, if_neg (by simp [ht]), if_neg (by simp only; omega)]
theorem enc_txt (l : UInt8) (s : ByteArray) (hl : ¬ l = 102) (ht : isText l = true) (h1 : s.size ≤ 256 ^ width l - 1) : encCell l ⟨0, 0, s⟩ = .ok (be s.size (width l) ++ s.data.toList) := by
  unfold encCell
  rw [if_neg hl, if_pos ht, if_neg (by simp only; omega)]
theorem good_enc (f : Fr) (x : Nat) (hx : x < 9) (hg : goodF f x = true) : ∃ b, encCell (letterF x) (cellF f x) = .ok b ∧ b.length ≤ lenF x := by
  match x, hx with
  | 0, _ =>
    have h := (within_iff _ _ _).1 hg
    exact ⟨_, enc_int 113 f.seq (by decide) (by decide) (by omega) (by rw [show (256 ^ width 113 - 1 : Nat) = 18446744073709551615 by decide]; omega), by simp only [be_length]; decide⟩
  | 1, _ =>
    have h := (within_iff _ _ _).1 hg
    exact ⟨_, enc_int 113 f.got (by decide) (by decide) (by omega) (by rw [show (256 ^ width 113 - 1 : Nat) = 18446744073709551615 by decide]; omega), by simp only [be_length]; decide⟩
  | 2, _ =>
    have h := (within_iff _ _ _).1 hg
    exact ⟨_, enc_int 119 f.stream (by decide) (by decide) (by omega) (by rw [show (256 ^ width 119 - 1 : Nat) = 4294967295 by decide]; omega), by simp only [be_length]; decide⟩
  | 3, _ =>
    have h := (within_iff _ _ _).1 hg
    exact ⟨_, enc_int 119 f.amount (by decide) (by decide) (by omega) (by rw [show (256 ^ width 119 - 1 : Nat) = 4294967295 by decide]; omega), by simp only [be_length]; decide⟩
  | 4, _ =>
    have h := (within_iff _ _ _).1 hg
    exact ⟨_, enc_int 98 f.code (by decide) (by decide) (by omega) (by rw [show (256 ^ width 98 - 1 : Nat) = 255 by decide]; omega), by simp only [be_length]; decide⟩
  | 5, _ =>
    have h := (within_iff _ _ _).1 hg
    have hs : f.who.data.size = f.who.size := rfl
    refine ⟨_, enc_txt 116 f.who (by decide) (by decide) (by rw [show (256 ^ width 116 - 1 : Nat) = 255 by decide]; omega), ?_⟩
    rw [List.length_append, be_length, Array.length_toList, show width 116 = 1 by decide, show lenF 5 = 17 from rfl]
    omega
  | 6, _ =>
    have h := (within_iff _ _ _).1 hg
    have hs : f.name.data.size = f.name.size := rfl
    refine ⟨_, enc_txt 116 f.name (by decide) (by decide) (by rw [show (256 ^ width 116 - 1 : Nat) = 255 by decide]; omega), ?_⟩
    rw [List.length_append, be_length, Array.length_toList, show width 116 = 1 by decide, show lenF 6 = 64 from rfl]
    omega
  | 7, _ => exact ⟨be f.weight 8, by unfold encCell; rw [if_pos (by decide)]; rfl, by simp [lenF]⟩
  | 8, _ =>
    have h := bytes_le hg
    have hs := toArray_size f.bytes
    have hs2 := toArray_data f.bytes
    refine ⟨_, enc_txt 114 ⟨f.bytes.toArray⟩ (by decide) (by decide) (by rw [show (256 ^ width 114 - 1 : Nat) = 65535 by decide, hs]; omega), ?_⟩
    rw [List.length_append, be_length, hs2, show width 114 = 2 by decide, show lenF 8 = 514 from rfl]
    omega
theorem enc_list (f : Fr) : ∀ l : List Nat, (∀ x ∈ l, x < 9 ∧ goodF f x = true) → ∃ bs, encAll (l.map letterF) (l.map (cellF f)) = .ok bs ∧ bs.length ≤ (l.map lenF).sum
  | [], _ => ⟨[], rfl, by simp⟩
  | x :: l, h => by
    obtain ⟨b, hb, hl⟩ := good_enc f x (h x (by simp)).1 (h x (by simp)).2
    obtain ⟨bs, hbs, hls⟩ := enc_list f l (fun y hy => h y (by simp [hy]))
    refine ⟨b ++ bs, ?_, by simp only [List.length_append, List.map_cons, List.sum_cons]; omega⟩
    simp only [List.map_cons, encAll, hb, hbs, Except.bind, Except.map]
theorem shape_sum (k : Int) : ((shapeF k).map lenF).sum ≤ 600 := by
  by_cases hk : 1 ≤ k ∧ k ≤ 17
  · rcases kind_cases hk with h | h | h | h | h | h | h | h | h | h | h | h | h | h | h | h | h <;> subst h <;> decide
  · rw [shape_out hk]
    simp
theorem known_layout (k : Int) : known (layoutF k) = true := by
  by_cases hk : 1 ≤ k ∧ k ≤ 17
  · rcases kind_cases hk with h | h | h | h | h | h | h | h | h | h | h | h | h | h | h | h | h <;> subst h <;> decide
  · unfold layoutF
    rw [shape_out hk]
    rfl
theorem layout_len (k : Int) : (layoutF k).length ≤ 3 := by
  by_cases hk : 1 ≤ k ∧ k ≤ 17
  · rcases kind_cases hk with h | h | h | h | h | h | h | h | h | h | h | h | h | h | h | h | h <;> subst h <;> decide
  · unfold layoutF
    rw [shape_out hk]
    simp
/-- The bytes of a frame in form, field by field. -/
theorem body_ok {f : Fr} (h : checkF f = true) : ∃ r, encAll (layoutF f.kind) (cellsF f) = .ok r ∧ r.length ≤ 600 ∧ bodyF f = UInt8.ofNat f.kind.toNat :: r ∧ encAll (98 :: layoutF f.kind) (⟨f.kind, 0, noS⟩ :: cellsF f) = .ok (bodyF f) ∧ 1 ≤ f.kind ∧ f.kind ≤ 17 := by
  obtain ⟨h1, h2, h3⟩ := (check_iff f).1 h
  have hk := shape_kind h1
  obtain ⟨r, hr, hl⟩ := enc_list f (shapeF f.kind) (fun x hx => ⟨shape_lt _ x hx, h2 x hx⟩)
  have hs := shape_sum f.kind
  have hc : encCell 98 ⟨f.kind, 0, noS⟩ = .ok (be f.kind.toNat 1) := enc_int 98 f.kind (by decide) (by decide) (by omega) (by rw [show (256 ^ width 98 - 1 : Nat) = 255 by decide]; omega)
  have he : encAll (98 :: layoutF f.kind) (⟨f.kind, 0, noS⟩ :: cellsF f) = .ok (UInt8.ofNat f.kind.toNat :: r) := by
    have hr' : encAll (layoutF f.kind) (cellsF f) = .ok r := hr
    simp only [encAll, hc, hr', Except.bind, Except.map]
    simp [be]
  have hb : bodyF f = UInt8.ofNat f.kind.toNat :: r := by
    unfold bodyF
    rw [he]
  exact ⟨r, hr, by omega, hb, by rw [hb]; exact he, hk.1, hk.2⟩
theorem front_len (f : Fr) : (frontF f).length = 2 + (bodyF f).length := by
  unfold frontF
  rw [List.length_append, be_length]
theorem sha4_len (b : Bs) : ((sha b).take 4).length = 4 := by rw [List.length_take, sha_length]; rfl
theorem put_len (f : Fr) : (putF f).length = 6 + (bodyF f).length := by
  unfold putF
  rw [List.length_append, front_len, sha4_len]
  omega
theorem body_len {f : Fr} (h : checkF f = true) : 1 ≤ (bodyF f).length ∧ (bodyF f).length ≤ 601 := by
  obtain ⟨r, _, hl, hb, _⟩ := body_ok h
  rw [hb, List.length_cons]
  omega
theorem put_take (f : Fr) : (putF f).take ((putF f).length - 4) = frontF f := by
  rw [put_len]
  unfold putF
  rw [List.take_append_of_le_length (by rw [front_len]; omega), List.take_of_length_le (by rw [front_len]; omega)]
theorem put_drop (f : Fr) : (putF f).drop ((putF f).length - 4) = (sha (frontF f)).take 4 := by
  rw [put_len]
  unfold putF
  rw [show 6 + (bodyF f).length - 4 = (frontF f).length by rw [front_len]; omega, List.drop_left]
theorem put_two (f : Fr) : (putF f).take 2 = be (bodyF f).length 2 := by
  unfold putF frontF
  rw [List.append_assoc, List.take_append_of_le_length (by rw [be_length]; omega), List.take_of_length_le (by rw [be_length]; omega)]
theorem norm_cell (f : Fr) (x : Nat) (hx : x < 9) : norm (letterF x) (cellF f x) = cellF f x := by
  match x, hx with
  | 0, _ => rfl
  | 1, _ => rfl
  | 2, _ => rfl
  | 3, _ => rfl
  | 4, _ => rfl
  | 5, _ => rfl
  | 6, _ => rfl
  | 7, _ => rfl
  | 8, _ => rfl
theorem norms_cells (f : Fr) : ∀ l : List Nat, (∀ x ∈ l, x < 9) → norms (l.map letterF) (l.map (cellF f)) = l.map (cellF f)
  | [], _ => rfl
  | x :: l, h => by
    have := norms_cells f l (fun y hy => h y (by simp [hy]))
    unfold norms at *
    simp only [List.map_cons, List.zipWith_cons_cons, norm_cell f x (h x (by simp)), this]
theorem setAll_cells (f : Fr) : ∀ (l : List Nat) (o : Fr), setAll o l (l.map (cellF f)) = l.foldl (fun o x => setF o x (cellF f x)) o
  | [], o => rfl
  | x :: l, o => by
    simp only [List.map_cons, setAll, List.foldl_cons]
    exact setAll_cells f l _
theorem put_kind {f : Fr} (h : checkF f = true) : (((putF f).getD 2 0).toNat : Int) = f.kind := by
  obtain ⟨r, _, _, hb, _, h1, h2⟩ := body_ok h
  have : (putF f).getD 2 0 = UInt8.ofNat f.kind.toNat := by
    unfold putF frontF
    rw [hb]
    simp [be]
  rw [this, UInt8.toNat_ofNat']
  omega
/-- WHAT IS WRITTEN IS READ BACK. -/
theorem get_put {f : Fr} (h : checkF f = true) (hw : f.weight < 18446744073709551616) (hi : ∀ x, x < 9 → (cellF f x).n ≤ 9223372036854775807) : getF (putF f) = some f := by
  have hbl := body_len h
  have hkd := put_kind h
  obtain ⟨r, hr, hrl, hb, _, h1, h2⟩ := body_ok h
  unfold getF
  rw [put_take, put_drop, put_two, num_be, put_len, hkd]
  rw [if_neg (by omega), if_neg (by
    rintro (hx | hx)
    · exact hx rfl
    · apply hx
      rw [Nat.mod_eq_of_lt (by omega)]
      omega)]
  have hf3 : (frontF f).drop 3 = r := by
    unfold frontF
    rw [hb]
    simp [be]
  have hen : encode (layoutF f.kind) (cellsF f) = .ok r := by
    unfold encode
    rw [if_neg (by rw [known_layout]; simp [cellsF, layoutF]), hr]
  have hde : decode (layoutF f.kind) ((frontF f).drop 3) = .ok (cellsF f) := by
    rw [hf3, dec_enc hen (by
      intro c hc
      obtain ⟨x, hx, rfl⟩ := List.mem_map.1 hc
      have hx9 := shape_lt _ x hx
      refine ⟨?_, hi x hx9⟩
      match x, hx9 with
      | 0, _ => exact Nat.zero_lt_succ _
      | 1, _ => exact Nat.zero_lt_succ _
      | 2, _ => exact Nat.zero_lt_succ _
      | 3, _ => exact Nat.zero_lt_succ _
      | 4, _ => exact Nat.zero_lt_succ _
      | 5, _ => exact Nat.zero_lt_succ _
      | 6, _ => exact Nat.zero_lt_succ _
      | 7, _ => exact hw
      | 8, _ => exact Nat.zero_lt_succ _)]
    unfold layoutF cellsF
    rw [norms_cells f _ (shape_lt _)]
  rw [hde]
  have hset : setAll (Fr.of f.kind) (shapeF f.kind) (cellsF f) = f := by
    unfold cellsF
    rw [setAll_cells]
    exact (only_iff f).2 ((check_iff f).1 h).2.2
  simp only [hset, h, if_true]
end Go.Proofs.YtipgimmgjdgdeaaDoor
