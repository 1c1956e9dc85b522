/- FieldsRows' walk. -/
import Derived.Test.YtkencpfmbcjppaaDoorLc
set_option linter.unusedVariables false
set_option linter.unusedSimpArgs false
set_option linter.unnecessarySimpa false
namespace Go.Proofs.YtkencpfmbcjppaaDoor
open Go.RowKit
attribute [local go_sem] run_store_flt cellV errV

theorem flat_take (cells : List Cell) : ∀ k, (cells.take k).flatMap cellVs = (cells.flatMap cellVs).take (k * 3) := by
  induction cells with
  | nil => intro k; simp
  | cons c cs ih =>
    intro k
    cases k with
    | zero => simp
    | succ k =>
      rw [List.take_succ_cons, List.flatMap_cons, List.flatMap_cons, ih k, show (k + 1) * 3 = (cellVs c).length + k * 3 from by simp [cellVs]; omega, List.take_length_add_append]
theorem flat_drop (cells : List Cell) : ∀ k, (cells.drop k).flatMap cellVs = (cells.flatMap cellVs).drop (k * 3) := by
  induction cells with
  | nil => intro k; simp
  | cons c cs ih =>
    intro k
    cases k with
    | zero => simp
    | succ k =>
      rw [List.drop_succ_cons, List.flatMap_cons, ih k, show (k + 1) * 3 = (cellVs c).length + k * 3 from by simp [cellVs]; omega, List.drop_length_add_append]
theorem flat_len (cells : List Cell) : (cells.flatMap cellVs).length = cells.length * 3 := by
  induction cells with
  | nil => simp
  | cons c cs ih => rw [List.flatMap_cons, List.length_append, ih]; simp [cellVs]; omega
theorem cost_le_take (cells : List Cell) (k : Nat) : cost (cells.take k) ≤ cost cells ∧ cost (cells.drop k) ≤ cost cells := by
  have e : cost cells = cost (cells.take k) + cost (cells.drop k) := by
    unfold cost
    rw [← List.sum_append, ← List.map_append, List.take_append_drop]
  omega
theorem encAll_append : ∀ (a b : Bs) (cs ds : List Cell), cs.length = a.length → encAll (a ++ b) (cs ++ ds) = (encAll a cs).bind fun x => (encAll b ds).map (x ++ ·)
  | [], b, [], ds, _ => by
    simp only [List.nil_append, encAll, Except.bind]
    cases encAll b ds <;> rfl
  | l :: a, b, c :: cs, ds, h => by
    simp only [List.cons_append, encAll]
    rw [encAll_append a b cs ds (by simpa using h)]
    cases encCell l c with
    | error e => rfl
    | ok u =>
      cases encAll a cs with
      | error e => rfl
      | ok v =>
        cases encAll b ds with
        | error e => rfl
        | ok w => simp [Except.bind, Except.map]
  | [], b, c :: cs, ds, h => absurd h (by simp)
  | l :: a, b, [], ds, h => absurd h (by simp)
/-- Two rows, one behind the other. -/
theorem encode_rows (a b : Bs) (cells : List Cell) (h : a.length ≤ cells.length) : 
    (∃ x y, encode a (cells.take a.length) = .ok x ∧ encode b (cells.drop a.length) = .ok y ∧ encode (a ++ b) cells = .ok (x ++ y)) ∨
    (∃ er, ((∃ e1, encode a (cells.take a.length) = .error e1) ∨ (∃ x e2, encode a (cells.take a.length) = .ok x ∧ encode b (cells.drop a.length) = .error e2)) ∧ encode (a ++ b) cells = .error er) := by
  have hl1 : (cells.take a.length).length = a.length := by rw [List.length_take]; omega
  have hka : known (a ++ b) = (known a && known b) := by unfold known; rw [List.all_append]
  by_cases hk1 : known a = true
  · by_cases hk2 : known b = true
    · by_cases hn : (cells.drop a.length).length = b.length
      · have hn2 : cells.length = (a ++ b).length := by rw [List.length_drop] at hn; rw [List.length_append]; omega
        have e1 : encode a (cells.take a.length) = encAll a (cells.take a.length) := by unfold encode; rw [if_neg (by rw [hk1, hl1]; simp)]
        have e2 : encode b (cells.drop a.length) = encAll b (cells.drop a.length) := by unfold encode; rw [if_neg (by rw [hk2, hn]; simp)]
        have e3 : encode (a ++ b) cells = encAll (a ++ b) cells := by unfold encode; rw [if_neg (by rw [hka, hk1, hk2, hn2]; simp)]
        have e4 := encAll_append a b (cells.take a.length) (cells.drop a.length) hl1
        rw [List.take_append_drop] at e4
        rw [e1, e2, e3, e4]
        cases encAll a (cells.take a.length) with
        | error er => exact .inr ⟨er, .inl ⟨er, rfl⟩, rfl⟩
        | ok x =>
          cases encAll b (cells.drop a.length) with
          | error er => exact .inr ⟨er, .inr ⟨x, er, rfl, rfl⟩, rfl⟩
          | ok y => exact .inl ⟨x, y, rfl, rfl, rfl⟩
      · have e2 : encode b (cells.drop a.length) = .error .state := by unfold encode; rw [if_pos (.inr hn)]
        have e3 : encode (a ++ b) cells = .error .state := by
          unfold encode; rw [if_pos (.inr (by rw [List.length_drop] at hn; rw [List.length_append]; omega))]
        rw [e2, e3]
        refine .inr ⟨.state, ?_, rfl⟩
        cases encode a (cells.take a.length) with
        | error er => exact .inl ⟨er, rfl⟩
        | ok x => exact .inr ⟨x, _, rfl, rfl⟩
    · have hk2' : known b = false := by simpa using hk2
      have e2 : encode b (cells.drop a.length) = .error .state := by unfold encode; rw [if_pos (.inl hk2')]
      have e3 : encode (a ++ b) cells = .error .state := by unfold encode; rw [if_pos (.inl (by rw [hka, hk2']; simp))]
      rw [e2, e3]
      refine .inr ⟨.state, ?_, rfl⟩
      cases encode a (cells.take a.length) with
      | error er => exact .inl ⟨er, rfl⟩
      | ok x => exact .inr ⟨x, _, rfl, rfl⟩
  · have hk1' : known a = false := by simpa using hk1
    have e1 : encode a (cells.take a.length) = .error .state := by unfold encode; rw [if_pos (.inl hk1')]
    have e3 : encode (a ++ b) cells = .error .state := by unfold encode; rw [if_pos (.inl (by rw [hka, hk1']; simp))]
    exact .inr ⟨.state, .inl ⟨_, e1⟩, e3⟩
theorem concat_arr (x y : Bs) : ((⟨x.toArray⟩ : ByteArray) ++ ⟨y.toArray⟩) = ⟨(x ++ y).toArray⟩ := by
  apply ByteArray.ext
  simp [ByteArray.data_append]
theorem concat_list (a b : ByteArray) : (a ++ b).data.toList = a.data.toList ++ b.data.toList := by simp [ByteArray.data_append]
set_option maxHeartbeats 600000 in
theorem rows_okokok (es : Er → Addr) (w : World) (a b : ByteArray) (A : Option Addr) (c : Nat) (cells : List Cell) (x : Bs) (y : Bs) (hE : E5 w.heap.size w es) (ha : a.size ≤ 2000000) (hb : b.size ≤ 2000000) (hcl : cells.length ≤ 2000000) (hcc : cells.length ≤ c)
    (hcost : cost cells ≤ 100000000) (hnum : ∀ c ∈ cells, c.n ≤ 9223372036854775807) (hR : RdC (· < w.heap.size) w A (cells.flatMap cellVs)) (hge : a.size ≤ cells.length)
    (e1 : encode a.data.toList (cells.take a.size) = .ok x) (e2 : encode b.data.toList (cells.drop a.size) = .ok y) (e3 : encode (a.data.toList ++ b.data.toList) cells = .ok (x ++ y)) :
    Calls Tryd.prog 4 #[.string a, .string b, .slice A cells.length c] w (OkPost w) := by
  have hct := cost_le_take cells a.size
  have E1 := Lib.hid e1
  have E2 := Lib.hid e2
  have E3 := Lib.hid e3
  have HM := Lib.hid hnum
  have hlt0 : ¬ ((cells.length : Int) < (a.size : Int)) := by omega
  have hi1 : (a.size : Int) ≤ (c : Int) := by omega
  have hi2 : (a.size : Int) ≤ (cells.length : Int) := by omega
  clear e1 e2 e3 hnum
  go_enter Tryd.func4, Tryd.ntmps4
  go_wp2_with fail
  refine (alive_any es w hE).mono ?_
  rintro e w0 ⟨rfl, hb0⟩
  have HE0 := Lib.hid (hE.step hb0)
  have HB0 := Lib.hid hb0
  have HR0 := Lib.hid (hR.step hb0)
  clear hb0 hE hR
  go_wp2_with fail
  have hx1 := encode_any es w0 a A a.size c (cells.take a.size) (by rw [List.length_take]; omega) HE0.out (by rw [flat_take]; exact HR0.out.take _) (by unfold maxLen; omega) (by rw [List.length_take]; unfold maxLen; omega) (by omega) (fun c hc => HM.out c (List.mem_of_mem_take hc))
  rw [E1.out] at hx1
  refine hx1.mono ?_
  rintro e w1 ⟨hb1, v1, rfl, hown1⟩
  obtain ⟨A1, c1, rfl, _, _⟩ := own_slice hown1
  have HO1 := Lib.hid hown1
  clear hown1
  have HE1 := Lib.hid (HE0.out.step hb1)
  have HB1 := Lib.hid (show Below w.heap.size w w1 from HB0.out.trans (hb1.mono HB0.out.size))
  have HR1 := Lib.hid (HR0.out.step hb1)
  clear hb1 hx1 HE0 HB0 HR0
  have hx2 : ∀ A' c', (A' = if c = a.size then A else A.map (·.add (a.size * 3))) → Calls Tryd.prog 12 #[.string b, .slice A' (cells.length - a.size) c'] w1 (EncPost es w1 (encode b.data.toList (cells.drop a.size))) := fun A' c' hA' => by
    refine encode_any es w1 b A' (cells.length - a.size) c' (cells.drop a.size) (by rw [List.length_drop]) HE1.out ?_ (by unfold maxLen; omega) (by rw [List.length_drop]; unfold maxLen; omega) (by omega) (fun c hc => HM.out c (List.mem_of_mem_drop hc))
    rw [flat_drop, hA']
    have := HR1.out.drop (a.size * 3) (decide (c = a.size)) (fun hq => by rw [flat_len]; have := of_decide_eq_true hq; omega)
    simpa using this
  rw [E2.out] at hx2
  have HX2 := Lib.hid hx2
  clear hx2
  by_cases hq : c = a.size
  · have HQ := Lib.hid (HX2.out A 0 (by rw [if_pos hq]))
    go_wp2_with fail
    refine HQ.out.mono ?_
    rintro e w2 ⟨hb2, v2, rfl, hown2⟩
    obtain ⟨A2, c2, rfl, _, _⟩ := own_slice hown2
    have HO2 := Lib.hid hown2
    clear hown2
    have HE2 := Lib.hid (HE1.out.step hb2)
    have HB2 := Lib.hid (show Below w.heap.size w w2 from HB1.out.trans (hb2.mono HB1.out.size))
    have HR2 := Lib.hid (HR1.out.step hb2)
    have HB12 := Lib.hid hb2
    clear hb2 HX2 HE1 HB1 HR1
    have hx3 := fun c' => encode_any es w2 (a ++ b) A cells.length c' cells rfl HE2.out HR2.out (by simp only [ByteArray.size_append, maxLen]; omega) (by unfold maxLen; omega) (by omega) HM.out
    simp only [concat_list, E3.out] at hx3
    have HX3 := Lib.hid hx3
    clear hx3
    go_wp2_with fail
    refine (HX3.out _).mono ?_
    rintro e w3 ⟨hb3, v3, rfl, hown3⟩
    obtain ⟨A3, c3, rfl, _, hm3⟩ := own_slice hown3
    have hno : ¬ 9223372036854775807 < x.length + y.length := by unfold maxLen at hm3; rw [List.length_append] at hm3; omega
    clear hm3
    have HO3 := Lib.hid hown3
    clear hown3
    have HB3 := Lib.hid (show Below w.heap.size w w3 from HB2.out.trans (hb3.mono HB2.out.size))
    have hR1' := (RdC.of_own HO1.out).move (w' := w3) (fun q hq => (hb3.block q (by have := HB12.out.size; omega)).trans (HB12.out.block q hq.2))
    have hR2' := (RdC.of_own HO2.out).move (w' := w3) (fun q hq => hb3.block q hq.2)
    have hR3' := RdC.of_own HO3.out
    have hs1 := run_str_of (P := Tryd.prog) (src := 23) (dst := 9) Tryd.underlying23 Tryd.underlying5 Tryd.underlying9 (c := c1) rfl hR1'
    have hs2 := run_str_of (P := Tryd.prog) (src := 23) (dst := 9) Tryd.underlying23 Tryd.underlying5 Tryd.underlying9 (c := c2) rfl hR2'
    have hs3 := run_str_of (P := Tryd.prog) (src := 23) (dst := 9) Tryd.underlying23 Tryd.underlying5 Tryd.underlying9 (n := x.length + y.length) (c := c3) (by rw [List.length_append]) hR3'
    clear hR1' hR2' hR3'
    clear hb3
    go_wp2
    go_ret
    refine ⟨?_, HB3.out⟩
    simp
    rw [concat_arr]
    simp [Lib.toList_data]
  · have HQ := Lib.hid (HX2.out (Option.map (fun x => x.add (a.size * 3)) A) (c - a.size) (by rw [if_neg hq]))
    go_wp2_with fail
    refine HQ.out.mono ?_
    rintro e w2 ⟨hb2, v2, rfl, hown2⟩
    obtain ⟨A2, c2, rfl, _, _⟩ := own_slice hown2
    have HO2 := Lib.hid hown2
    clear hown2
    have HE2 := Lib.hid (HE1.out.step hb2)
    have HB2 := Lib.hid (show Below w.heap.size w w2 from HB1.out.trans (hb2.mono HB1.out.size))
    have HR2 := Lib.hid (HR1.out.step hb2)
    have HB12 := Lib.hid hb2
    clear hb2 HX2 HE1 HB1 HR1
    have hx3 := fun c' => encode_any es w2 (a ++ b) A cells.length c' cells rfl HE2.out HR2.out (by simp only [ByteArray.size_append, maxLen]; omega) (by unfold maxLen; omega) (by omega) HM.out
    simp only [concat_list, E3.out] at hx3
    have HX3 := Lib.hid hx3
    clear hx3
    go_wp2_with fail
    refine (HX3.out _).mono ?_
    rintro e w3 ⟨hb3, v3, rfl, hown3⟩
    obtain ⟨A3, c3, rfl, _, hm3⟩ := own_slice hown3
    have hno : ¬ 9223372036854775807 < x.length + y.length := by unfold maxLen at hm3; rw [List.length_append] at hm3; omega
    clear hm3
    have HO3 := Lib.hid hown3
    clear hown3
    have HB3 := Lib.hid (show Below w.heap.size w w3 from HB2.out.trans (hb3.mono HB2.out.size))
    have hR1' := (RdC.of_own HO1.out).move (w' := w3) (fun q hq => (hb3.block q (by have := HB12.out.size; omega)).trans (HB12.out.block q hq.2))
    have hR2' := (RdC.of_own HO2.out).move (w' := w3) (fun q hq => hb3.block q hq.2)
    have hR3' := RdC.of_own HO3.out
    have hs1 := run_str_of (P := Tryd.prog) (src := 23) (dst := 9) Tryd.underlying23 Tryd.underlying5 Tryd.underlying9 (c := c1) rfl hR1'
    have hs2 := run_str_of (P := Tryd.prog) (src := 23) (dst := 9) Tryd.underlying23 Tryd.underlying5 Tryd.underlying9 (c := c2) rfl hR2'
    have hs3 := run_str_of (P := Tryd.prog) (src := 23) (dst := 9) Tryd.underlying23 Tryd.underlying5 Tryd.underlying9 (n := x.length + y.length) (c := c3) (by rw [List.length_append]) hR3'
    clear hR1' hR2' hR3'
    clear hb3
    go_wp2
    go_ret
    refine ⟨?_, HB3.out⟩
    simp
    rw [concat_arr]
    simp [Lib.toList_data]
set_option maxHeartbeats 600000 in
theorem rows_okerer (es : Er → Addr) (w : World) (a b : ByteArray) (A : Option Addr) (c : Nat) (cells : List Cell) (x : Bs) (y : Er) (z : Er) (hE : E5 w.heap.size w es) (ha : a.size ≤ 2000000) (hb : b.size ≤ 2000000) (hcl : cells.length ≤ 2000000) (hcc : cells.length ≤ c)
    (hcost : cost cells ≤ 100000000) (hnum : ∀ c ∈ cells, c.n ≤ 9223372036854775807) (hR : RdC (· < w.heap.size) w A (cells.flatMap cellVs)) (hge : a.size ≤ cells.length)
    (e1 : encode a.data.toList (cells.take a.size) = .ok x) (e2 : encode b.data.toList (cells.drop a.size) = .error y) (e3 : encode (a.data.toList ++ b.data.toList) cells = .error z) :
    Calls Tryd.prog 4 #[.string a, .string b, .slice A cells.length c] w (OkPost w) := by
  have hct := cost_le_take cells a.size
  have E1 := Lib.hid e1
  have E2 := Lib.hid e2
  have E3 := Lib.hid e3
  have HM := Lib.hid hnum
  have hlt0 : ¬ ((cells.length : Int) < (a.size : Int)) := by omega
  have hi1 : (a.size : Int) ≤ (c : Int) := by omega
  have hi2 : (a.size : Int) ≤ (cells.length : Int) := by omega
  clear e1 e2 e3 hnum
  go_enter Tryd.func4, Tryd.ntmps4
  go_wp2_with fail
  refine (alive_any es w hE).mono ?_
  rintro e w0 ⟨rfl, hb0⟩
  have HE0 := Lib.hid (hE.step hb0)
  have HB0 := Lib.hid hb0
  have HR0 := Lib.hid (hR.step hb0)
  clear hb0 hE hR
  go_wp2_with fail
  have hx1 := encode_any es w0 a A a.size c (cells.take a.size) (by rw [List.length_take]; omega) HE0.out (by rw [flat_take]; exact HR0.out.take _) (by unfold maxLen; omega) (by rw [List.length_take]; unfold maxLen; omega) (by omega) (fun c hc => HM.out c (List.mem_of_mem_take hc))
  rw [E1.out] at hx1
  refine hx1.mono ?_
  rintro e w1 ⟨hb1, v1, rfl, hown1⟩
  obtain ⟨A1, c1, rfl, _, _⟩ := own_slice hown1
  have HO1 := Lib.hid hown1
  clear hown1
  have HE1 := Lib.hid (HE0.out.step hb1)
  have HB1 := Lib.hid (show Below w.heap.size w w1 from HB0.out.trans (hb1.mono HB0.out.size))
  have HR1 := Lib.hid (HR0.out.step hb1)
  clear hb1 hx1 HE0 HB0 HR0
  have hx2 : ∀ A' c', (A' = if c = a.size then A else A.map (·.add (a.size * 3))) → Calls Tryd.prog 12 #[.string b, .slice A' (cells.length - a.size) c'] w1 (EncPost es w1 (encode b.data.toList (cells.drop a.size))) := fun A' c' hA' => by
    refine encode_any es w1 b A' (cells.length - a.size) c' (cells.drop a.size) (by rw [List.length_drop]) HE1.out ?_ (by unfold maxLen; omega) (by rw [List.length_drop]; unfold maxLen; omega) (by omega) (fun c hc => HM.out c (List.mem_of_mem_drop hc))
    rw [flat_drop, hA']
    have := HR1.out.drop (a.size * 3) (decide (c = a.size)) (fun hq => by rw [flat_len]; have := of_decide_eq_true hq; omega)
    simpa using this
  rw [E2.out] at hx2
  have HX2 := Lib.hid hx2
  clear hx2
  by_cases hq : c = a.size
  · have HQ := Lib.hid (HX2.out A 0 (by rw [if_pos hq]))
    go_wp2_with fail
    refine HQ.out.mono ?_
    rintro e w2 ⟨hb2, rfl⟩
    have HE2 := Lib.hid (HE1.out.step hb2)
    have HB2 := Lib.hid (show Below w.heap.size w w2 from HB1.out.trans (hb2.mono HB1.out.size))
    have HR2 := Lib.hid (HR1.out.step hb2)
    have HB12 := Lib.hid hb2
    clear hb2 HX2 HE1 HB1 HR1
    have hx3 := fun c' => encode_any es w2 (a ++ b) A cells.length c' cells rfl HE2.out HR2.out (by simp only [ByteArray.size_append, maxLen]; omega) (by unfold maxLen; omega) (by omega) HM.out
    simp only [concat_list, E3.out] at hx3
    have HX3 := Lib.hid hx3
    clear hx3
    go_wp2_with fail
    refine (HX3.out _).mono ?_
    rintro e w3 ⟨hb3, rfl⟩
    have HB3 := Lib.hid (show Below w.heap.size w w3 from HB2.out.trans (hb3.mono HB2.out.size))
    clear hb3
    go_wp2
    go_ret
    refine ⟨?_, HB3.out⟩
    rfl
  · have HQ := Lib.hid (HX2.out (Option.map (fun x => x.add (a.size * 3)) A) (c - a.size) (by rw [if_neg hq]))
    go_wp2_with fail
    refine HQ.out.mono ?_
    rintro e w2 ⟨hb2, rfl⟩
    have HE2 := Lib.hid (HE1.out.step hb2)
    have HB2 := Lib.hid (show Below w.heap.size w w2 from HB1.out.trans (hb2.mono HB1.out.size))
    have HR2 := Lib.hid (HR1.out.step hb2)
    have HB12 := Lib.hid hb2
    clear hb2 HX2 HE1 HB1 HR1
    have hx3 := fun c' => encode_any es w2 (a ++ b) A cells.length c' cells rfl HE2.out HR2.out (by simp only [ByteArray.size_append, maxLen]; omega) (by unfold maxLen; omega) (by omega) HM.out
    simp only [concat_list, E3.out] at hx3
    have HX3 := Lib.hid hx3
    clear hx3
    go_wp2_with fail
    refine (HX3.out _).mono ?_
    rintro e w3 ⟨hb3, rfl⟩
    have HB3 := Lib.hid (show Below w.heap.size w w3 from HB2.out.trans (hb3.mono HB2.out.size))
    clear hb3
    go_wp2
    go_ret
    refine ⟨?_, HB3.out⟩
    rfl
set_option maxHeartbeats 600000 in
theorem rows_eroker (es : Er → Addr) (w : World) (a b : ByteArray) (A : Option Addr) (c : Nat) (cells : List Cell) (x : Er) (y : Bs) (z : Er) (hE : E5 w.heap.size w es) (ha : a.size ≤ 2000000) (hb : b.size ≤ 2000000) (hcl : cells.length ≤ 2000000) (hcc : cells.length ≤ c)
    (hcost : cost cells ≤ 100000000) (hnum : ∀ c ∈ cells, c.n ≤ 9223372036854775807) (hR : RdC (· < w.heap.size) w A (cells.flatMap cellVs)) (hge : a.size ≤ cells.length)
    (e1 : encode a.data.toList (cells.take a.size) = .error x) (e2 : encode b.data.toList (cells.drop a.size) = .ok y) (e3 : encode (a.data.toList ++ b.data.toList) cells = .error z) :
    Calls Tryd.prog 4 #[.string a, .string b, .slice A cells.length c] w (OkPost w) := by
  have hct := cost_le_take cells a.size
  have E1 := Lib.hid e1
  have E2 := Lib.hid e2
  have E3 := Lib.hid e3
  have HM := Lib.hid hnum
  have hlt0 : ¬ ((cells.length : Int) < (a.size : Int)) := by omega
  have hi1 : (a.size : Int) ≤ (c : Int) := by omega
  have hi2 : (a.size : Int) ≤ (cells.length : Int) := by omega
  clear e1 e2 e3 hnum
  go_enter Tryd.func4, Tryd.ntmps4
  go_wp2_with fail
  refine (alive_any es w hE).mono ?_
  rintro e w0 ⟨rfl, hb0⟩
  have HE0 := Lib.hid (hE.step hb0)
  have HB0 := Lib.hid hb0
  have HR0 := Lib.hid (hR.step hb0)
  clear hb0 hE hR
  go_wp2_with fail
  have hx1 := encode_any es w0 a A a.size c (cells.take a.size) (by rw [List.length_take]; omega) HE0.out (by rw [flat_take]; exact HR0.out.take _) (by unfold maxLen; omega) (by rw [List.length_take]; unfold maxLen; omega) (by omega) (fun c hc => HM.out c (List.mem_of_mem_take hc))
  rw [E1.out] at hx1
  refine hx1.mono ?_
  rintro e w1 ⟨hb1, rfl⟩
  have HE1 := Lib.hid (HE0.out.step hb1)
  have HB1 := Lib.hid (show Below w.heap.size w w1 from HB0.out.trans (hb1.mono HB0.out.size))
  have HR1 := Lib.hid (HR0.out.step hb1)
  clear hb1 hx1 HE0 HB0 HR0
  have hx2 : ∀ A' c', (A' = if c = a.size then A else A.map (·.add (a.size * 3))) → Calls Tryd.prog 12 #[.string b, .slice A' (cells.length - a.size) c'] w1 (EncPost es w1 (encode b.data.toList (cells.drop a.size))) := fun A' c' hA' => by
    refine encode_any es w1 b A' (cells.length - a.size) c' (cells.drop a.size) (by rw [List.length_drop]) HE1.out ?_ (by unfold maxLen; omega) (by rw [List.length_drop]; unfold maxLen; omega) (by omega) (fun c hc => HM.out c (List.mem_of_mem_drop hc))
    rw [flat_drop, hA']
    have := HR1.out.drop (a.size * 3) (decide (c = a.size)) (fun hq => by rw [flat_len]; have := of_decide_eq_true hq; omega)
    simpa using this
  rw [E2.out] at hx2
  have HX2 := Lib.hid hx2
  clear hx2
  by_cases hq : c = a.size
  · have HQ := Lib.hid (HX2.out A 0 (by rw [if_pos hq]))
    go_wp2_with fail
    refine HQ.out.mono ?_
    rintro e w2 ⟨hb2, v2, rfl, hown2⟩
    obtain ⟨A2, c2, rfl, _, _⟩ := own_slice hown2
    have HO2 := Lib.hid hown2
    clear hown2
    have HE2 := Lib.hid (HE1.out.step hb2)
    have HB2 := Lib.hid (show Below w.heap.size w w2 from HB1.out.trans (hb2.mono HB1.out.size))
    have HR2 := Lib.hid (HR1.out.step hb2)
    have HB12 := Lib.hid hb2
    clear hb2 HX2 HE1 HB1 HR1
    have hx3 := fun c' => encode_any es w2 (a ++ b) A cells.length c' cells rfl HE2.out HR2.out (by simp only [ByteArray.size_append, maxLen]; omega) (by unfold maxLen; omega) (by omega) HM.out
    simp only [concat_list, E3.out] at hx3
    have HX3 := Lib.hid hx3
    clear hx3
    go_wp2_with fail
    refine (HX3.out _).mono ?_
    rintro e w3 ⟨hb3, rfl⟩
    have HB3 := Lib.hid (show Below w.heap.size w w3 from HB2.out.trans (hb3.mono HB2.out.size))
    clear hb3
    go_wp2
    go_ret
    refine ⟨?_, HB3.out⟩
    rfl
  · have HQ := Lib.hid (HX2.out (Option.map (fun x => x.add (a.size * 3)) A) (c - a.size) (by rw [if_neg hq]))
    go_wp2_with fail
    refine HQ.out.mono ?_
    rintro e w2 ⟨hb2, v2, rfl, hown2⟩
    obtain ⟨A2, c2, rfl, _, _⟩ := own_slice hown2
    have HO2 := Lib.hid hown2
    clear hown2
    have HE2 := Lib.hid (HE1.out.step hb2)
    have HB2 := Lib.hid (show Below w.heap.size w w2 from HB1.out.trans (hb2.mono HB1.out.size))
    have HR2 := Lib.hid (HR1.out.step hb2)
    have HB12 := Lib.hid hb2
    clear hb2 HX2 HE1 HB1 HR1
    have hx3 := fun c' => encode_any es w2 (a ++ b) A cells.length c' cells rfl HE2.out HR2.out (by simp only [ByteArray.size_append, maxLen]; omega) (by unfold maxLen; omega) (by omega) HM.out
    simp only [concat_list, E3.out] at hx3
    have HX3 := Lib.hid hx3
    clear hx3
    go_wp2_with fail
    refine (HX3.out _).mono ?_
    rintro e w3 ⟨hb3, rfl⟩
    have HB3 := Lib.hid (show Below w.heap.size w w3 from HB2.out.trans (hb3.mono HB2.out.size))
    clear hb3
    go_wp2
    go_ret
    refine ⟨?_, HB3.out⟩
    rfl
set_option maxHeartbeats 600000 in
theorem rows_ererer (es : Er → Addr) (w : World) (a b : ByteArray) (A : Option Addr) (c : Nat) (cells : List Cell) (x : Er) (y : Er) (z : Er) (hE : E5 w.heap.size w es) (ha : a.size ≤ 2000000) (hb : b.size ≤ 2000000) (hcl : cells.length ≤ 2000000) (hcc : cells.length ≤ c)
    (hcost : cost cells ≤ 100000000) (hnum : ∀ c ∈ cells, c.n ≤ 9223372036854775807) (hR : RdC (· < w.heap.size) w A (cells.flatMap cellVs)) (hge : a.size ≤ cells.length)
    (e1 : encode a.data.toList (cells.take a.size) = .error x) (e2 : encode b.data.toList (cells.drop a.size) = .error y) (e3 : encode (a.data.toList ++ b.data.toList) cells = .error z) :
    Calls Tryd.prog 4 #[.string a, .string b, .slice A cells.length c] w (OkPost w) := by
  have hct := cost_le_take cells a.size
  have E1 := Lib.hid e1
  have E2 := Lib.hid e2
  have E3 := Lib.hid e3
  have HM := Lib.hid hnum
  have hlt0 : ¬ ((cells.length : Int) < (a.size : Int)) := by omega
  have hi1 : (a.size : Int) ≤ (c : Int) := by omega
  have hi2 : (a.size : Int) ≤ (cells.length : Int) := by omega
  clear e1 e2 e3 hnum
  go_enter Tryd.func4, Tryd.ntmps4
  go_wp2_with fail
  refine (alive_any es w hE).mono ?_
  rintro e w0 ⟨rfl, hb0⟩
  have HE0 := Lib.hid (hE.step hb0)
  have HB0 := Lib.hid hb0
  have HR0 := Lib.hid (hR.step hb0)
  clear hb0 hE hR
  go_wp2_with fail
  have hx1 := encode_any es w0 a A a.size c (cells.take a.size) (by rw [List.length_take]; omega) HE0.out (by rw [flat_take]; exact HR0.out.take _) (by unfold maxLen; omega) (by rw [List.length_take]; unfold maxLen; omega) (by omega) (fun c hc => HM.out c (List.mem_of_mem_take hc))
  rw [E1.out] at hx1
  refine hx1.mono ?_
  rintro e w1 ⟨hb1, rfl⟩
  have HE1 := Lib.hid (HE0.out.step hb1)
  have HB1 := Lib.hid (show Below w.heap.size w w1 from HB0.out.trans (hb1.mono HB0.out.size))
  have HR1 := Lib.hid (HR0.out.step hb1)
  clear hb1 hx1 HE0 HB0 HR0
  have hx2 : ∀ A' c', (A' = if c = a.size then A else A.map (·.add (a.size * 3))) → Calls Tryd.prog 12 #[.string b, .slice A' (cells.length - a.size) c'] w1 (EncPost es w1 (encode b.data.toList (cells.drop a.size))) := fun A' c' hA' => by
    refine encode_any es w1 b A' (cells.length - a.size) c' (cells.drop a.size) (by rw [List.length_drop]) HE1.out ?_ (by unfold maxLen; omega) (by rw [List.length_drop]; unfold maxLen; omega) (by omega) (fun c hc => HM.out c (List.mem_of_mem_drop hc))
    rw [flat_drop, hA']
    have := HR1.out.drop (a.size * 3) (decide (c = a.size)) (fun hq => by rw [flat_len]; have := of_decide_eq_true hq; omega)
    simpa using this
  rw [E2.out] at hx2
  have HX2 := Lib.hid hx2
  clear hx2
  by_cases hq : c = a.size
  · have HQ := Lib.hid (HX2.out A 0 (by rw [if_pos hq]))
    go_wp2_with fail
    refine HQ.out.mono ?_
    rintro e w2 ⟨hb2, rfl⟩
    have HE2 := Lib.hid (HE1.out.step hb2)
    have HB2 := Lib.hid (show Below w.heap.size w w2 from HB1.out.trans (hb2.mono HB1.out.size))
    have HR2 := Lib.hid (HR1.out.step hb2)
    have HB12 := Lib.hid hb2
    clear hb2 HX2 HE1 HB1 HR1
    have hx3 := fun c' => encode_any es w2 (a ++ b) A cells.length c' cells rfl HE2.out HR2.out (by simp only [ByteArray.size_append, maxLen]; omega) (by unfold maxLen; omega) (by omega) HM.out
    simp only [concat_list, E3.out] at hx3
    have HX3 := Lib.hid hx3
    clear hx3
    go_wp2_with fail
    refine (HX3.out _).mono ?_
    rintro e w3 ⟨hb3, rfl⟩
    have HB3 := Lib.hid (show Below w.heap.size w w3 from HB2.out.trans (hb3.mono HB2.out.size))
    clear hb3
    go_wp2
    go_ret
    refine ⟨?_, HB3.out⟩
    rfl
  · have HQ := Lib.hid (HX2.out (Option.map (fun x => x.add (a.size * 3)) A) (c - a.size) (by rw [if_neg hq]))
    go_wp2_with fail
    refine HQ.out.mono ?_
    rintro e w2 ⟨hb2, rfl⟩
    have HE2 := Lib.hid (HE1.out.step hb2)
    have HB2 := Lib.hid (show Below w.heap.size w w2 from HB1.out.trans (hb2.mono HB1.out.size))
    have HR2 := Lib.hid (HR1.out.step hb2)
    have HB12 := Lib.hid hb2
    clear hb2 HX2 HE1 HB1 HR1
    have hx3 := fun c' => encode_any es w2 (a ++ b) A cells.length c' cells rfl HE2.out HR2.out (by simp only [ByteArray.size_append, maxLen]; omega) (by unfold maxLen; omega) (by omega) HM.out
    simp only [concat_list, E3.out] at hx3
    have HX3 := Lib.hid hx3
    clear hx3
    go_wp2_with fail
    refine (HX3.out _).mono ?_
    rintro e w3 ⟨hb3, rfl⟩
    have HB3 := Lib.hid (show Below w.heap.size w w3 from HB2.out.trans (hb3.mono HB2.out.size))
    clear hb3
    go_wp2
    go_ret
    refine ⟨?_, HB3.out⟩
    rfl
set_option maxHeartbeats 400000 in
theorem rows_few (es : Er → Addr) (w : World) (a b : ByteArray) (A : Option Addr) (c : Nat) (cells : List Cell) (hE : E5 w.heap.size w es) (hlt : cells.length < a.size) (hs : a.size ≤ 2000000) :
    Calls Tryd.prog 4 #[.string a, .string b, .slice A cells.length c] w (OkPost w) := by
  have hlt0 : ((cells.length : Int) < (a.size : Int)) := by omega
  go_enter Tryd.func4, Tryd.ntmps4
  go_wp2_with fail
  refine (alive_any es w hE).mono ?_
  rintro e w0 ⟨rfl, hb0⟩
  have HB0 := Lib.hid hb0
  clear hb0 hE
  go_wp2
  go_ret
  exact ⟨rfl, HB0.out⟩
theorem rows_walk (es : Er → Addr) (w : World) (a b : ByteArray) (A : Option Addr) (n c : Nat) (cells : List Cell) (hE : E5 w.heap.size w es) (ha : a.size ≤ 2000000) (hb : b.size ≤ 2000000) (hn : n = cells.length) (hcl : cells.length ≤ 2000000) (hcc : cells.length ≤ c)
    (hcost : cost cells ≤ 100000000) (hnum : ∀ c ∈ cells, c.n ≤ 9223372036854775807) (hR : RdC (· < w.heap.size) w A (cells.flatMap cellVs)) :
    Calls Tryd.prog 4 #[.string a, .string b, .slice A n c] w (OkPost w) := by
  subst hn
  have hla : a.data.toList.length = a.size := Array.length_toList
  by_cases hlt : cells.length < a.size
  · exact rows_few es w a b A c cells hE hlt ha
  · have hge : a.size ≤ cells.length := by omega
    have h := encode_rows a.data.toList b.data.toList cells (by rw [hla]; exact hge)
    rw [hla] at h
    rcases h with ⟨x, y, e1, e2, e3⟩ | ⟨z, ⟨x, e1⟩ | ⟨x, y, e1, e2⟩, e3⟩
    · exact rows_okokok es w a b A c cells x y hE ha hb hcl hcc hcost hnum hR hge e1 e2 e3
    · cases e2 : encode b.data.toList (cells.drop a.size) with
      | error y => exact rows_ererer es w a b A c cells x y z hE ha hb hcl hcc hcost hnum hR hge e1 e2 e3
      | ok y => exact rows_eroker es w a b A c cells x y z hE ha hb hcl hcc hcost hnum hR hge e1 e2 e3
    · exact rows_okerer es w a b A c cells x y z hE ha hb hcl hcc hcost hnum hR hge e1 e2 e3
end Go.Proofs.YtkencpfmbcjppaaDoor
