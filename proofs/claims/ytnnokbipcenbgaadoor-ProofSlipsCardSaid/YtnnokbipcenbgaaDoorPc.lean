/- Walks of package proof, third part: asked. -/
import Derived.Test.YtnnokbipcenbgaaDoorPb
import Derived.RegionTactic
set_option linter.unusedVariables false
set_option linter.unusedSimpArgs false
set_option linter.unnecessarySimpa false
namespace Go.Proofs.YtnnokbipcenbgaaDoor
open Go.RowKit

set_option maxRecDepth 8000 in
theorem catchB_idle (p q : Addr) (w : World) :
    CallsD Tryd.prog 41 #[.pointer (some p), .pointer (some q)] .returning w fun e u' w' => e = .returned (.tuple #[]) ∧ u' = .returning ∧ w' = w := by
  refine callsD_of_wpS Tryd.func41 rfl fun c₀ cs hu => ?_
  apply wpS_seq
  apply wpS_region
  simp [wpOpsS, go_sem, recoverD, hu, Tryd.ntmps41, Exit.thenS]
  refine wpS_of_wp ?_
  change Code.wp _ _ _ { tmps := #[.pointer (some p), .pointer (some q), undef, undef, undef, undef, .nilIface, undef, undef, undef, undef, undef, undef, undef, undef], defers := [] } _
  have heq : ∀ w : World, (binOp .eql 20 .nilIface .nilIface).run Tryd.prog w = .ok (.bool true) w := fun _ => by kernel_rfl
  go_wp2_with fail
  exact ⟨rfl, .returning, by cases c₀; simp_all, .tuple #[], by simp [results, Tryd.results41, go_sem], rfl, rfl, rfl⟩
def CatchPB (w : World) (base : Nat) (p q : Addr) (a : Addr) (e : Ending) (u' : FrameMode) (w' : World) : Prop :=
  e = .returned (.tuple #[]) ∧ u' = .panicking [{ wrongP a with recovered := true }] ∧ w'.cell? p = some (.slice none 0 0) ∧ w'.cell? q = some (errV a) ∧ Below base w w'
set_option maxRecDepth 8000 in
theorem catchB_wrong (P Q base : Nat) (a : Addr) (x y : Value) (w : World) (hp : w.cell? ⟨P, 0, none⟩ = some x) (hq : w.cell? ⟨Q, 0, none⟩ = some y) (hpf : w.frozen? ⟨P, 0, none⟩ = false) (hqf : w.frozen? ⟨Q, 0, none⟩ = false) (hpq : P ≠ Q) (hp0 : P < w.heap.size) (hq0 : Q < w.heap.size) (hbp : base ≤ P) (hbq : base ≤ Q) :
    CallsD Tryd.prog 41 #[.pointer (some ⟨P, 0, none⟩), .pointer (some ⟨Q, 0, none⟩)] (.panicking [wrongP a]) w (CatchPB w base ⟨P, 0, none⟩ ⟨Q, 0, none⟩ a) := by
  refine callsD_of_wpS Tryd.func41 rfl fun c₀ cs hu => ?_
  unfold wrongP errV at *
  apply wpS_seq
  apply wpS_region
  simp [wpOpsS, go_sem, recoverD, hu, Tryd.ntmps41, Exit.thenS]
  refine wpS_of_wp ?_
  change Code.wp _ _ _ { tmps := #[.pointer (some ⟨P, 0, none⟩), .pointer (some ⟨Q, 0, none⟩), undef, undef, undef, undef, .iface 78 (.agg #[.iface 113 (.pointer (some a))]), undef, undef, undef, undef, undef, undef, undef, undef], defers := [] } _
  have heq : ∀ (v : Value) (w : World), (binOp .eql 20 (.iface 78 v) .nilIface).run Tryd.prog w = .ok (.bool false) w := fun _ _ => by kernel_rfl
  have hta : ∀ (v : Value) (w : World), (Instr.typeAssert (.iface 78 v) 20 78 true).run Tryd.prog w = .ok (.tuple #[v, .bool true]) w := fun _ _ => by kernel_rfl
  obtain ⟨w1, hw1⟩ : ∃ x, x = w.alloc (.cells #[.iface 113 (.pointer (some a))] 78) := ⟨_, rfl⟩
  have hb1 : Below w.heap.size w w1 := by rw [hw1]; exact below_box _ _
  have hp1 : w1.cell? ⟨P, 0, none⟩ = some x := (hb1.cell (p := ⟨P, 0, none⟩) hp0).trans hp
  have hq1 : w1.cell? ⟨Q, 0, none⟩ = some y := (hb1.cell (p := ⟨Q, 0, none⟩) hq0).trans hq
  have hpf1 : w1.frozen? ⟨P, 0, none⟩ = false := (hb1.frozen (p := ⟨P, 0, none⟩) hp0).trans hpf
  have hqf1 : w1.frozen? ⟨Q, 0, none⟩ = false := (hb1.frozen (p := ⟨Q, 0, none⟩) hq0).trans hqf
  have hc1 : w1.cell? ⟨w.heap.size, 0, none⟩ = some (.iface 113 (.pointer (some a))) := by rw [hw1]; simp only [World.cell?, heap_alloc_new]; rfl
  have hqp : Q ≠ P := Ne.symm hpq
  have hne : w.heap.size ≠ P := by omega
  have hne2 : w.heap.size ≠ Q := by omega
  have hne3 : P ≠ w.heap.size := by omega
  have hne4 : Q ≠ w.heap.size := by omega
  have HB1 := Lib.hid hb1
  have HW1 := Lib.hid hw1
  clear hp hq hpf hqf hb1 hw1
  go_wp2_with fail
  rw [← HW1.out]
  clear HW1
  generalize w.heap.size = H at *
  go_region
  have ep : ((w1.setCell ⟨P, 0, none⟩ (.slice none 0 0)).setCell ⟨Q, 0, none⟩ (.iface 113 (.pointer (some a)))).drew.cell? ⟨P, 0, none⟩ = some (.slice none 0 0) := by simp [go_sem, hp1, hpq, hqp]
  have eq : ((w1.setCell ⟨P, 0, none⟩ (.slice none 0 0)).setCell ⟨Q, 0, none⟩ (.iface 113 (.pointer (some a)))).drew.cell? ⟨Q, 0, none⟩ = some (.iface 113 (.pointer (some a))) := by simp [go_sem, hp1, hq1, hpq, hqp]
  have EP := Lib.hid ep
  have EQ := Lib.hid eq
  clear ep eq
  go_wp2_with fail
  exact ⟨rfl, .panicking [{ wrongP a with recovered := true }], by cases c₀; simp_all [wrongP, errV], .tuple #[], by simp [results, Tryd.results41, go_sem], rfl, rfl, EP.out, EQ.out, ((HB1.out.mono (by omega : base ≤ H)).setCell hbp _ |>.setCell hbq _).drew⟩
set_option maxRecDepth 8000 in
theorem catchI_idle (p q : Addr) (w : World) :
    CallsD Tryd.prog 42 #[.pointer (some p), .pointer (some q)] .returning w fun e u' w' => e = .returned (.tuple #[]) ∧ u' = .returning ∧ w' = w := by
  refine callsD_of_wpS Tryd.func42 rfl fun c₀ cs hu => ?_
  apply wpS_seq
  apply wpS_region
  simp [wpOpsS, go_sem, recoverD, hu, Tryd.ntmps42, Exit.thenS]
  refine wpS_of_wp ?_
  change Code.wp _ _ _ { tmps := #[.pointer (some p), .pointer (some q), undef, undef, undef, undef, .nilIface, undef, undef, undef, undef, undef, undef, undef, undef], defers := [] } _
  have heq : ∀ w : World, (binOp .eql 20 .nilIface .nilIface).run Tryd.prog w = .ok (.bool true) w := fun _ => by kernel_rfl
  go_wp2_with fail
  exact ⟨rfl, .returning, by cases c₀; simp_all, .tuple #[], by simp [results, Tryd.results42, go_sem], rfl, rfl, rfl⟩
def CatchPI (w : World) (base : Nat) (p q : Addr) (a : Addr) (e : Ending) (u' : FrameMode) (w' : World) : Prop :=
  e = .returned (.tuple #[]) ∧ u' = .panicking [{ wrongP a with recovered := true }] ∧ w'.cell? p = some (.int .i64 0) ∧ w'.cell? q = some (errV a) ∧ Below base w w'
set_option maxRecDepth 8000 in
theorem catchI_wrong (P Q base : Nat) (a : Addr) (x y : Value) (w : World) (hp : w.cell? ⟨P, 0, none⟩ = some x) (hq : w.cell? ⟨Q, 0, none⟩ = some y) (hpf : w.frozen? ⟨P, 0, none⟩ = false) (hqf : w.frozen? ⟨Q, 0, none⟩ = false) (hpq : P ≠ Q) (hp0 : P < w.heap.size) (hq0 : Q < w.heap.size) (hbp : base ≤ P) (hbq : base ≤ Q) :
    CallsD Tryd.prog 42 #[.pointer (some ⟨P, 0, none⟩), .pointer (some ⟨Q, 0, none⟩)] (.panicking [wrongP a]) w (CatchPI w base ⟨P, 0, none⟩ ⟨Q, 0, none⟩ a) := by
  refine callsD_of_wpS Tryd.func42 rfl fun c₀ cs hu => ?_
  unfold wrongP errV at *
  apply wpS_seq
  apply wpS_region
  simp [wpOpsS, go_sem, recoverD, hu, Tryd.ntmps42, Exit.thenS]
  refine wpS_of_wp ?_
  change Code.wp _ _ _ { tmps := #[.pointer (some ⟨P, 0, none⟩), .pointer (some ⟨Q, 0, none⟩), undef, undef, undef, undef, .iface 78 (.agg #[.iface 113 (.pointer (some a))]), undef, undef, undef, undef, undef, undef, undef, undef], defers := [] } _
  have heq : ∀ (v : Value) (w : World), (binOp .eql 20 (.iface 78 v) .nilIface).run Tryd.prog w = .ok (.bool false) w := fun _ _ => by kernel_rfl
  have hta : ∀ (v : Value) (w : World), (Instr.typeAssert (.iface 78 v) 20 78 true).run Tryd.prog w = .ok (.tuple #[v, .bool true]) w := fun _ _ => by kernel_rfl
  obtain ⟨w1, hw1⟩ : ∃ x, x = w.alloc (.cells #[.iface 113 (.pointer (some a))] 78) := ⟨_, rfl⟩
  have hb1 : Below w.heap.size w w1 := by rw [hw1]; exact below_box _ _
  have hp1 : w1.cell? ⟨P, 0, none⟩ = some x := (hb1.cell (p := ⟨P, 0, none⟩) hp0).trans hp
  have hq1 : w1.cell? ⟨Q, 0, none⟩ = some y := (hb1.cell (p := ⟨Q, 0, none⟩) hq0).trans hq
  have hpf1 : w1.frozen? ⟨P, 0, none⟩ = false := (hb1.frozen (p := ⟨P, 0, none⟩) hp0).trans hpf
  have hqf1 : w1.frozen? ⟨Q, 0, none⟩ = false := (hb1.frozen (p := ⟨Q, 0, none⟩) hq0).trans hqf
  have hc1 : w1.cell? ⟨w.heap.size, 0, none⟩ = some (.iface 113 (.pointer (some a))) := by rw [hw1]; simp only [World.cell?, heap_alloc_new]; rfl
  have hqp : Q ≠ P := Ne.symm hpq
  have hne : w.heap.size ≠ P := by omega
  have hne2 : w.heap.size ≠ Q := by omega
  have hne3 : P ≠ w.heap.size := by omega
  have hne4 : Q ≠ w.heap.size := by omega
  have HB1 := Lib.hid hb1
  have HW1 := Lib.hid hw1
  clear hp hq hpf hqf hb1 hw1
  go_wp2_with fail
  rw [← HW1.out]
  clear HW1
  generalize w.heap.size = H at *
  go_region
  have ep : ((w1.setCell ⟨P, 0, none⟩ (.int .i64 0)).setCell ⟨Q, 0, none⟩ (.iface 113 (.pointer (some a)))).drew.cell? ⟨P, 0, none⟩ = some (.int .i64 0) := by simp [go_sem, hp1, hpq, hqp]
  have eq : ((w1.setCell ⟨P, 0, none⟩ (.int .i64 0)).setCell ⟨Q, 0, none⟩ (.iface 113 (.pointer (some a)))).drew.cell? ⟨Q, 0, none⟩ = some (.iface 113 (.pointer (some a))) := by simp [go_sem, hp1, hq1, hpq, hqp]
  have EP := Lib.hid ep
  have EQ := Lib.hid eq
  clear ep eq
  go_wp2_with fail
  exact ⟨rfl, .panicking [{ wrongP a with recovered := true }], by cases c₀; simp_all [wrongP, errV], .tuple #[], by simp [results, Tryd.results42, go_sem], rfl, rfl, EP.out, EQ.out, ((HB1.out.mono (by omega : base ≤ H)).setCell hbp _ |>.setCell hbq _).drew⟩
end Go.Proofs.YtnnokbipcenbgaaDoor
