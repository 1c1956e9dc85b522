/- Walks of package proof, fourth part: asked. -/
import Derived.Test.YtnnokbipcenbgaaDoorPb
import Derived.RegionTactic
set_option linter.unusedVariables false
set_option linter.unusedSimpArgs false
set_option linter.unnecessarySimpa false
namespace Go.Proofs.YtnnokbipcenbgaaDoor
open Go.RowKit

set_option maxRecDepth 8000 in
theorem catchB_idle (p q : Addr) (w : World) :
    CallsD Tryd.prog 41 #[.pointer (some p), .pointer (some q)] .returning w fun e u' w' => e = .returned (.tuple #[]) ∧ u' = .returning ∧ w' = w := by
  refine callsD_of_wpS Tryd.func41 rfl fun c₀ cs hu => ?_
  apply wpS_seq
  apply wpS_region
  simp [wpOpsS, go_sem, recoverD, hu, Tryd.ntmps41, Exit.thenS]
  refine wpS_of_wp ?_
  change Code.wp _ _ _ { tmps := #[.pointer (some p), .pointer (some q), undef, undef, undef, undef, .nilIface, undef, undef, undef, undef, undef, undef, undef, undef], defers := [] } _
  have heq : ∀ w : World, (binOp .eql 20 .nilIface .nilIface).run Tryd.prog w = .ok (.bool true) w := fun _ => by kernel_rfl
  go_wp2_with fail
  exact ⟨rfl, .returning, by cases c₀; simp_all, .tuple #[], by simp [results, Tryd.results41, go_sem], rfl, rfl, rfl⟩
def CatchPB (w : World) (base : Nat) (p q : Addr) (a : Addr) (e : Ending) (u' : FrameMode) (w' : World) : Prop :=
  e = .returned (.tuple #[]) ∧ u' = .panicking [{ wrongP a with recovered := true }] ∧ w'.cell? p = some (.slice none 0 0) ∧ w'.cell? q = some (errV a) ∧ Below base w w'
set_option maxRecDepth 8000 in
theorem catchB_wrong (P Q base : Nat) (a : Addr) (x y : Value) (w : World) (hp : w.cell? ⟨P, 0, none⟩ = some x) (hq : w.cell? ⟨Q, 0, none⟩ = some y) (hpf : w.frozen? ⟨P, 0, none⟩ = false) (hqf : w.frozen? ⟨Q, 0, none⟩ = false) (hpq : P ≠ Q) (hp0 : P < w.heap.size) (hq0 : Q < w.heap.size) (hbp : base ≤ P) (hbq : base ≤ Q) :
    CallsD Tryd.prog 41 #[.pointer (some ⟨P, 0, none⟩), .pointer (some ⟨Q, 0, none⟩)] (.panicking [wrongP a]) w (CatchPB w base ⟨P, 0, none⟩ ⟨Q, 0, none⟩ a) := by
  refine callsD_of_wpS Tryd.func41 rfl fun c₀ cs hu => ?_
  unfold wrongP errV at *
  apply wpS_seq
  apply wpS_region
  simp [wpOpsS, go_sem, recoverD, hu, Tryd.ntmps41, Exit.thenS]
  refine wpS_of_wp ?_
  change Code.wp _ _ _ { tmps := #[.pointer (some ⟨P, 0, none⟩), .pointer (some ⟨Q, 0, none⟩), undef, undef, undef, undef, .iface 78 (.agg #[.iface 113 (.pointer (some a))]), undef, undef, undef, undef, undef, undef, undef, undef], defers := [] } _
  have heq : ∀ (v : Value) (w : World), (binOp .eql 20 (.iface 78 v) .nilIface).run Tryd.prog w = .ok (.bool false) w := fun _ _ => by kernel_rfl
  have hta : ∀ (v : Value) (w : World), (Instr.typeAssert (.iface 78 v) 20 78 true).run Tryd.prog w = .ok (.tuple #[v, .bool true]) w := fun _ _ => by kernel_rfl
  obtain ⟨w1, hw1⟩ : ∃ x, x = w.alloc (.cells #[.iface 113 (.pointer (some a))] 78) := ⟨_, rfl⟩
  have hb1 : Below w.heap.size w w1 := by rw [hw1]; exact below_box _ _
  have hp1 : w1.cell? ⟨P, 0, none⟩ = some x := (hb1.cell (p := ⟨P, 0, none⟩) hp0).trans hp
  have hq1 : w1.cell? ⟨Q, 0, none⟩ = some y := (hb1.cell (p := ⟨Q, 0, none⟩) hq0).trans hq
  have hpf1 : w1.frozen? ⟨P, 0, none⟩ = false := (hb1.frozen (p := ⟨P, 0, none⟩) hp0).trans hpf
  have hqf1 : w1.frozen? ⟨Q, 0, none⟩ = false := (hb1.frozen (p := ⟨Q, 0, none⟩) hq0).trans hqf
  have hc1 : w1.cell? ⟨w.heap.size, 0, none⟩ = some (.iface 113 (.pointer (some a))) := by rw [hw1]; simp only [World.cell?, heap_alloc_new]; rfl
  have hqp : Q ≠ P := Ne.symm hpq
  have hne : w.heap.size ≠ P := by omega
  have hne2 : w.heap.size ≠ Q := by omega
  have hne3 : P ≠ w.heap.size := by omega
  have hne4 : Q ≠ w.heap.size := by omega
  have HB1 := Lib.hid hb1
  have HW1 := Lib.hid hw1
  clear hp hq hpf hqf hb1 hw1
  go_wp2_with fail
  rw [← HW1.out]
  clear HW1
  generalize w.heap.size = H at *
  go_region
  have ep : ((w1.setCell ⟨P, 0, none⟩ (.slice none 0 0)).setCell ⟨Q, 0, none⟩ (.iface 113 (.pointer (some a)))).drew.cell? ⟨P, 0, none⟩ = some (.slice none 0 0) := by simp [go_sem, hp1, hpq, hqp]
  have eq : ((w1.setCell ⟨P, 0, none⟩ (.slice none 0 0)).setCell ⟨Q, 0, none⟩ (.iface 113 (.pointer (some a)))).drew.cell? ⟨Q, 0, none⟩ = some (.iface 113 (.pointer (some a))) := by simp [go_sem, hp1, hq1, hpq, hqp]
  have EP := Lib.hid ep
  have EQ := Lib.hid eq
  clear ep eq
  go_wp2_with fail
  exact ⟨rfl, .panicking [{ wrongP a with recovered := true }], by cases c₀; simp_all [wrongP, errV], .tuple #[], by simp [results, Tryd.results41, go_sem], rfl, rfl, EP.out, EQ.out, ((HB1.out.mono (by omega : base ≤ H)).setCell hbp _ |>.setCell hbq _).drew⟩
set_option maxRecDepth 8000 in
theorem catchI_idle (p q : Addr) (w : World) :
    CallsD Tryd.prog 42 #[.pointer (some p), .pointer (some q)] .returning w fun e u' w' => e = .returned (.tuple #[]) ∧ u' = .returning ∧ w' = w := by
  refine callsD_of_wpS Tryd.func42 rfl fun c₀ cs hu => ?_
  apply wpS_seq
  apply wpS_region
  simp [wpOpsS, go_sem, recoverD, hu, Tryd.ntmps42, Exit.thenS]
  refine wpS_of_wp ?_
  change Code.wp _ _ _ { tmps := #[.pointer (some p), .pointer (some q), undef, undef, undef, undef, .nilIface, undef, undef, undef, undef, undef, undef, undef, undef], defers := [] } _
  have heq : ∀ w : World, (binOp .eql 20 .nilIface .nilIface).run Tryd.prog w = .ok (.bool true) w := fun _ => by kernel_rfl
  go_wp2_with fail
  exact ⟨rfl, .returning, by cases c₀; simp_all, .tuple #[], by simp [results, Tryd.results42, go_sem], rfl, rfl, rfl⟩
def CatchPI (w : World) (base : Nat) (p q : Addr) (a : Addr) (e : Ending) (u' : FrameMode) (w' : World) : Prop :=
  e = .returned (.tuple #[]) ∧ u' = .panicking [{ wrongP a with recovered := true }] ∧ w'.cell? p = some (.int .i64 0) ∧ w'.cell? q = some (errV a) ∧ Below base w w'
set_option maxRecDepth 8000 in
theorem catchI_wrong (P Q base : Nat) (a : Addr) (x y : Value) (w : World) (hp : w.cell? ⟨P, 0, none⟩ = some x) (hq : w.cell? ⟨Q, 0, none⟩ = some y) (hpf : w.frozen? ⟨P, 0, none⟩ = false) (hqf : w.frozen? ⟨Q, 0, none⟩ = false) (hpq : P ≠ Q) (hp0 : P < w.heap.size) (hq0 : Q < w.heap.size) (hbp : base ≤ P) (hbq : base ≤ Q) :
    CallsD Tryd.prog 42 #[.pointer (some ⟨P, 0, none⟩), .pointer (some ⟨Q, 0, none⟩)] (.panicking [wrongP a]) w (CatchPI w base ⟨P, 0, none⟩ ⟨Q, 0, none⟩ a) := by
  refine callsD_of_wpS Tryd.func42 rfl fun c₀ cs hu => ?_
  unfold wrongP errV at *
  apply wpS_seq
  apply wpS_region
  simp [wpOpsS, go_sem, recoverD, hu, Tryd.ntmps42, Exit.thenS]
  refine wpS_of_wp ?_
  change Code.wp _ _ _ { tmps := #[.pointer (some ⟨P, 0, none⟩), .pointer (some ⟨Q, 0, none⟩), undef, undef, undef, undef, .iface 78 (.agg #[.iface 113 (.pointer (some a))]), undef, undef, undef, undef, undef, undef, undef, undef], defers := [] } _
  have heq : ∀ (v : Value) (w : World), (binOp .eql 20 (.iface 78 v) .nilIface).run Tryd.prog w = .ok (.bool false) w := fun _ _ => by kernel_rfl
  have hta : ∀ (v : Value) (w : World), (Instr.typeAssert (.iface 78 v) 20 78 true).run Tryd.prog w = .ok (.tuple #[v, .bool true]) w := fun _ _ => by kernel_rfl
  obtain ⟨w1, hw1⟩ : ∃ x, x = w.alloc (.cells #[.iface 113 (.pointer (some a))] 78) := ⟨_, rfl⟩
  have hb1 : Below w.heap.size w w1 := by rw [hw1]; exact below_box _ _
  have hp1 : w1.cell? ⟨P, 0, none⟩ = some x := (hb1.cell (p := ⟨P, 0, none⟩) hp0).trans hp
  have hq1 : w1.cell? ⟨Q, 0, none⟩ = some y := (hb1.cell (p := ⟨Q, 0, none⟩) hq0).trans hq
  have hpf1 : w1.frozen? ⟨P, 0, none⟩ = false := (hb1.frozen (p := ⟨P, 0, none⟩) hp0).trans hpf
  have hqf1 : w1.frozen? ⟨Q, 0, none⟩ = false := (hb1.frozen (p := ⟨Q, 0, none⟩) hq0).trans hqf
  have hc1 : w1.cell? ⟨w.heap.size, 0, none⟩ = some (.iface 113 (.pointer (some a))) := by rw [hw1]; simp only [World.cell?, heap_alloc_new]; rfl
  have hqp : Q ≠ P := Ne.symm hpq
  have hne : w.heap.size ≠ P := by omega
  have hne2 : w.heap.size ≠ Q := by omega
  have hne3 : P ≠ w.heap.size := by omega
  have hne4 : Q ≠ w.heap.size := by omega
  have HB1 := Lib.hid hb1
  have HW1 := Lib.hid hw1
  clear hp hq hpf hqf hb1 hw1
  go_wp2_with fail
  rw [← HW1.out]
  clear HW1
  generalize w.heap.size = H at *
  go_region
  have ep : ((w1.setCell ⟨P, 0, none⟩ (.int .i64 0)).setCell ⟨Q, 0, none⟩ (.iface 113 (.pointer (some a)))).drew.cell? ⟨P, 0, none⟩ = some (.int .i64 0) := by simp [go_sem, hp1, hpq, hqp]
  have eq : ((w1.setCell ⟨P, 0, none⟩ (.int .i64 0)).setCell ⟨Q, 0, none⟩ (.iface 113 (.pointer (some a)))).drew.cell? ⟨Q, 0, none⟩ = some (.iface 113 (.pointer (some a))) := by simp [go_sem, hp1, hq1, hpq, hqp]
  have EP := Lib.hid ep
  have EQ := Lib.hid eq
  clear ep eq
  go_wp2_with fail
  exact ⟨rfl, .panicking [{ wrongP a with recovered := true }], by cases c₀; simp_all [wrongP, errV], .tuple #[], by simp [results, Tryd.results42, go_sem], rfl, rfl, EP.out, EQ.out, ((HB1.out.mono (by omega : base ≤ H)).setCell hbp _ |>.setCell hbq _).drew⟩
end Go.Proofs.YtnnokbipcenbgaaDoor
/- Walks of package proof, third part: asked. -/
set_option linter.unusedVariables false
set_option linter.unusedSimpArgs false
set_option linter.unnecessarySimpa false
namespace Go.Proofs.YtnnokbipcenbgaaDoor
open Go.RowKit

theorem makeFunc_run (fn : Fn) (first cap : Array Value) (w : World) : (Instr.makeFunc fn first cap).run Tryd.prog w = .ok (.func fn first cap) w := rfl
/-- The world in which the asked call runs. -/
def askWB (w : World) : World := (w.alloc (.cells #[.slice none 0 0] 22)).alloc (.cells #[.nilIface] 27)
/-- The asked call gave up. -/
def AskNoB (w : World) (a : Addr) (e : Ending) (w' : World) : Prop := e = .returned (.tuple #[.slice none 0 0, errV a]) ∧ Below w.heap.size w w'
set_option maxRecDepth 8000 in
theorem askedB_no (w : World) (f : FuncId) (caps : Array Value) (a : Addr) (hcf : ∀ (args : Array Value) (w : World), (callFunc f args).run Tryd.prog w = .ok (.enter f args) w) (hdo : Calls Tryd.prog f (#[.agg #[]] ++ caps) (askWB w) (NoP (askWB w) a)) :
    Calls Tryd.prog 22 #[.func (.func f) #[] caps] w (AskNoB w a) := by
  have HD := Lib.hid hdo
  clear hdo
  have hmf := makeFunc_run
  go_enter_defers Tryd.func22, Tryd.ntmps22
  go_wp2_with fail
  refine HD.out.mono ?_
  rintro e w1 ⟨rfl, hb1⟩
  have hsz : (askWB w).heap.size = w.heap.size + 2 := by simp [askWB]
  have hs1 := hb1.size
  have hp : w1.cell? ⟨w.heap.size, 0, none⟩ = some (.slice none 0 0) := by
    refine (World.cell?_of_block (hb1.block _ (by rw [hsz]; simp))).trans ?_
    unfold askWB
    simp only [World.cell?, heap_alloc2_old]
    rfl
  have hq : w1.cell? ⟨w.heap.size + 1, 0, none⟩ = some .nilIface := by
    refine (World.cell?_of_block (hb1.block _ (by rw [hsz]; simp))).trans ?_
    unfold askWB
    simp only [World.cell?, heap_alloc2_new]
    rfl
  have hpf : w1.frozen? ⟨w.heap.size, 0, none⟩ = false := by
    refine (hb1.frozen (p := ⟨w.heap.size, 0, none⟩) (by rw [hsz]; simp)).trans ?_
    unfold askWB
    simp only [World.frozen?, heap_alloc2_old]
    rfl
  have hqf : w1.frozen? ⟨w.heap.size + 1, 0, none⟩ = false := by
    refine (hb1.frozen (p := ⟨w.heap.size + 1, 0, none⟩) (by rw [hsz]; simp)).trans ?_
    unfold askWB
    simp only [World.frozen?, heap_alloc2_new]
    rfl
  have hbw : Below w.heap.size w w1 := (show Below w.heap.size w (askWB w) from ((Below.refl _ _).alloc (Nat.le_refl _) _).alloc (by simp) _).trans (hb1.mono (by rw [hsz]; omega))
  refine leaves_cons (f := 41) (args := #[.pointer (some ⟨w.heap.size, 0, none⟩), .pointer (some ⟨w.heap.size + 1, 0, none⟩)]) (by simp) (by simp [go_sem]) ?_
  refine (catchB_wrong w.heap.size (w.heap.size + 1) w.heap.size a _ _ w1 hp hq hpf hqf (by omega) (by omega) (by omega) (Nat.le_refl _) (by omega)).mono ?_
  rintro e u' w2 ⟨rfl, rfl, hcp, hcq, hb2⟩
  simp only [Leaves, settle, wrongP, List.dropWhile_nil]
  refine ⟨.tuple #[.slice none 0 0, errV a], by simp [results, Tryd.results22, go_sem, hcp, hcq], rfl, hbw.trans hb2⟩
/-- The asked call answered v; what it made lies behind the two result variables. -/
def AskYesB (w : World) (Q : Value → World → Prop) (e : Ending) (w' : World) : Prop := ∃ v w1, e = .returned (.tuple #[v, .nilIface]) ∧ Q v w1 ∧ Below w.heap.size w w' ∧ w1.heap.size ≤ w'.heap.size ∧ ∀ b, w.heap.size + 2 ≤ b → w'.heap[b]? = w1.heap[b]?
set_option maxRecDepth 8000 in
theorem askedB_yes (w : World) (f : FuncId) (caps : Array Value) (Q : Value → World → Prop) (hcf : ∀ (args : Array Value) (w : World), (callFunc f args).run Tryd.prog w = .ok (.enter f args) w) (hone : ∀ v w, Q v w → ∃ A n c, v = .slice A n c)
    (hdo : Calls Tryd.prog f (#[.agg #[]] ++ caps) (askWB w) (fun e w' => ∃ v, e = .returned v ∧ Q v w' ∧ Below (askWB w).heap.size (askWB w) w')) :
    Calls Tryd.prog 22 #[.func (.func f) #[] caps] w (AskYesB w Q) := by
  have HD := Lib.hid hdo
  have HOne := Lib.hid hone
  clear hdo hone
  have hmf := makeFunc_run
  go_enter_defers Tryd.func22, Tryd.ntmps22
  go_wp2_with fail
  refine HD.out.mono ?_
  rintro e w1 ⟨v, rfl, hQ, hb1⟩
  have hsz : (askWB w).heap.size = w.heap.size + 2 := by simp [askWB]
  have hs1 := hb1.size
  have hp : w1.cell? ⟨w.heap.size, 0, none⟩ = some (.slice none 0 0) := by
    refine (World.cell?_of_block (hb1.block _ (by rw [hsz]; simp))).trans ?_
    unfold askWB
    simp only [World.cell?, heap_alloc2_old]
    rfl
  have hq : w1.cell? ⟨w.heap.size + 1, 0, none⟩ = some .nilIface := by
    refine (World.cell?_of_block (hb1.block _ (by rw [hsz]; simp))).trans ?_
    unfold askWB
    simp only [World.cell?, heap_alloc2_new]
    rfl
  have hpf : w1.frozen? ⟨w.heap.size, 0, none⟩ = false := by
    refine (hb1.frozen (p := ⟨w.heap.size, 0, none⟩) (by rw [hsz]; simp)).trans ?_
    unfold askWB
    simp only [World.frozen?, heap_alloc2_old]
    rfl
  have hqf : w1.frozen? ⟨w.heap.size + 1, 0, none⟩ = false := by
    refine (hb1.frozen (p := ⟨w.heap.size + 1, 0, none⟩) (by rw [hsz]; simp)).trans ?_
    unfold askWB
    simp only [World.frozen?, heap_alloc2_new]
    rfl
  have hbw : Below w.heap.size w w1 := (show Below w.heap.size w (askWB w) from ((Below.refl _ _).alloc (Nat.le_refl _) _).alloc (by simp) _).trans (hb1.mono (by rw [hsz]; omega))
  obtain ⟨A, n, c, rfl⟩ := HOne.out v w1 hQ
  have HQ := Lib.hid hQ
  have HBw := Lib.hid hbw
  clear hQ hbw hb1
  have hne : w.heap.size ≠ w.heap.size + 1 := by omega
  have hne2 : w.heap.size + 1 ≠ w.heap.size := by omega
  have ep : ((w1.setCell ⟨w.heap.size, 0, none⟩ (.slice A n c)).setCell ⟨w.heap.size + 1, 0, none⟩ .nilIface).cell? ⟨w.heap.size, 0, none⟩ = some (.slice A n c) := by simp [go_sem, hp]
  have eq : ((w1.setCell ⟨w.heap.size, 0, none⟩ (.slice A n c)).setCell ⟨w.heap.size + 1, 0, none⟩ .nilIface).cell? ⟨w.heap.size + 1, 0, none⟩ = some .nilIface := by simp [go_sem, hp, hq]
  have EP := Lib.hid ep
  have EQ := Lib.hid eq
  clear ep eq
  go_wp2_with fail
  refine leaves_cons (f := 41) (args := #[.pointer (some ⟨w.heap.size, 0, none⟩), .pointer (some ⟨w.heap.size + 1, 0, none⟩)]) (by simp) (by simp [go_sem]) ?_
  refine (catchB_idle ⟨w.heap.size, 0, none⟩ ⟨w.heap.size + 1, 0, none⟩ _).mono ?_
  rintro e u' w2 ⟨rfl, rfl, rfl⟩
  simp only [Leaves, settle]
  refine ⟨.tuple #[.slice A n c, .nilIface], by simp [results, Tryd.results22, go_sem, EP.out, EQ.out], _, w1, rfl, HQ.out, (HBw.out.setCell (Nat.le_refl _) _).setCell (by simp) _, by simp, fun b hb => ?_⟩
  exact (heap_setCell_other _ _ _ _ (show b ≠ w.heap.size + 1 by omega)).trans (heap_setCell_other _ _ _ _ (show b ≠ w.heap.size by omega))
/-- The world in which the asked call runs. -/
def askWI (w : World) : World := (w.alloc (.cells #[.int .i64 0] 3)).alloc (.cells #[.nilIface] 27)
/-- The asked call gave up. -/
def AskNoI (w : World) (a : Addr) (e : Ending) (w' : World) : Prop := e = .returned (.tuple #[.int .i64 0, errV a]) ∧ Below w.heap.size w w'
set_option maxRecDepth 8000 in
theorem askedI_no (w : World) (f : FuncId) (caps : Array Value) (a : Addr) (hcf : ∀ (args : Array Value) (w : World), (callFunc f args).run Tryd.prog w = .ok (.enter f args) w) (hdo : Calls Tryd.prog f (#[.agg #[]] ++ caps) (askWI w) (NoP (askWI w) a)) :
    Calls Tryd.prog 28 #[.func (.func f) #[] caps] w (AskNoI w a) := by
  have HD := Lib.hid hdo
  clear hdo
  have hmf := makeFunc_run
  go_enter_defers Tryd.func28, Tryd.ntmps28
  go_wp2_with fail
  refine HD.out.mono ?_
  rintro e w1 ⟨rfl, hb1⟩
  have hsz : (askWI w).heap.size = w.heap.size + 2 := by simp [askWI]
  have hs1 := hb1.size
  have hp : w1.cell? ⟨w.heap.size, 0, none⟩ = some (.int .i64 0) := by
    refine (World.cell?_of_block (hb1.block _ (by rw [hsz]; simp))).trans ?_
    unfold askWI
    simp only [World.cell?, heap_alloc2_old]
    rfl
  have hq : w1.cell? ⟨w.heap.size + 1, 0, none⟩ = some .nilIface := by
    refine (World.cell?_of_block (hb1.block _ (by rw [hsz]; simp))).trans ?_
    unfold askWI
    simp only [World.cell?, heap_alloc2_new]
    rfl
  have hpf : w1.frozen? ⟨w.heap.size, 0, none⟩ = false := by
    refine (hb1.frozen (p := ⟨w.heap.size, 0, none⟩) (by rw [hsz]; simp)).trans ?_
    unfold askWI
    simp only [World.frozen?, heap_alloc2_old]
    rfl
  have hqf : w1.frozen? ⟨w.heap.size + 1, 0, none⟩ = false := by
    refine (hb1.frozen (p := ⟨w.heap.size + 1, 0, none⟩) (by rw [hsz]; simp)).trans ?_
    unfold askWI
    simp only [World.frozen?, heap_alloc2_new]
    rfl
  have hbw : Below w.heap.size w w1 := (show Below w.heap.size w (askWI w) from ((Below.refl _ _).alloc (Nat.le_refl _) _).alloc (by simp) _).trans (hb1.mono (by rw [hsz]; omega))
  refine leaves_cons (f := 42) (args := #[.pointer (some ⟨w.heap.size, 0, none⟩), .pointer (some ⟨w.heap.size + 1, 0, none⟩)]) (by simp) (by simp [go_sem]) ?_
  refine (catchI_wrong w.heap.size (w.heap.size + 1) w.heap.size a _ _ w1 hp hq hpf hqf (by omega) (by omega) (by omega) (Nat.le_refl _) (by omega)).mono ?_
  rintro e u' w2 ⟨rfl, rfl, hcp, hcq, hb2⟩
  simp only [Leaves, settle, wrongP, List.dropWhile_nil]
  refine ⟨.tuple #[.int .i64 0, errV a], by simp [results, Tryd.results28, go_sem, hcp, hcq], rfl, hbw.trans hb2⟩
/-- The asked call answered v; what it made lies behind the two result variables. -/
def AskYesI (w : World) (Q : Value → World → Prop) (e : Ending) (w' : World) : Prop := ∃ v w1, e = .returned (.tuple #[v, .nilIface]) ∧ Q v w1 ∧ Below w.heap.size w w' ∧ w1.heap.size ≤ w'.heap.size ∧ ∀ b, w.heap.size + 2 ≤ b → w'.heap[b]? = w1.heap[b]?
set_option maxRecDepth 8000 in
theorem askedI_yes (w : World) (f : FuncId) (caps : Array Value) (Q : Value → World → Prop) (hcf : ∀ (args : Array Value) (w : World), (callFunc f args).run Tryd.prog w = .ok (.enter f args) w) (hone : ∀ v w, Q v w → ∃ z, v = .int .i64 z)
    (hdo : Calls Tryd.prog f (#[.agg #[]] ++ caps) (askWI w) (fun e w' => ∃ v, e = .returned v ∧ Q v w' ∧ Below (askWI w).heap.size (askWI w) w')) :
    Calls Tryd.prog 28 #[.func (.func f) #[] caps] w (AskYesI w Q) := by
  have HD := Lib.hid hdo
  have HOne := Lib.hid hone
  clear hdo hone
  have hmf := makeFunc_run
  go_enter_defers Tryd.func28, Tryd.ntmps28
  go_wp2_with fail
  refine HD.out.mono ?_
  rintro e w1 ⟨v, rfl, hQ, hb1⟩
  have hsz : (askWI w).heap.size = w.heap.size + 2 := by simp [askWI]
  have hs1 := hb1.size
  have hp : w1.cell? ⟨w.heap.size, 0, none⟩ = some (.int .i64 0) := by
    refine (World.cell?_of_block (hb1.block _ (by rw [hsz]; simp))).trans ?_
    unfold askWI
    simp only [World.cell?, heap_alloc2_old]
    rfl
  have hq : w1.cell? ⟨w.heap.size + 1, 0, none⟩ = some .nilIface := by
    refine (World.cell?_of_block (hb1.block _ (by rw [hsz]; simp))).trans ?_
    unfold askWI
    simp only [World.cell?, heap_alloc2_new]
    rfl
  have hpf : w1.frozen? ⟨w.heap.size, 0, none⟩ = false := by
    refine (hb1.frozen (p := ⟨w.heap.size, 0, none⟩) (by rw [hsz]; simp)).trans ?_
    unfold askWI
    simp only [World.frozen?, heap_alloc2_old]
    rfl
  have hqf : w1.frozen? ⟨w.heap.size + 1, 0, none⟩ = false := by
    refine (hb1.frozen (p := ⟨w.heap.size + 1, 0, none⟩) (by rw [hsz]; simp)).trans ?_
    unfold askWI
    simp only [World.frozen?, heap_alloc2_new]
    rfl
  have hbw : Below w.heap.size w w1 := (show Below w.heap.size w (askWI w) from ((Below.refl _ _).alloc (Nat.le_refl _) _).alloc (by simp) _).trans (hb1.mono (by rw [hsz]; omega))
  obtain ⟨z, rfl⟩ := HOne.out v w1 hQ
  have HQ := Lib.hid hQ
  have HBw := Lib.hid hbw
  clear hQ hbw hb1
  have hne : w.heap.size ≠ w.heap.size + 1 := by omega
  have hne2 : w.heap.size + 1 ≠ w.heap.size := by omega
  have ep : ((w1.setCell ⟨w.heap.size, 0, none⟩ (.int .i64 z)).setCell ⟨w.heap.size + 1, 0, none⟩ .nilIface).cell? ⟨w.heap.size, 0, none⟩ = some (.int .i64 z) := by simp [go_sem, hp]
  have eq : ((w1.setCell ⟨w.heap.size, 0, none⟩ (.int .i64 z)).setCell ⟨w.heap.size + 1, 0, none⟩ .nilIface).cell? ⟨w.heap.size + 1, 0, none⟩ = some .nilIface := by simp [go_sem, hp, hq]
  have EP := Lib.hid ep
  have EQ := Lib.hid eq
  clear ep eq
  go_wp2_with fail
  refine leaves_cons (f := 42) (args := #[.pointer (some ⟨w.heap.size, 0, none⟩), .pointer (some ⟨w.heap.size + 1, 0, none⟩)]) (by simp) (by simp [go_sem]) ?_
  refine (catchI_idle ⟨w.heap.size, 0, none⟩ ⟨w.heap.size + 1, 0, none⟩ _).mono ?_
  rintro e u' w2 ⟨rfl, rfl, rfl⟩
  simp only [Leaves, settle]
  refine ⟨.tuple #[.int .i64 z, .nilIface], by simp [results, Tryd.results28, go_sem, EP.out, EQ.out], _, w1, rfl, HQ.out, (HBw.out.setCell (Nat.le_refl _) _).setCell (by simp) _, by simp, fun b hb => ?_⟩
  exact (heap_setCell_other _ _ _ _ (show b ≠ w.heap.size + 1 by omega)).trans (heap_setCell_other _ _ _ _ (show b ≠ w.heap.size by omega))
end Go.Proofs.YtnnokbipcenbgaaDoor
