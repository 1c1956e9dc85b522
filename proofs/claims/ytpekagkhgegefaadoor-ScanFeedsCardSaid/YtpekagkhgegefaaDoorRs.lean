/- Walk of the reference of layer 5: Get. -/
import Derived.Test.YtpekagkhgegefaaDoorRp
import Derived.Test.YtpekagkhgegefaaDoorMg
import Derived.Test.YtpekagkhgegefaaDoorVl
import Derived.RegionTactic
import Derived.Deep.RegionWith
set_option linter.unusedVariables false
set_option linter.unusedSimpArgs false
set_option linter.unnecessarySimpa false
namespace Go.Proofs.YtpekagkhgegefaaDoor
open Go.RowKit
attribute [local go_sem] run_store_flt

def RGetP (b : Bs) (w : World) (e : Ending) (w' : World) : Prop :=
  Below w.heap.size w w' ∧ match getF b with
  | some f => ∃ A c, e = .returned (.tuple #[frV f A c, .bool true]) ∧ RdC (fun k => w.heap.size < k ∧ k < w'.heap.size) w' A (bvs f.bytes)
  | none => e = .returned (.tuple #[frV (Fr.of 0) none 0, .bool false])
theorem RGetP.no {b : Bs} {w w' : World} {e : Ending} (h : getF b = none) (hb : Below w.heap.size w w') (he : e = .returned (.tuple #[frV (Fr.of 0) none 0, .bool false])) : RGetP b w e w' := ⟨hb, by rw [h]; exact he⟩
theorem RGetP.yes {b : Bs} {f : Fr} {w w' : World} {A : Option Addr} {c : Nat} (h : getF b = some f) (hb : Below w.heap.size w w') (hr : RdC (fun k => w.heap.size < k ∧ k < w'.heap.size) w' A (bvs f.bytes)) : RGetP b w (.returned (.tuple #[frV f A c, .bool true])) w' := ⟨hb, by rw [h]; exact ⟨A, c, rfl, hr⟩⟩
theorem RGetP.er {b : Bs} {w w' : World} {e : Ending} (h : RGetP b w e w') (hg : getF b = none) : e = .returned (.tuple #[frV (Fr.of 0) none 0, .bool false]) ∧ Below w.heap.size w w' := by
  obtain ⟨h1, h2⟩ := h
  rw [hg] at h2
  exact ⟨h2, h1⟩
theorem RGetP.ok {b : Bs} {w w' : World} {e : Ending} {f : Fr} (h : RGetP b w e w') (hg : getF b = some f) : Below w.heap.size w w' ∧ ∃ A c, e = .returned (.tuple #[frV f A c, .bool true]) ∧ RdC (fun k => w.heap.size < k ∧ k < w'.heap.size) w' A (bvs f.bytes) := by
  obtain ⟨h1, h2⟩ := h
  rw [hg] at h2
  exact ⟨h1, h2⟩
theorem rget_ret {b : Bs} {w W3 : World} {g : Fr} {A : Option Addr} {K : Nat} {r : Bool} {tmps : Array Value} (h0 : W3.heap[w.heap.size]? = some (.cells (frCs (Fr.of 0) none 0) 25 (0, 0)))
    (ht : tmps[4]? = some (.pointer (some ⟨w.heap.size, 0, none⟩))) (h5 : tmps[5]? = some (.bool r)) (hR : RGetP b w (.returned (.tuple #[frV g A K, .bool r])) (frPut W3 w.heap.size g A K)) :
    bodyPost Tryd.prog Tryd.f32 (RGetP b w) .ret { tmps := tmps, defers := [] } (frPut W3 w.heap.size g A K) := by
  have hfin : ∀ i : Nat, (frPut W3 w.heap.size g A K).cell? ⟨w.heap.size, i, none⟩ = (frCs g A K)[i]? := fun i =>
    cell_of_row _ _ _ _ _ _ (frPut_heap (f := Fr.of 0) (A0 := none) (c0 := 0) h0)
  have d0 := (hfin 0).trans (show _ = some (.int .i64 g.kind) from rfl)
  have d1 := (hfin 1).trans (show _ = some (.int .i64 g.seq) from rfl)
  have d2 := (hfin 2).trans (show _ = some (.int .i64 g.got) from rfl)
  have d3 := (hfin 3).trans (show _ = some (.int .i64 g.stream) from rfl)
  have d4 := (hfin 4).trans (show _ = some (.int .i64 g.amount) from rfl)
  have d5 := (hfin 5).trans (show _ = some (.int .i64 g.code) from rfl)
  have d6 := (hfin 6).trans (show _ = some (.string g.who) from rfl)
  have d7 := (hfin 7).trans (show _ = some (.string g.name) from rfl)
  have d8 := (hfin 8).trans (show _ = some (.float .f64 g.weight) from rfl)
  have d9 := (hfin 9).trans (show _ = some (.slice A g.bytes.length K) from rfl)
  clear hfin
  refine bodyPost_ret (v := .tuple #[frV g A K, .bool r]) ?_ rfl hR
  simp [results, Tryd.results32, go_sem, ht, h5, d0, d1, d2, d3, d4, d5, d6, d7, d8, d9, frV]
/-- Nothing is told: the zero frame is stored over itself. -/
theorem rget_no {b : Bs} {w W3 : World} {tmps : Array Value} (hg : getF b = none) (hb : Below w.heap.size w W3) (h0 : W3.heap[w.heap.size]? = some (.cells (frCs (Fr.of 0) none 0) 25 (0, 0)))
    (ht : tmps[4]? = some (.pointer (some ⟨w.heap.size, 0, none⟩))) (h5 : tmps[5]? = some (.bool false)) :
    bodyPost Tryd.prog Tryd.f32 (RGetP b w) .ret { tmps := tmps, defers := [] } (frPut W3 w.heap.size (Fr.of 0) none 0) :=
  rget_ret h0 ht h5 (RGetP.no hg (frPut_below hb (Nat.le_refl _)) rfl)
set_option maxRecDepth 8000 in
set_option maxHeartbeats 3200000 in
theorem rget_short (w : World) (H : Value) (A : Option Addr) (c : Nat) (b : Bs) (hb : b.length ≤ 140737488355328) (h : b.length < 7 ∨ b.length > 1024) :
    Calls Tryd.prog 32 #[H, .slice A b.length c] w (RGetP b w) := by
  have hg := get_short5 h
  have HG := Lib.hid hg
  clear hg
  by_cases h7 : b.length < 7
  · have k7 : (b.length : Int) < 7 := by omega
    clear h
    go_enter Tryd.func32, Tryd.ntmps32
    go_wp2_with fail
    exact bodyPost_ret (v := .tuple #[frV (Fr.of 0) none 0, .bool false]) (by simp [results, Tryd.results32, go_sem, frV, Fr.of, noS]) rfl (RGetP.no HG.out (by repeat (first | exact Below.refl _ _ | refine Below.drew ?_ | refine Below.alloc ?_ (Nat.le_refl _) _ | refine Below.setCell ?_ (by simp) _)) rfl)
  · have k7 : ¬ (b.length : Int) < 7 := by omega
    have k10 : (1024 : Int) < (b.length : Int) := by omega
    clear h
    go_enter Tryd.func32, Tryd.ntmps32
    go_wp2_with fail
    exact bodyPost_ret (v := .tuple #[frV (Fr.of 0) none 0, .bool false]) (by simp [results, Tryd.results32, go_sem, frV, Fr.of, noS]) rfl (RGetP.no HG.out (by repeat (first | exact Below.refl _ _ | refine Below.drew ?_ | refine Below.alloc ?_ (Nat.le_refl _) _ | refine Below.setCell ?_ (by simp) _)) rfl)
set_option maxRecDepth 8000 in
set_option maxHeartbeats 6400000 in
theorem rget_long (w : World) (H base : Nat) (va vb : Value) (A : Option Addr) (c : Nat) (b : Bs) (hT : TableAt base w H va vb) (hR : RdC (· < w.heap.size) w A (bvs b)) (hc : b.length ≤ c) (h7 : 7 ≤ b.length) (h10 : b.length ≤ 1024) :
    Calls Tryd.prog 32 #[.pointer (some ⟨H, 0, none⟩), .slice A b.length c] w (RGetP b w) := by
  obtain ⟨ad, rfl, hadb, hcc⟩ := hR (by intro e; have : b = [] := List.map_eq_nil_iff.1 e; subst this; simp at h7)
  have hcell0 := hcc 0 _ (bvs_get b 0 (by omega))
  have hcell1 := hcc 1 _ (bvs_get b 1 (by omega))
  have hcell2 := hcc 2 _ (bvs_get b 2 (by omega))
  rw [show ad.add 0 = ad by unfold Addr.add; simp] at hcell0
  rw [show ad.add 1 = ⟨ad.block, ad.off + 1, none⟩ by unfold Addr.add; simp] at hcell1
  rw [show ad.add 2 = ⟨ad.block, ad.off + 2, none⟩ by unfold Addr.add; simp] at hcell2
  unfold bv at hcell0 hcell1 hcell2
  obtain ⟨F, hF⟩ : ∃ F, F = b.take (b.length - 4) := ⟨_, rfl⟩
  have hfl : F.length = b.length - 4 := by rw [hF, List.length_take]; omega
  obtain ⟨T, hTl⟩ : ∃ T, T = b.drop (b.length - 4) := ⟨_, rfl⟩
  obtain ⟨w1, hw1⟩ : ∃ W, W = w.alloc (Obj.cells #[.int .i64 0, .int .i64 0, .int .i64 0, .int .i64 0, .int .i64 0, .int .i64 0, .string ⟨#[]⟩, .string ⟨#[]⟩, .float .f64 0, .slice none 0 0] 25) := ⟨_, rfl⟩
  have hb1 : Below w.heap.size w w1 := by rw [hw1]; exact below_box _ _
  have hs1 : w1.heap.size = w.heap.size + 1 := by rw [hw1]; simp
  have hh1 : w1.heap[w.heap.size]? = some (.cells (frCs (Fr.of 0) none 0) 25 (0, 0)) := by rw [hw1]; exact heap_alloc_new _ _
  have hdig : ∀ W, Below w1.heap.size w1 W → Calls Tryd.prog 35 #[.pointer (some ⟨H, 0, none⟩), .slice (some ad) (b.length - 4) c] W (RDigestP W F) := fun W hW => by
    have hr : RdC (· < W.heap.size) W (some ad) (bvs F) := by rw [hF, bvs_take]; exact ((hR.step hb1).step hW).take _
    have h := rdigest_any W H va vb base (some ad) c F ((hT.on hb1).on hW) hr (by omega)
    rw [hfl] at h
    exact h
  have hcvt : ∀ W, Below w1.heap.size w1 W → (convert 23 9 (.slice (some (ad.add (b.length - 4))) (b.length - (b.length - 4)) (c - (b.length - 4)))).run Tryd.prog W = .ok (.string ⟨T.toArray⟩) W := fun W hW => by
    have hr := ((hR.step hb1).step hW).drop (b.length - 4) false (by simp)
    rw [show (if false = true then some ad else (some ad : Option Addr).map (·.add (b.length - 4))) = some (ad.add (b.length - 4)) by simp] at hr
    have hr2 : RdC (· < W.heap.size) W (some (ad.add (b.length - 4))) (bvs T) := by rw [hTl]; simpa [bvs, List.map_drop] using hr
    exact run_str_of Tryd.underlying23 Tryd.underlying5 Tryd.underlying9 (by rw [hTl, List.length_drop]) hr2
  have HDig := Lib.hid hdig
  have HCvt := Lib.hid hcvt
  have HB1 := Lib.hid hb1
  have HS1 := Lib.hid hs1
  have HH1 := Lib.hid hh1
  have HF := Lib.hid hF
  have HFl := Lib.hid hfl
  have HTl := Lib.hid hTl
  have HAd := Lib.hid hadb
  have HT := Lib.hid hT
  have HR := Lib.hid hR
  have HC0 := Lib.hid hcell0
  have HC1 := Lib.hid hcell1
  have HC2 := Lib.hid hcell2
  have hcw := hcvt w1.drew (Below.refl _ _).drew
  have k7 : ¬ (b.length : Int) < 7 := by omega
  have k10 : ¬ (1024 : Int) < (b.length : Int) := by omega
  have k4 : (b.length : Int) - 4 ≤ (c : Int) := by omega
  have k40 : (0 : Int) ≤ (b.length : Int) - 4 := by omega
  have HW1 := Lib.hid hw1.symm
  clear hcc hdig hcvt hb1 hs1 hh1 hF hfl hTl hadb hT hR hw1 hcell0 hcell1 hcell2
  go_enter Tryd.func32, Tryd.ntmps32
  go_wp2_with fail
  rw [HW1.out]
  have hlt : w.heap.size < w1.heap.size := by rw [HS1.out]; omega
  have hcell0 := cell_on HC0.out HAd.out HB1.out
  have hcell1 := cell_on HC1.out (by exact HAd.out) HB1.out
  have n1 : ((b.length - 4 : Nat) : Int) ≤ (c : Int) := by omega
  have n3 : ¬ c = b.length - 4 := by omega
  have n4 : (b.length : Int) - 4 ≤ (b.length : Int) := by omega
  have n5 : IntKind.i64.wrap ((b.length : Int) - 4) = (b.length : Int) - 4 := IntWalk.i64_in _ (by omega)
  have n6 : ((b.length : Int) - 4).toNat = b.length - 4 := by omega
  have n7 : (4 : Int) ≤ (b.length : Int) := by omega
  -- PREFIX END
  have hx0 := (b[0]'(by omega)).toNat_lt
  have hx1 := (b[1]'(by omega)).toNat_lt
  have hb2 := num_two b (by omega)
  generalize (b[0]'(by omega)).toNat = x0 at *
  generalize (b[1]'(by omega)).toNat = x1 at *
  have HN2 := Lib.hid hb2
  have hS0 : (fun w' => w'.cell? ad = some (.int .u8 (x0 : Int)) ∧ w'.cell? ⟨ad.block, ad.off + 1, none⟩ = some (.int .u8 (x1 : Int)) ∧ (convert 23 9 (.slice (some (ad.add (b.length - 4))) (b.length - (b.length - 4)) (c - (b.length - 4)))).run Tryd.prog w' = .ok (.string ⟨T.toArray⟩) w') w1.drew := ⟨cell_on hcell0 (Nat.lt_trans HAd.out hlt) (Below.refl _ _).drew, cell_on hcell1 (by exact Nat.lt_trans HAd.out hlt) (Below.refl _ _).drew, HCvt.out _ (Below.refl _ _).drew⟩
  have HS0 := Lib.hid hS0
  clear hS0 hb2
  cases hqq : ((sha F).take 4 == T) with
  | false =>
    have HG := Lib.hid (show getF b = none from get_sum (by rw [← HF.out, ← HTl.out]; intro e; rw [e] at hqq; simp at hqq))
    refine wp_region_held_drew (S := (fun w' => w'.cell? ad = some (.int .u8 (x0 : Int)) ∧ w'.cell? ⟨ad.block, ad.off + 1, none⟩ = some (.int .u8 (x1 : Int)) ∧ (convert 23 9 (.slice (some (ad.add (b.length - 4))) (b.length - (b.length - 4)) (c - (b.length - 4)))).run Tryd.prog w' = .ok (.string ⟨T.toArray⟩) w')) (by kernel_rfl) HS0.out (fun hHeld => ?_)
    refine wpAnyH_take (i := 0) (oi := { dst := some 27, op := Op.move (Operand.tmp 0), type := 42, pos := "ref.go:171", after := #[], guard := none }) (v := ?v0x1) rfl (by kernel_rfl) (by kernel_rfl) (by kernel_rfl) (fun _ _ _ h => h) (Or.inl ⟨by rfl, ?hy0x1⟩) (by assumption) ?rest0x1
    case hy0x1 => (intro w hSw; (try dsimp only at hSw); go_simp; first | done | with_reducible rfl)
    simp only [Act.put, List.setIfInBounds_toArray, List.set_cons_zero, List.set_cons_succ]
    refine wpAnyH_take (i := 1) (oi := { dst := some 28, op := Op.move (Operand.tmp 6), type := 23, pos := "ref.go:171", after := #[], guard := none }) (v := ?v1x2) rfl (by kernel_rfl) (by kernel_rfl) (by kernel_rfl) (fun _ _ _ h => h) (Or.inl ⟨by rfl, ?hy1x2⟩) (by assumption) ?rest1x2
    case hy1x2 => (intro w hSw; (try dsimp only at hSw); go_simp; first | done | with_reducible rfl)
    simp only [Act.put, List.setIfInBounds_toArray, List.set_cons_zero, List.set_cons_succ]
    refine wpAnyH_take (i := 5) (oi := { dst := some 32, op := Op.move (Operand.tmp 1), type := 23, pos := "ref.go:171", after := #[], guard := none }) (v := ?v5x3) rfl (by kernel_rfl) (by kernel_rfl) (by kernel_rfl) (fun _ _ _ h => h) (Or.inl ⟨by rfl, ?hy5x3⟩) (by assumption) ?rest5x3
    case hy5x3 => (intro w hSw; (try dsimp only at hSw); go_simp; first | done | with_reducible rfl)
    simp only [Act.put, List.setIfInBounds_toArray, List.set_cons_zero, List.set_cons_succ]
    refine wpAnyH_take (i := 6) (oi := { dst := some 33, op := Op.move (Operand.tmp 1), type := 23, pos := "ref.go:171", after := #[], guard := none }) (v := ?v6x4) rfl (by kernel_rfl) (by kernel_rfl) (by kernel_rfl) (fun _ _ _ h => h) (Or.inl ⟨by rfl, ?hy6x4⟩) (by assumption) ?rest6x4
    case hy6x4 => (intro w hSw; (try dsimp only at hSw); go_simp; first | done | with_reducible rfl)
    simp only [Act.put, List.setIfInBounds_toArray, List.set_cons_zero, List.set_cons_succ]
    refine wpAnyH_take (i := 7) (oi := { dst := some 34, op := Op.call { callee := Callee.builtin Builtin.len, args := #[Operand.tmp 33], argTypes := #[23] }, type := 3, pos := "ref.go:171", after := #[{ on := 6, ground := Ground.data }], guard := none }) (v := ?v7x5) rfl (by kernel_rfl) (by kernel_rfl) (by kernel_rfl) (fun _ _ _ h => h) (Or.inl ⟨by rfl, ?hy7x5⟩) (by assumption) ?rest7x5
    case hy7x5 => (intro w hSw; (try dsimp only at hSw); go_simp; first | done | with_reducible rfl)
    simp only [Act.put, List.setIfInBounds_toArray, List.set_cons_zero, List.set_cons_succ]
    refine wpAnyH_take (i := 8) (oi := { dst := some 35, op := Op.binOp BinOp.sub 3 (Operand.tmp 34) (Operand.const (Value.int IntKind.i64 4)) 3, type := 3, pos := "ref.go:171", after := #[{ on := 7, ground := Ground.data }], guard := none }) (v := ?v8x6) rfl (by kernel_rfl) (by kernel_rfl) (by kernel_rfl) (fun _ _ _ h => h) (Or.inl ⟨by rfl, ?hy8x6⟩) (by assumption) ?rest8x6
    case hy8x6 => (intro w hSw; (try dsimp only at hSw); go_simp; first | done | with_reducible rfl)
    simp only [Act.put, List.setIfInBounds_toArray, List.set_cons_zero, List.set_cons_succ]
    refine wpAnyH_take (i := 9) (oi := { dst := some 36, op := Op.slice 23 (Operand.tmp 32) (some (Operand.tmp 35)) none none, type := 23, pos := "ref.go:171", after := #[{ on := 5, ground := Ground.data }, { on := 8, ground := Ground.data }], guard := none }) (v := ?v9x7) rfl (by kernel_rfl) (by kernel_rfl) (by kernel_rfl) (fun _ _ _ h => h) (Or.inl ⟨by rfl, ?hy9x7⟩) (by assumption) ?rest9x7
    case hy9x7 => (intro w hSw; (try dsimp only at hSw); go_simp; first | done | with_reducible rfl)
    simp only [Act.put, List.setIfInBounds_toArray, List.set_cons_zero, List.set_cons_succ]
    refine wpAnyH_take (i := 10) (oi := { dst := some 37, op := Op.convert 23 9 (Operand.tmp 36), type := 9, pos := "ref.go:171", after := #[{ on := 9, ground := Ground.data }], guard := none }) (v := ?v10x8) rfl (by kernel_rfl) (by kernel_rfl) (by kernel_rfl) (fun _ _ _ h => h) (Or.inl ⟨by rfl, ?hy10x8⟩) (by assumption) ?rest10x8
    case hy10x8 => (intro w hSw; (try dsimp only at hSw); go_simp; first | done | with_reducible rfl)
    simp only [Act.put, List.setIfInBounds_toArray, List.set_cons_zero, List.set_cons_succ]
    refine wpAnyH_ready (rs := [2]) (by kernel_rfl) (by simp) ?_
    refine AllReadyH.cons (o := { dst := some 29, op := Op.call { callee := Callee.value (Operand.func 35), args := #[Operand.tmp 27, Operand.tmp 28], argTypes := #[42, 23] }, type := 23, pos := "ref.go:171", after := #[{ on := 0, ground := Ground.data }, { on := 1, ground := Ground.data }], guard := none }) rfl (fun K hK => ?_) AllReadyH.nil
    go_simp
    go_wp2_with (go_at_call 35; refine (HDig.out _ (by first | exact (Below.refl _ _).drew | exact Below.refl _ _)).mono ?_; rintro e wd ⟨vd, rfl, hod, hbd⟩; obtain ⟨Ad, cd, rfl, hcd, _⟩ := own_slice hod; have hc4 : (4 : Int) ≤ (cd : Int) := (by omega); have hcvd : (convert 23 9 (.slice Ad 4 cd)).run Tryd.prog wd = .ok (.string ⟨((sha F).take 4).toArray⟩) wd := run_str_of Tryd.underlying23 Tryd.underlying5 Tryd.underlying9 (sha4_len F).symm (by rw [bvs_take]; exact (RdC.of_own hod).take 4))
    have hb1d : Below w1.heap.size w1 wd := (Below.refl _ _).drew.trans hbd
    refine hK.out _ _ ⟨cell_on hcell0 (Nat.lt_trans HAd.out hlt) hb1d, cell_on hcell1 (by exact Nat.lt_trans HAd.out hlt) hb1d, HCvt.out _ hb1d⟩ (fun hHeld2 => ?_)
    clear hK K hHeld
    refine wpAnyH_take (i := 3) (oi := { dst := some 30, op := Op.slice 23 (Operand.tmp 29) none (some (Operand.const (Value.int IntKind.i64 4))) none, type := 23, pos := "ref.go:171", after := #[{ on := 2, ground := Ground.data }], guard := none }) (v := ?v3x9) rfl (by kernel_rfl) (by kernel_rfl) (by kernel_rfl) (fun _ _ _ h => h) (Or.inl ⟨by rfl, ?hy3x9⟩) (by assumption) ?rest3x9
    case hy3x9 => (intro w hSw; (try dsimp only at hSw); go_simp; first | done | with_reducible rfl)
    simp only [Act.put, List.setIfInBounds_toArray, List.set_cons_zero, List.set_cons_succ]
    refine wpAnyH_ready (rs := [4]) (by kernel_rfl) (by simp) ?_
    refine AllReadyH.cons (o := { dst := some 31, op := Op.convert 23 9 (Operand.tmp 30), type := 9, pos := "ref.go:171", after := #[{ on := 3, ground := Ground.data }], guard := none }) rfl (fun K hK => ?_) AllReadyH.nil
    go_simp
    refine hK.out _ _ hHeld2 (fun hHeld3 => ?_)
    clear hK K hHeld2
    refine wpAnyH_take (i := 11) (oi := { dst := some 38, op := Op.binOp BinOp.neq 9 (Operand.tmp 31) (Operand.tmp 37) 9, type := 4, pos := "ref.go:171", after := #[{ on := 4, ground := Ground.data }, { on := 10, ground := Ground.data }], guard := none }) (v := ?v11x10) rfl (by kernel_rfl) (by kernel_rfl) (by kernel_rfl) (fun _ _ _ h => h) (Or.inl ⟨by rfl, ?hy11x10⟩) (by assumption) ?rest11x10
    case hy11x10 => (intro w hSw; (try dsimp only at hSw); go_simp; first | done | with_reducible rfl)
    simp only [Act.put, List.setIfInBounds_toArray, List.set_cons_zero, List.set_cons_succ]
    refine wpAnyH_take (i := 12) (oi := { dst := some 39, op := Op.move (Operand.tmp 38), type := 4, pos := "ref.go:171", after := #[{ on := 11, ground := Ground.data }, { on := 2, ground := Ground.chain }], guard := none }) (v := ?v12x11) rfl (by kernel_rfl) (by kernel_rfl) (by kernel_rfl) (fun _ _ _ h => h) (Or.inl ⟨by rfl, ?hy12x11⟩) (by assumption) ?rest12x11
    case hy12x11 => (intro w hSw; (try dsimp only at hSw); go_simp; first | done | with_reducible rfl)
    simp only [Act.put, List.setIfInBounds_toArray, List.set_cons_zero, List.set_cons_succ]
    refine wpAnyH_take (i := 13) (oi := { dst := some 40, op := Op.move (Operand.tmp 1), type := 23, pos := "ref.go:171", after := #[{ on := 12, ground := Ground.guard }], guard := some (12, false) }) (v := undef) rfl (by kernel_rfl) (by kernel_rfl) (by kernel_rfl) (fun _ _ _ h => h) (Or.inr ⟨by rfl, rfl⟩) (by assumption) ?_
    simp only [Act.put, List.setIfInBounds_toArray, List.set_cons_zero, List.set_cons_succ]
    refine wpAnyH_take (i := 14) (oi := { dst := some 41, op := Op.indexAddr 23 (Operand.tmp 40) (Operand.const (Value.int IntKind.i64 0)), type := 0, pos := "ref.go:171", after := #[{ on := 13, ground := Ground.data }, { on := 12, ground := Ground.guard }], guard := some (12, false) }) (v := undef) rfl (by kernel_rfl) (by kernel_rfl) (by kernel_rfl) (fun _ _ _ h => h) (Or.inr ⟨by rfl, rfl⟩) (by assumption) ?_
    simp only [Act.put, List.setIfInBounds_toArray, List.set_cons_zero, List.set_cons_succ]
    refine wpAnyH_take (i := 15) (oi := { dst := some 42, op := Op.load 5 (Operand.tmp 41), type := 5, pos := "ref.go:171", after := #[{ on := 14, ground := Ground.data }, { on := 12, ground := Ground.guard }], guard := some (12, false) }) (v := undef) rfl (by kernel_rfl) (by kernel_rfl) (by kernel_rfl) (fun _ _ _ h => h) (Or.inr ⟨by rfl, rfl⟩) (by assumption) ?_
    simp only [Act.put, List.setIfInBounds_toArray, List.set_cons_zero, List.set_cons_succ]
    refine wpAnyH_take (i := 16) (oi := { dst := some 43, op := Op.convert 5 3 (Operand.tmp 42), type := 3, pos := "ref.go:171", after := #[{ on := 15, ground := Ground.data }, { on := 12, ground := Ground.guard }], guard := some (12, false) }) (v := undef) rfl (by kernel_rfl) (by kernel_rfl) (by kernel_rfl) (fun _ _ _ h => h) (Or.inr ⟨by rfl, rfl⟩) (by assumption) ?_
    simp only [Act.put, List.setIfInBounds_toArray, List.set_cons_zero, List.set_cons_succ]
    refine wpAnyH_take (i := 17) (oi := { dst := some 44, op := Op.binOp BinOp.mul 3 (Operand.const (Value.int IntKind.i64 256)) (Operand.tmp 43) 3, type := 3, pos := "ref.go:171", after := #[{ on := 16, ground := Ground.data }, { on := 12, ground := Ground.guard }], guard := some (12, false) }) (v := undef) rfl (by kernel_rfl) (by kernel_rfl) (by kernel_rfl) (fun _ _ _ h => h) (Or.inr ⟨by rfl, rfl⟩) (by assumption) ?_
    simp only [Act.put, List.setIfInBounds_toArray, List.set_cons_zero, List.set_cons_succ]
    refine wpAnyH_take (i := 18) (oi := { dst := some 45, op := Op.move (Operand.tmp 1), type := 23, pos := "ref.go:171", after := #[{ on := 12, ground := Ground.guard }], guard := some (12, false) }) (v := undef) rfl (by kernel_rfl) (by kernel_rfl) (by kernel_rfl) (fun _ _ _ h => h) (Or.inr ⟨by rfl, rfl⟩) (by assumption) ?_
    simp only [Act.put, List.setIfInBounds_toArray, List.set_cons_zero, List.set_cons_succ]
    refine wpAnyH_take (i := 19) (oi := { dst := some 46, op := Op.indexAddr 23 (Operand.tmp 45) (Operand.const (Value.int IntKind.i64 1)), type := 0, pos := "ref.go:171", after := #[{ on := 18, ground := Ground.data }, { on := 12, ground := Ground.guard }], guard := some (12, false) }) (v := undef) rfl (by kernel_rfl) (by kernel_rfl) (by kernel_rfl) (fun _ _ _ h => h) (Or.inr ⟨by rfl, rfl⟩) (by assumption) ?_
    simp only [Act.put, List.setIfInBounds_toArray, List.set_cons_zero, List.set_cons_succ]
    refine wpAnyH_take (i := 20) (oi := { dst := some 47, op := Op.load 5 (Operand.tmp 46), type := 5, pos := "ref.go:171", after := #[{ on := 19, ground := Ground.data }, { on := 12, ground := Ground.guard }], guard := some (12, false) }) (v := undef) rfl (by kernel_rfl) (by kernel_rfl) (by kernel_rfl) (fun _ _ _ h => h) (Or.inr ⟨by rfl, rfl⟩) (by assumption) ?_
    simp only [Act.put, List.setIfInBounds_toArray, List.set_cons_zero, List.set_cons_succ]
    refine wpAnyH_take (i := 21) (oi := { dst := some 48, op := Op.convert 5 3 (Operand.tmp 47), type := 3, pos := "ref.go:171", after := #[{ on := 20, ground := Ground.data }, { on := 12, ground := Ground.guard }], guard := some (12, false) }) (v := undef) rfl (by kernel_rfl) (by kernel_rfl) (by kernel_rfl) (fun _ _ _ h => h) (Or.inr ⟨by rfl, rfl⟩) (by assumption) ?_
    simp only [Act.put, List.setIfInBounds_toArray, List.set_cons_zero, List.set_cons_succ]
    refine wpAnyH_take (i := 22) (oi := { dst := some 49, op := Op.binOp BinOp.add 3 (Operand.tmp 44) (Operand.tmp 48) 3, type := 3, pos := "ref.go:171", after := #[{ on := 17, ground := Ground.data }, { on := 21, ground := Ground.data }, { on := 12, ground := Ground.guard }], guard := some (12, false) }) (v := undef) rfl (by kernel_rfl) (by kernel_rfl) (by kernel_rfl) (fun _ _ _ h => h) (Or.inr ⟨by rfl, rfl⟩) (by assumption) ?_
    simp only [Act.put, List.setIfInBounds_toArray, List.set_cons_zero, List.set_cons_succ]
    refine wpAnyH_take (i := 23) (oi := { dst := some 50, op := Op.move (Operand.tmp 6), type := 23, pos := "ref.go:171", after := #[{ on := 12, ground := Ground.guard }], guard := some (12, false) }) (v := undef) rfl (by kernel_rfl) (by kernel_rfl) (by kernel_rfl) (fun _ _ _ h => h) (Or.inr ⟨by rfl, rfl⟩) (by assumption) ?_
    simp only [Act.put, List.setIfInBounds_toArray, List.set_cons_zero, List.set_cons_succ]
    refine wpAnyH_take (i := 24) (oi := { dst := some 51, op := Op.call { callee := Callee.builtin Builtin.len, args := #[Operand.tmp 50], argTypes := #[23] }, type := 3, pos := "ref.go:171", after := #[{ on := 23, ground := Ground.data }, { on := 12, ground := Ground.guard }], guard := some (12, false) }) (v := undef) rfl (by kernel_rfl) (by kernel_rfl) (by kernel_rfl) (fun _ _ _ h => h) (Or.inr ⟨by rfl, rfl⟩) (by assumption) ?_
    simp only [Act.put, List.setIfInBounds_toArray, List.set_cons_zero, List.set_cons_succ]
    refine wpAnyH_take (i := 25) (oi := { dst := some 52, op := Op.binOp BinOp.sub 3 (Operand.tmp 51) (Operand.const (Value.int IntKind.i64 2)) 3, type := 3, pos := "ref.go:171", after := #[{ on := 24, ground := Ground.data }, { on := 12, ground := Ground.guard }], guard := some (12, false) }) (v := undef) rfl (by kernel_rfl) (by kernel_rfl) (by kernel_rfl) (fun _ _ _ h => h) (Or.inr ⟨by rfl, rfl⟩) (by assumption) ?_
    simp only [Act.put, List.setIfInBounds_toArray, List.set_cons_zero, List.set_cons_succ]
    refine wpAnyH_take (i := 26) (oi := { dst := some 53, op := Op.binOp BinOp.neq 3 (Operand.tmp 49) (Operand.tmp 52) 3, type := 4, pos := "ref.go:171", after := #[{ on := 22, ground := Ground.data }, { on := 25, ground := Ground.data }, { on := 12, ground := Ground.guard }], guard := some (12, false) }) (v := undef) rfl (by kernel_rfl) (by kernel_rfl) (by kernel_rfl) (fun _ _ _ h => h) (Or.inr ⟨by rfl, rfl⟩) (by assumption) ?_
    simp only [Act.put, List.setIfInBounds_toArray, List.set_cons_zero, List.set_cons_succ]
    refine wpAnyH_take (i := 27) (oi := { dst := some 54, op := Op.pick (Operand.tmp 39) (Operand.const (Value.bool true)) (Operand.tmp 53), type := 4, pos := "ref.go:171", after := #[{ on := 12, ground := Ground.data }, { on := 26, ground := Ground.data }], guard := none }) (v := ?v27x12) rfl (by kernel_rfl) (by kernel_rfl) (by kernel_rfl) (fun _ _ _ h => h) (Or.inl ⟨by rfl, ?hy27x12⟩) (by assumption) ?rest27x12
    case hy27x12 => (intro w hSw; (try dsimp only at hSw); go_simp; first | done | with_reducible rfl)
    simp only [Act.put, List.setIfInBounds_toArray, List.set_cons_zero, List.set_cons_succ]
    refine wpAnyH_done (by kernel_rfl) ?_ _
    have HBd := Lib.hid (below_on HB1.out hb1d)
    have HHd := Lib.hid ((hb1d.block w.heap.size hlt).trans HH1.out)
    clear hHeld3 hbd hb1d hod hcvd hcell0 hcell1 hcw
    obtain ⟨d0, d1, d2, d3, d4, d5, d6, d7, d8, d9⟩ := FrC.of_heap HHd.out
    have hfz : ∀ j, wd.frozen? ⟨w.heap.size, j, none⟩ = false := fun j => frozen_of_row wd w.heap.size j _ _ HHd.out
    go_wp2_with fail
    exact rget_no HG.out HBd.out HHd.out rfl rfl
  | true =>
    have HSm := Lib.hid (show (sha (b.take (b.length - 4))).take 4 = b.drop (b.length - 4) by rw [← HF.out, ← HTl.out]; exact eq_of_beq hqq)
    have j9 : IntKind.i64.wrap (x0 : Int) = (x0 : Int) := IntWalk.i64_in _ (by omega)
    have j10 : IntKind.i64.wrap (x1 : Int) = (x1 : Int) := IntWalk.i64_in _ (by omega)
    have j7 : IntKind.i64.wrap (256 * (x0 : Int)) = 256 * (x0 : Int) := IntWalk.i64_in _ (by omega)
    have j8 : IntKind.i64.wrap (256 * (x0 : Int) + (x1 : Int)) = 256 * (x0 : Int) + (x1 : Int) := IntWalk.i64_in _ (by omega)
    have j6 : IntKind.i64.wrap (((b.length - 4 : Nat) : Int) - 2) = ((b.length - 6 : Nat) : Int) := by rw [IntWalk.i64_in _ (by omega)]; omega
    have i0 : (0 : Int) < (b.length : Int) := by omega
    have i1 : (1 : Int) < (b.length : Int) := by omega
    have i0' : 0 < b.length := by omega
    have i1' : 1 < b.length := by omega
    by_cases hnum : 256 * x0 + x1 = b.length - 6
    · have hne : ((256 * (x0 : Int) + (x1 : Int)) != ((b.length - 6 : Nat) : Int)) = false := by rw [bne_eq_false_iff_eq]; omega
      have HNum := Lib.hid (show num (b.take 2) = b.length - 6 by rw [HN2.out, hnum])
      clear hnum
      refine wp_region_held_drew (S := (fun w' => w'.cell? ad = some (.int .u8 (x0 : Int)) ∧ w'.cell? ⟨ad.block, ad.off + 1, none⟩ = some (.int .u8 (x1 : Int)) ∧ (convert 23 9 (.slice (some (ad.add (b.length - 4))) (b.length - (b.length - 4)) (c - (b.length - 4)))).run Tryd.prog w' = .ok (.string ⟨T.toArray⟩) w')) (by kernel_rfl) HS0.out (fun hHeld => ?_)
      refine wpAnyH_take (i := 0) (oi := { dst := some 27, op := Op.move (Operand.tmp 0), type := 42, pos := "ref.go:171", after := #[], guard := none }) (v := ?v0x13) rfl (by kernel_rfl) (by kernel_rfl) (by kernel_rfl) (fun _ _ _ h => h) (Or.inl ⟨by rfl, ?hy0x13⟩) (by assumption) ?rest0x13
      case hy0x13 => (intro w hSw; (try dsimp only at hSw); go_simp; first | done | with_reducible rfl)
      simp only [Act.put, List.setIfInBounds_toArray, List.set_cons_zero, List.set_cons_succ]
      refine wpAnyH_take (i := 1) (oi := { dst := some 28, op := Op.move (Operand.tmp 6), type := 23, pos := "ref.go:171", after := #[], guard := none }) (v := ?v1x14) rfl (by kernel_rfl) (by kernel_rfl) (by kernel_rfl) (fun _ _ _ h => h) (Or.inl ⟨by rfl, ?hy1x14⟩) (by assumption) ?rest1x14
      case hy1x14 => (intro w hSw; (try dsimp only at hSw); go_simp; first | done | with_reducible rfl)
      simp only [Act.put, List.setIfInBounds_toArray, List.set_cons_zero, List.set_cons_succ]
      refine wpAnyH_take (i := 5) (oi := { dst := some 32, op := Op.move (Operand.tmp 1), type := 23, pos := "ref.go:171", after := #[], guard := none }) (v := ?v5x15) rfl (by kernel_rfl) (by kernel_rfl) (by kernel_rfl) (fun _ _ _ h => h) (Or.inl ⟨by rfl, ?hy5x15⟩) (by assumption) ?rest5x15
      case hy5x15 => (intro w hSw; (try dsimp only at hSw); go_simp; first | done | with_reducible rfl)
      simp only [Act.put, List.setIfInBounds_toArray, List.set_cons_zero, List.set_cons_succ]
      refine wpAnyH_take (i := 6) (oi := { dst := some 33, op := Op.move (Operand.tmp 1), type := 23, pos := "ref.go:171", after := #[], guard := none }) (v := ?v6x16) rfl (by kernel_rfl) (by kernel_rfl) (by kernel_rfl) (fun _ _ _ h => h) (Or.inl ⟨by rfl, ?hy6x16⟩) (by assumption) ?rest6x16
      case hy6x16 => (intro w hSw; (try dsimp only at hSw); go_simp; first | done | with_reducible rfl)
      simp only [Act.put, List.setIfInBounds_toArray, List.set_cons_zero, List.set_cons_succ]
      refine wpAnyH_take (i := 7) (oi := { dst := some 34, op := Op.call { callee := Callee.builtin Builtin.len, args := #[Operand.tmp 33], argTypes := #[23] }, type := 3, pos := "ref.go:171", after := #[{ on := 6, ground := Ground.data }], guard := none }) (v := ?v7x17) rfl (by kernel_rfl) (by kernel_rfl) (by kernel_rfl) (fun _ _ _ h => h) (Or.inl ⟨by rfl, ?hy7x17⟩) (by assumption) ?rest7x17
      case hy7x17 => (intro w hSw; (try dsimp only at hSw); go_simp; first | done | with_reducible rfl)
      simp only [Act.put, List.setIfInBounds_toArray, List.set_cons_zero, List.set_cons_succ]
      refine wpAnyH_take (i := 8) (oi := { dst := some 35, op := Op.binOp BinOp.sub 3 (Operand.tmp 34) (Operand.const (Value.int IntKind.i64 4)) 3, type := 3, pos := "ref.go:171", after := #[{ on := 7, ground := Ground.data }], guard := none }) (v := ?v8x18) rfl (by kernel_rfl) (by kernel_rfl) (by kernel_rfl) (fun _ _ _ h => h) (Or.inl ⟨by rfl, ?hy8x18⟩) (by assumption) ?rest8x18
      case hy8x18 => (intro w hSw; (try dsimp only at hSw); go_simp; first | done | with_reducible rfl)
      simp only [Act.put, List.setIfInBounds_toArray, List.set_cons_zero, List.set_cons_succ]
      refine wpAnyH_take (i := 9) (oi := { dst := some 36, op := Op.slice 23 (Operand.tmp 32) (some (Operand.tmp 35)) none none, type := 23, pos := "ref.go:171", after := #[{ on := 5, ground := Ground.data }, { on := 8, ground := Ground.data }], guard := none }) (v := ?v9x19) rfl (by kernel_rfl) (by kernel_rfl) (by kernel_rfl) (fun _ _ _ h => h) (Or.inl ⟨by rfl, ?hy9x19⟩) (by assumption) ?rest9x19
      case hy9x19 => (intro w hSw; (try dsimp only at hSw); go_simp; first | done | with_reducible rfl)
      simp only [Act.put, List.setIfInBounds_toArray, List.set_cons_zero, List.set_cons_succ]
      refine wpAnyH_take (i := 10) (oi := { dst := some 37, op := Op.convert 23 9 (Operand.tmp 36), type := 9, pos := "ref.go:171", after := #[{ on := 9, ground := Ground.data }], guard := none }) (v := ?v10x20) rfl (by kernel_rfl) (by kernel_rfl) (by kernel_rfl) (fun _ _ _ h => h) (Or.inl ⟨by rfl, ?hy10x20⟩) (by assumption) ?rest10x20
      case hy10x20 => (intro w hSw; (try dsimp only at hSw); go_simp; first | done | with_reducible rfl)
      simp only [Act.put, List.setIfInBounds_toArray, List.set_cons_zero, List.set_cons_succ]
      refine wpAnyH_ready (rs := [2]) (by kernel_rfl) (by simp) ?_
      refine AllReadyH.cons (o := { dst := some 29, op := Op.call { callee := Callee.value (Operand.func 35), args := #[Operand.tmp 27, Operand.tmp 28], argTypes := #[42, 23] }, type := 23, pos := "ref.go:171", after := #[{ on := 0, ground := Ground.data }, { on := 1, ground := Ground.data }], guard := none }) rfl (fun K hK => ?_) AllReadyH.nil
      go_simp
      go_wp2_with (go_at_call 35; refine (HDig.out _ (by first | exact (Below.refl _ _).drew | exact Below.refl _ _)).mono ?_; rintro e wd ⟨vd, rfl, hod, hbd⟩; obtain ⟨Ad, cd, rfl, hcd, _⟩ := own_slice hod; have hc4 : (4 : Int) ≤ (cd : Int) := (by omega); have hcvd : (convert 23 9 (.slice Ad 4 cd)).run Tryd.prog wd = .ok (.string ⟨((sha F).take 4).toArray⟩) wd := run_str_of Tryd.underlying23 Tryd.underlying5 Tryd.underlying9 (sha4_len F).symm (by rw [bvs_take]; exact (RdC.of_own hod).take 4))
      have hb1d : Below w1.heap.size w1 wd := (Below.refl _ _).drew.trans hbd
      refine hK.out _ _ ⟨cell_on hcell0 (Nat.lt_trans HAd.out hlt) hb1d, cell_on hcell1 (by exact Nat.lt_trans HAd.out hlt) hb1d, HCvt.out _ hb1d⟩ (fun hHeld2 => ?_)
      clear hK K hHeld
      refine wpAnyH_take (i := 3) (oi := { dst := some 30, op := Op.slice 23 (Operand.tmp 29) none (some (Operand.const (Value.int IntKind.i64 4))) none, type := 23, pos := "ref.go:171", after := #[{ on := 2, ground := Ground.data }], guard := none }) (v := ?v3x21) rfl (by kernel_rfl) (by kernel_rfl) (by kernel_rfl) (fun _ _ _ h => h) (Or.inl ⟨by rfl, ?hy3x21⟩) (by assumption) ?rest3x21
      case hy3x21 => (intro w hSw; (try dsimp only at hSw); go_simp; first | done | with_reducible rfl)
      simp only [Act.put, List.setIfInBounds_toArray, List.set_cons_zero, List.set_cons_succ]
      refine wpAnyH_ready (rs := [4]) (by kernel_rfl) (by simp) ?_
      refine AllReadyH.cons (o := { dst := some 31, op := Op.convert 23 9 (Operand.tmp 30), type := 9, pos := "ref.go:171", after := #[{ on := 3, ground := Ground.data }], guard := none }) rfl (fun K hK => ?_) AllReadyH.nil
      go_simp
      refine hK.out _ _ hHeld2 (fun hHeld3 => ?_)
      clear hK K hHeld2
      refine wpAnyH_take (i := 11) (oi := { dst := some 38, op := Op.binOp BinOp.neq 9 (Operand.tmp 31) (Operand.tmp 37) 9, type := 4, pos := "ref.go:171", after := #[{ on := 4, ground := Ground.data }, { on := 10, ground := Ground.data }], guard := none }) (v := ?v11x22) rfl (by kernel_rfl) (by kernel_rfl) (by kernel_rfl) (fun _ _ _ h => h) (Or.inl ⟨by rfl, ?hy11x22⟩) (by assumption) ?rest11x22
      case hy11x22 => (intro w hSw; (try dsimp only at hSw); go_simp; first | done | with_reducible rfl)
      simp only [Act.put, List.setIfInBounds_toArray, List.set_cons_zero, List.set_cons_succ]
      refine wpAnyH_take (i := 12) (oi := { dst := some 39, op := Op.move (Operand.tmp 38), type := 4, pos := "ref.go:171", after := #[{ on := 11, ground := Ground.data }, { on := 2, ground := Ground.chain }], guard := none }) (v := ?v12x23) rfl (by kernel_rfl) (by kernel_rfl) (by kernel_rfl) (fun _ _ _ h => h) (Or.inl ⟨by rfl, ?hy12x23⟩) (by assumption) ?rest12x23
      case hy12x23 => (intro w hSw; (try dsimp only at hSw); go_simp; first | done | with_reducible rfl)
      simp only [Act.put, List.setIfInBounds_toArray, List.set_cons_zero, List.set_cons_succ]
      refine wpAnyH_take (i := 13) (oi := { dst := some 40, op := Op.move (Operand.tmp 1), type := 23, pos := "ref.go:171", after := #[{ on := 12, ground := Ground.guard }], guard := some (12, false) }) (v := ?v13x24) rfl (by kernel_rfl) (by kernel_rfl) (by kernel_rfl) (fun _ _ _ h => h) (Or.inl ⟨by rfl, ?hy13x24⟩) (by assumption) ?rest13x24
      case hy13x24 => (intro w hSw; (try dsimp only at hSw); go_simp; first | done | with_reducible rfl)
      simp only [Act.put, List.setIfInBounds_toArray, List.set_cons_zero, List.set_cons_succ]
      refine wpAnyH_take (i := 14) (oi := { dst := some 41, op := Op.indexAddr 23 (Operand.tmp 40) (Operand.const (Value.int IntKind.i64 0)), type := 0, pos := "ref.go:171", after := #[{ on := 13, ground := Ground.data }, { on := 12, ground := Ground.guard }], guard := some (12, false) }) (v := ?v14x25) rfl (by kernel_rfl) (by kernel_rfl) (by kernel_rfl) (fun _ _ _ h => h) (Or.inl ⟨by rfl, ?hy14x25⟩) (by assumption) ?rest14x25
      case hy14x25 => (intro w hSw; (try dsimp only at hSw); go_simp; first | done | with_reducible rfl)
      simp only [Act.put, List.setIfInBounds_toArray, List.set_cons_zero, List.set_cons_succ]
      refine wpAnyH_take (i := 15) (oi := { dst := some 42, op := Op.load 5 (Operand.tmp 41), type := 5, pos := "ref.go:171", after := #[{ on := 14, ground := Ground.data }, { on := 12, ground := Ground.guard }], guard := some (12, false) }) (v := ?v15x26) rfl (by kernel_rfl) (by kernel_rfl) (by kernel_rfl) (fun _ _ _ h => h) (Or.inl ⟨by rfl, ?hy15x26⟩) (by assumption) ?rest15x26
      case hy15x26 => (intro w hSw; (try dsimp only at hSw); go_simp; first | done | with_reducible rfl)
      simp only [Act.put, List.setIfInBounds_toArray, List.set_cons_zero, List.set_cons_succ]
      refine wpAnyH_take (i := 16) (oi := { dst := some 43, op := Op.convert 5 3 (Operand.tmp 42), type := 3, pos := "ref.go:171", after := #[{ on := 15, ground := Ground.data }, { on := 12, ground := Ground.guard }], guard := some (12, false) }) (v := ?v16x27) rfl (by kernel_rfl) (by kernel_rfl) (by kernel_rfl) (fun _ _ _ h => h) (Or.inl ⟨by rfl, ?hy16x27⟩) (by assumption) ?rest16x27
      case hy16x27 => (intro w hSw; (try dsimp only at hSw); go_simp; first | done | with_reducible rfl)
      simp only [Act.put, List.setIfInBounds_toArray, List.set_cons_zero, List.set_cons_succ]
      refine wpAnyH_take (i := 17) (oi := { dst := some 44, op := Op.binOp BinOp.mul 3 (Operand.const (Value.int IntKind.i64 256)) (Operand.tmp 43) 3, type := 3, pos := "ref.go:171", after := #[{ on := 16, ground := Ground.data }, { on := 12, ground := Ground.guard }], guard := some (12, false) }) (v := ?v17x28) rfl (by kernel_rfl) (by kernel_rfl) (by kernel_rfl) (fun _ _ _ h => h) (Or.inl ⟨by rfl, ?hy17x28⟩) (by assumption) ?rest17x28
      case hy17x28 => (intro w hSw; (try dsimp only at hSw); go_simp; first | done | with_reducible rfl)
      simp only [Act.put, List.setIfInBounds_toArray, List.set_cons_zero, List.set_cons_succ]
      refine wpAnyH_take (i := 18) (oi := { dst := some 45, op := Op.move (Operand.tmp 1), type := 23, pos := "ref.go:171", after := #[{ on := 12, ground := Ground.guard }], guard := some (12, false) }) (v := ?v18x29) rfl (by kernel_rfl) (by kernel_rfl) (by kernel_rfl) (fun _ _ _ h => h) (Or.inl ⟨by rfl, ?hy18x29⟩) (by assumption) ?rest18x29
      case hy18x29 => (intro w hSw; (try dsimp only at hSw); go_simp; first | done | with_reducible rfl)
      simp only [Act.put, List.setIfInBounds_toArray, List.set_cons_zero, List.set_cons_succ]
      refine wpAnyH_take (i := 19) (oi := { dst := some 46, op := Op.indexAddr 23 (Operand.tmp 45) (Operand.const (Value.int IntKind.i64 1)), type := 0, pos := "ref.go:171", after := #[{ on := 18, ground := Ground.data }, { on := 12, ground := Ground.guard }], guard := some (12, false) }) (v := ?v19x30) rfl (by kernel_rfl) (by kernel_rfl) (by kernel_rfl) (fun _ _ _ h => h) (Or.inl ⟨by rfl, ?hy19x30⟩) (by assumption) ?rest19x30
      case hy19x30 => (intro w hSw; (try dsimp only at hSw); go_simp; first | done | with_reducible rfl)
      simp only [Act.put, List.setIfInBounds_toArray, List.set_cons_zero, List.set_cons_succ]
      refine wpAnyH_take (i := 20) (oi := { dst := some 47, op := Op.load 5 (Operand.tmp 46), type := 5, pos := "ref.go:171", after := #[{ on := 19, ground := Ground.data }, { on := 12, ground := Ground.guard }], guard := some (12, false) }) (v := ?v20x31) rfl (by kernel_rfl) (by kernel_rfl) (by kernel_rfl) (fun _ _ _ h => h) (Or.inl ⟨by rfl, ?hy20x31⟩) (by assumption) ?rest20x31
      case hy20x31 => (intro w hSw; (try dsimp only at hSw); go_simp; first | done | with_reducible rfl)
      simp only [Act.put, List.setIfInBounds_toArray, List.set_cons_zero, List.set_cons_succ]
      refine wpAnyH_take (i := 21) (oi := { dst := some 48, op := Op.convert 5 3 (Operand.tmp 47), type := 3, pos := "ref.go:171", after := #[{ on := 20, ground := Ground.data }, { on := 12, ground := Ground.guard }], guard := some (12, false) }) (v := ?v21x32) rfl (by kernel_rfl) (by kernel_rfl) (by kernel_rfl) (fun _ _ _ h => h) (Or.inl ⟨by rfl, ?hy21x32⟩) (by assumption) ?rest21x32
      case hy21x32 => (intro w hSw; (try dsimp only at hSw); go_simp; first | done | with_reducible rfl)
      simp only [Act.put, List.setIfInBounds_toArray, List.set_cons_zero, List.set_cons_succ]
      refine wpAnyH_take (i := 22) (oi := { dst := some 49, op := Op.binOp BinOp.add 3 (Operand.tmp 44) (Operand.tmp 48) 3, type := 3, pos := "ref.go:171", after := #[{ on := 17, ground := Ground.data }, { on := 21, ground := Ground.data }, { on := 12, ground := Ground.guard }], guard := some (12, false) }) (v := ?v22x33) rfl (by kernel_rfl) (by kernel_rfl) (by kernel_rfl) (fun _ _ _ h => h) (Or.inl ⟨by rfl, ?hy22x33⟩) (by assumption) ?rest22x33
      case hy22x33 => (intro w hSw; (try dsimp only at hSw); go_simp; first | done | with_reducible rfl)
      simp only [Act.put, List.setIfInBounds_toArray, List.set_cons_zero, List.set_cons_succ]
      refine wpAnyH_take (i := 23) (oi := { dst := some 50, op := Op.move (Operand.tmp 6), type := 23, pos := "ref.go:171", after := #[{ on := 12, ground := Ground.guard }], guard := some (12, false) }) (v := ?v23x34) rfl (by kernel_rfl) (by kernel_rfl) (by kernel_rfl) (fun _ _ _ h => h) (Or.inl ⟨by rfl, ?hy23x34⟩) (by assumption) ?rest23x34
      case hy23x34 => (intro w hSw; (try dsimp only at hSw); go_simp; first | done | with_reducible rfl)
      simp only [Act.put, List.setIfInBounds_toArray, List.set_cons_zero, List.set_cons_succ]
      refine wpAnyH_take (i := 24) (oi := { dst := some 51, op := Op.call { callee := Callee.builtin Builtin.len, args := #[Operand.tmp 50], argTypes := #[23] }, type := 3, pos := "ref.go:171", after := #[{ on := 23, ground := Ground.data }, { on := 12, ground := Ground.guard }], guard := some (12, false) }) (v := ?v24x35) rfl (by kernel_rfl) (by kernel_rfl) (by kernel_rfl) (fun _ _ _ h => h) (Or.inl ⟨by rfl, ?hy24x35⟩) (by assumption) ?rest24x35
      case hy24x35 => (intro w hSw; (try dsimp only at hSw); go_simp; first | done | with_reducible rfl)
      simp only [Act.put, List.setIfInBounds_toArray, List.set_cons_zero, List.set_cons_succ]
      refine wpAnyH_take (i := 25) (oi := { dst := some 52, op := Op.binOp BinOp.sub 3 (Operand.tmp 51) (Operand.const (Value.int IntKind.i64 2)) 3, type := 3, pos := "ref.go:171", after := #[{ on := 24, ground := Ground.data }, { on := 12, ground := Ground.guard }], guard := some (12, false) }) (v := ?v25x36) rfl (by kernel_rfl) (by kernel_rfl) (by kernel_rfl) (fun _ _ _ h => h) (Or.inl ⟨by rfl, ?hy25x36⟩) (by assumption) ?rest25x36
      case hy25x36 => (intro w hSw; (try dsimp only at hSw); go_simp; first | done | with_reducible rfl)
      simp only [Act.put, List.setIfInBounds_toArray, List.set_cons_zero, List.set_cons_succ]
      refine wpAnyH_take (i := 26) (oi := { dst := some 53, op := Op.binOp BinOp.neq 3 (Operand.tmp 49) (Operand.tmp 52) 3, type := 4, pos := "ref.go:171", after := #[{ on := 22, ground := Ground.data }, { on := 25, ground := Ground.data }, { on := 12, ground := Ground.guard }], guard := some (12, false) }) (v := ?v26x37) rfl (by kernel_rfl) (by kernel_rfl) (by kernel_rfl) (fun _ _ _ h => h) (Or.inl ⟨by rfl, ?hy26x37⟩) (by assumption) ?rest26x37
      case hy26x37 => (intro w hSw; (try dsimp only at hSw); go_simp; first | done | with_reducible rfl)
      simp only [Act.put, List.setIfInBounds_toArray, List.set_cons_zero, List.set_cons_succ]
      refine wpAnyH_take (i := 27) (oi := { dst := some 54, op := Op.pick (Operand.tmp 39) (Operand.const (Value.bool true)) (Operand.tmp 53), type := 4, pos := "ref.go:171", after := #[{ on := 12, ground := Ground.data }, { on := 26, ground := Ground.data }], guard := none }) (v := ?v27x38) rfl (by kernel_rfl) (by kernel_rfl) (by kernel_rfl) (fun _ _ _ h => h) (Or.inl ⟨by rfl, ?hy27x38⟩) (by assumption) ?rest27x38
      case hy27x38 => (intro w hSw; (try dsimp only at hSw); go_simp; first | done | with_reducible rfl)
      simp only [Act.put, List.setIfInBounds_toArray, List.set_cons_zero, List.set_cons_succ]
      refine wpAnyH_done (by kernel_rfl) ?_ _
      have HBd := Lib.hid (below_on HB1.out hb1d)
      have HHd := Lib.hid ((hb1d.block w.heap.size hlt).trans HH1.out)
      clear hHeld3 hbd hb1d hod hcvd hcell0 hcell1 hcw
      clear j7 j8 j6 j9 j10 hne hqq
      have hcell2 := cell_on HC2.out (by exact HAd.out) HBd.out
      have hkd : b.getD 2 0 = b[2]'(by omega) := by rw [List.getD_eq_getElem?_getD, List.getElem?_eq_getElem (by omega)]; rfl
      have hk255 := (b[2]'(by omega)).toNat_lt
      generalize b[2]'(by omega) = kb at *
      obtain ⟨k, hk⟩ : ∃ k : Int, k = (kb.toNat : Int) := ⟨_, rfl⟩
      rw [← hk] at hcell2
      have hk0 : 0 ≤ k := by omega
      have hk1 : k ≤ 255 := by omega
      have HGf := Lib.hid (show getF b = getTail k (decode (layoutF k) (F.drop 3)) by rw [HF.out, hk, ← hkd]; exact get_cases b (by omega) HSm.out HNum.out)
      have i2 : (2 : Int) < ((b.length - 4 : Nat) : Int) := by omega
      have i3 : (3 : Int) ≤ ((b.length - 4 : Nat) : Int) := by omega
      have i4 : ((b.length - 4 : Nat) : Int) ≤ (c : Int) := by omega
      have i5 : ¬ c = 3 := by omega
      have hce : Calls Tryd.prog 37 #[.agg #[.int .i64 k, .int .i64 0, .int .i64 0, .int .i64 0, .int .i64 0, .int .i64 0, .string ⟨#[]⟩, .string ⟨#[]⟩, .float .f64 0, .slice none 0 0]] wd (fun e w' => (∃ v, e = .returned (.tuple #[.string ⟨(layoutF k).toArray⟩, v])) ∧ Below wd.heap.size wd w') :=
        (rcells_any (Fr.of k) none 0 wd (RdC.nil _ _ _)).mono fun e w' h => ⟨by obtain ⟨_, A, c, rfl, _⟩ := h; exact ⟨_, rfl⟩, h.1⟩
      have HCe := Lib.hid hce
      have hll := layout_len k
      obtain ⟨L, hL⟩ : ∃ L : ByteArray, L = ⟨(layoutF k).toArray⟩ := ⟨_, rfl⟩
      have HL := Lib.hid hL
      rw [← hL] at HCe
      clear hkd hk hce hk255 hL
      go_wp2_with fail
      (with_reducible refine HCe.out.mono ?_)
      rintro e we ⟨⟨vc, rfl⟩, hbe⟩
      have HBe := Lib.hid (below_then HBd.out HBd.out.size hbe)
      have hlte : w.heap.size < we.heap.size := Nat.lt_of_lt_of_le (Array.getElem?_eq_some_iff.1 HHd.out).1 hbe.size
      have HHe := Lib.hid ((hbe.block w.heap.size (Array.getElem?_eq_some_iff.1 HHd.out).1).trans HHd.out)
      have hde : Calls Tryd.prog 50 #[.string L, .slice (some (ad.add 3)) (b.length - 4 - 3) (c - 3)] we (RDecPost we (decode (layoutF k) (F.drop 3))) := by
        rw [HL.out]
        have hr := ((HR.out.step HBe.out).take (b.length - 4)).drop 3 false (by simp)
        rw [show (if false = true then some ad else (some ad : Option Addr).map (·.add 3)) = some (ad.add 3) by simp] at hr
        have hr2 : RdC (· < we.heap.size) we (some (ad.add 3)) (bvs (F.drop 3)) := by
          rw [← bvs_take, ← HF.out] at hr
          simpa [bvs, List.map_drop] using hr
        have h := rdecode_any we ⟨(layoutF k).toArray⟩ (some (ad.add 3)) (b.length - 4 - 3) (c - 3) (F.drop 3) (by rw [List.length_drop, HFl.out]) hr2 (by simp [ByteArray.size]; omega) (by rw [List.length_drop, HFl.out]; omega) (by rw [List.length_drop, HFl.out]; omega)
        exact h
      clear hcell2 hbe HCe
      cases hd : decode (layoutF k) (F.drop 3) with
      | error er =>
        rw [hd] at hde
        have HG := Lib.hid (show getF b = none by rw [HGf.out, hd]; rfl)
        have HDe := Lib.hid hde
        clear hde hd
        go_wp2_with fail
        refine HDe.out.mono ?_
        rintro e wf ⟨hbf, rfl⟩
        have HBf := Lib.hid (below_then HBe.out HBe.out.size hbf)
        have HHf := Lib.hid ((hbf.block w.heap.size hlte).trans HHe.out)
        obtain ⟨d0, d1, d2, d3, d4, d5, d6, d7, d8, d9⟩ := FrC.of_heap HHf.out
        have hfz : ∀ j, wf.frozen? ⟨w.heap.size, j, none⟩ = false := fun j => frozen_of_row wf w.heap.size j _ _ HHf.out
        have hq0 : (((erIx er + 1 : Nat) : Int) != 0) = true := by rw [bne_iff_ne]; omega
        generalize ((erIx er + 1 : Nat) : Int) = ev at *
        clear hbf HDe
        cases hly : (L.toList == []) with
        | true =>
          go_wp2_with fail
          exact rget_no HG.out HBf.out HHf.out rfl rfl
        | false =>
          go_wp2_with fail
          exact rget_no HG.out HBf.out HHf.out rfl rfl
      | ok cs =>
        rw [hd] at hde
        have HDe := Lib.hid hde
        have hgf := HGf.out
        rw [hd] at hgf
        obtain ⟨hen, hcl, hcn, hco⟩ := enc_dec hd
        have hcl2 : cs.length = (shapeF k).length := by rw [hcl]; simp [layoutF]
        have hlens : (setAll (Fr.of k) (shapeF k) cs).lens := setAll_lens _ _ _ lens_of (fun x hx => by
          have h1 := size_le_cost cs x hx
          rw [List.length_drop, HFl.out] at hco
          omega)
        have HLn := Lib.hid hlens
        have HGf2 := Lib.hid hgf
        clear hde hd hen hcn hco hgf hlens
        go_wp2_with fail
        refine HDe.out.mono ?_
        rintro e wf ⟨hbf, v6, rfl, ho6⟩
        obtain ⟨A6, c6, rfl, hc6, _⟩ := own_slice ho6
        have HBf := Lib.hid (below_then HBe.out HBe.out.size hbf)
        have HHf := Lib.hid ((hbf.block w.heap.size hlte).trans HHe.out)
        have hltf : w.heap.size < wf.heap.size := Nat.lt_of_lt_of_le hlte hbf.size
        have HRf := Lib.hid ((RdC.of_own ho6).mono (ok' := (· < wf.heap.size)) (fun b hb => hb.2))
        clear hbf HDe ho6
        by_cases hk17 : 1 ≤ k ∧ k ≤ 17
        · have hly := layout_in hk17
          rw [← HL.out] at hly
          have hkn := rkind_any k hk17 wf A6 cs.length c6 cs rfl hcl2 hc6 HRf.out
          have HGe := Lib.hid (show getF b = if checkF (setAll (Fr.of k) (shapeF k) cs) = true then some (setAll (Fr.of k) (shapeF k) cs) else none from HGf2.out)
          generalize setAll (Fr.of k) (shapeF k) cs = g at *
          have HKn := Lib.hid hkn
          clear hkn hk17 hcl hcl2
          go_wp2_with fail
          refine HKn.out.mono ?_
          rintro e wg ⟨hbg, Ag, cg, rfl, hrg⟩
          have HBg := Lib.hid (below_then HBf.out HBf.out.size hbg)
          have HHg := Lib.hid ((hbg.block w.heap.size hltf).trans HHf.out)
          have hltg : w.heap.size < wg.heap.size := Nat.lt_of_lt_of_le hltf hbg.size
          obtain ⟨wh, hwh⟩ : ∃ W, W = wg.alloc (Obj.cells (frCs g Ag cg) 25) := ⟨_, rfl⟩
          have hbh : Below wg.heap.size wg wh := by rw [hwh]; exact below_box _ _
          have hfc : FrC wh wg.heap.size g Ag cg := by rw [hwh]; exact FrC.box wg g Ag cg _
          have hsh : wh.heap.size = wg.heap.size + 1 := by rw [hwh]; simp
          have hif : Calls Tryd.prog 52 #[frV g Ag cg] wh (BoolP (checkF g) wh) := rinform_any g Ag cg wh HLn.out ((hrg.mono (fun b hb => hb.2)).step hbh)
          have HRg := Lib.hid ((hrg.mono (ok' := fun b => wf.heap.size ≤ b ∧ b < wg.heap.size) (fun b hb => hb)))
          have HBh := Lib.hid (below_then HBg.out HBg.out.size hbh)
          have HBgh := Lib.hid hbh
          have HHh := Lib.hid ((hbh.block w.heap.size hltg).trans HHg.out)
          have HFc := Lib.hid hfc
          have HSh := Lib.hid hsh
          have HWh := Lib.hid (show wg.alloc (Obj.cells #[.int .i64 g.kind, .int .i64 g.seq, .int .i64 g.got, .int .i64 g.stream, .int .i64 g.amount, .int .i64 g.code, .string g.who, .string g.name, .float .f64 g.weight, .slice Ag g.bytes.length cg] 25) = wh from hwh.symm)
          unfold frV at hif
          have HIf := Lib.hid hif
          clear hwh hbh hif hrg hbg HKn
          unfold frV
          go_wp2_with fail
          rw [HWh.out]
          refine HIf.out.mono ?_
          rintro e wi ⟨rfl, hbi⟩
          have HBi := Lib.hid (below_then HBh.out HBh.out.size hbi)
          have HHi := Lib.hid ((hbi.block w.heap.size (by rw [HSh.out]; omega)).trans HHh.out)
          have HFi := Lib.hid (HFc.out.on (by rw [HSh.out]; omega) hbi)
          have HRi := Lib.hid (show RdC (fun b => wf.heap.size ≤ b ∧ b < wg.heap.size) wi Ag (bvs g.bytes) from (HRg.out.move (fun b hb => HBgh.out.block b hb.2)).move (fun b hb => hbi.block b (by rw [HSh.out]; omega)))
          have hltgi : wg.heap.size < wi.heap.size := by have := hbi.size; have := HSh.out; omega
          obtain ⟨d0, d1, d2, d3, d4, d5, d6, d7, d8, d9⟩ := FrC.of_heap HHi.out
          have hfz : ∀ j, wi.frozen? ⟨w.heap.size, j, none⟩ = false := fun j => frozen_of_row wi w.heap.size j _ _ HHi.out
          clear hbi HIf
          cases hck : checkF g with
          | false =>
            have HG := Lib.hid (show getF b = none by rw [HGe.out]; exact if_neg (by rw [hck]; simp))
            clear hck
            go_wp2_with fail
            exact rget_no HG.out HBi.out HHi.out rfl rfl
          | true =>
            have HG := Lib.hid (show getF b = some g by rw [HGe.out]; exact if_pos hck)
            obtain ⟨e0, e1, e2, e3, e4, e5, e6, e7, e8, e9⟩ := HFi.out
            clear hck
            go_wp2_with fail
            exact rget_ret HHi.out rfl rfl (RGetP.yes HG.out (frPut_below HBi.out (Nat.le_refl _)) ((HRi.out.move (fun b hb => frPut_other _ _ _ _ (by omega))).mono (fun b hb => by rw [frPut_size]; omega)))
        · have hly : (L.toList == []) = true := by rw [HL.out, layout_out hk17, ByteArray.toList_eq]; rfl
          have hly2 : L.toList = [] := eq_of_beq hly
          have hly3 : L.toList.isEmpty = true := List.isEmpty_iff.2 hly2
          have HG := Lib.hid (show getF b = none by
            rw [HGf2.out]
            refine if_neg ?_
            intro h
            unfold checkF at h
            rw [setAll_kind, shape_out (by exact hk17)] at h
            simp at h)
          obtain ⟨d0, d1, d2, d3, d4, d5, d6, d7, d8, d9⟩ := FrC.of_heap HHf.out
          have hfz : ∀ j, wf.frozen? ⟨w.heap.size, j, none⟩ = false := fun j => frozen_of_row wf w.heap.size j _ _ HHf.out
          clear hk17 hcl hcl2
          go_wp2_with fail
          exact rget_no HG.out HBf.out HHf.out rfl rfl
    · have hne : ((256 * (x0 : Int) + (x1 : Int)) != ((b.length - 6 : Nat) : Int)) = true := by rw [bne_iff_ne]; omega
      have HG := Lib.hid (show getF b = none from get_none_len (by rw [HN2.out]; exact hnum))
      clear hnum
      refine wp_region_held_drew (S := (fun w' => w'.cell? ad = some (.int .u8 (x0 : Int)) ∧ w'.cell? ⟨ad.block, ad.off + 1, none⟩ = some (.int .u8 (x1 : Int)) ∧ (convert 23 9 (.slice (some (ad.add (b.length - 4))) (b.length - (b.length - 4)) (c - (b.length - 4)))).run Tryd.prog w' = .ok (.string ⟨T.toArray⟩) w')) (by kernel_rfl) HS0.out (fun hHeld => ?_)
      refine wpAnyH_take (i := 0) (oi := { dst := some 27, op := Op.move (Operand.tmp 0), type := 42, pos := "ref.go:171", after := #[], guard := none }) (v := ?v0x39) rfl (by kernel_rfl) (by kernel_rfl) (by kernel_rfl) (fun _ _ _ h => h) (Or.inl ⟨by rfl, ?hy0x39⟩) (by assumption) ?rest0x39
      case hy0x39 => (intro w hSw; (try dsimp only at hSw); go_simp; first | done | with_reducible rfl)
      simp only [Act.put, List.setIfInBounds_toArray, List.set_cons_zero, List.set_cons_succ]
      refine wpAnyH_take (i := 1) (oi := { dst := some 28, op := Op.move (Operand.tmp 6), type := 23, pos := "ref.go:171", after := #[], guard := none }) (v := ?v1x40) rfl (by kernel_rfl) (by kernel_rfl) (by kernel_rfl) (fun _ _ _ h => h) (Or.inl ⟨by rfl, ?hy1x40⟩) (by assumption) ?rest1x40
      case hy1x40 => (intro w hSw; (try dsimp only at hSw); go_simp; first | done | with_reducible rfl)
      simp only [Act.put, List.setIfInBounds_toArray, List.set_cons_zero, List.set_cons_succ]
      refine wpAnyH_take (i := 5) (oi := { dst := some 32, op := Op.move (Operand.tmp 1), type := 23, pos := "ref.go:171", after := #[], guard := none }) (v := ?v5x41) rfl (by kernel_rfl) (by kernel_rfl) (by kernel_rfl) (fun _ _ _ h => h) (Or.inl ⟨by rfl, ?hy5x41⟩) (by assumption) ?rest5x41
      case hy5x41 => (intro w hSw; (try dsimp only at hSw); go_simp; first | done | with_reducible rfl)
      simp only [Act.put, List.setIfInBounds_toArray, List.set_cons_zero, List.set_cons_succ]
      refine wpAnyH_take (i := 6) (oi := { dst := some 33, op := Op.move (Operand.tmp 1), type := 23, pos := "ref.go:171", after := #[], guard := none }) (v := ?v6x42) rfl (by kernel_rfl) (by kernel_rfl) (by kernel_rfl) (fun _ _ _ h => h) (Or.inl ⟨by rfl, ?hy6x42⟩) (by assumption) ?rest6x42
      case hy6x42 => (intro w hSw; (try dsimp only at hSw); go_simp; first | done | with_reducible rfl)
      simp only [Act.put, List.setIfInBounds_toArray, List.set_cons_zero, List.set_cons_succ]
      refine wpAnyH_take (i := 7) (oi := { dst := some 34, op := Op.call { callee := Callee.builtin Builtin.len, args := #[Operand.tmp 33], argTypes := #[23] }, type := 3, pos := "ref.go:171", after := #[{ on := 6, ground := Ground.data }], guard := none }) (v := ?v7x43) rfl (by kernel_rfl) (by kernel_rfl) (by kernel_rfl) (fun _ _ _ h => h) (Or.inl ⟨by rfl, ?hy7x43⟩) (by assumption) ?rest7x43
      case hy7x43 => (intro w hSw; (try dsimp only at hSw); go_simp; first | done | with_reducible rfl)
      simp only [Act.put, List.setIfInBounds_toArray, List.set_cons_zero, List.set_cons_succ]
      refine wpAnyH_take (i := 8) (oi := { dst := some 35, op := Op.binOp BinOp.sub 3 (Operand.tmp 34) (Operand.const (Value.int IntKind.i64 4)) 3, type := 3, pos := "ref.go:171", after := #[{ on := 7, ground := Ground.data }], guard := none }) (v := ?v8x44) rfl (by kernel_rfl) (by kernel_rfl) (by kernel_rfl) (fun _ _ _ h => h) (Or.inl ⟨by rfl, ?hy8x44⟩) (by assumption) ?rest8x44
      case hy8x44 => (intro w hSw; (try dsimp only at hSw); go_simp; first | done | with_reducible rfl)
      simp only [Act.put, List.setIfInBounds_toArray, List.set_cons_zero, List.set_cons_succ]
      refine wpAnyH_take (i := 9) (oi := { dst := some 36, op := Op.slice 23 (Operand.tmp 32) (some (Operand.tmp 35)) none none, type := 23, pos := "ref.go:171", after := #[{ on := 5, ground := Ground.data }, { on := 8, ground := Ground.data }], guard := none }) (v := ?v9x45) rfl (by kernel_rfl) (by kernel_rfl) (by kernel_rfl) (fun _ _ _ h => h) (Or.inl ⟨by rfl, ?hy9x45⟩) (by assumption) ?rest9x45
      case hy9x45 => (intro w hSw; (try dsimp only at hSw); go_simp; first | done | with_reducible rfl)
      simp only [Act.put, List.setIfInBounds_toArray, List.set_cons_zero, List.set_cons_succ]
      refine wpAnyH_take (i := 10) (oi := { dst := some 37, op := Op.convert 23 9 (Operand.tmp 36), type := 9, pos := "ref.go:171", after := #[{ on := 9, ground := Ground.data }], guard := none }) (v := ?v10x46) rfl (by kernel_rfl) (by kernel_rfl) (by kernel_rfl) (fun _ _ _ h => h) (Or.inl ⟨by rfl, ?hy10x46⟩) (by assumption) ?rest10x46
      case hy10x46 => (intro w hSw; (try dsimp only at hSw); go_simp; first | done | with_reducible rfl)
      simp only [Act.put, List.setIfInBounds_toArray, List.set_cons_zero, List.set_cons_succ]
      refine wpAnyH_ready (rs := [2]) (by kernel_rfl) (by simp) ?_
      refine AllReadyH.cons (o := { dst := some 29, op := Op.call { callee := Callee.value (Operand.func 35), args := #[Operand.tmp 27, Operand.tmp 28], argTypes := #[42, 23] }, type := 23, pos := "ref.go:171", after := #[{ on := 0, ground := Ground.data }, { on := 1, ground := Ground.data }], guard := none }) rfl (fun K hK => ?_) AllReadyH.nil
      go_simp
      go_wp2_with (go_at_call 35; refine (HDig.out _ (by first | exact (Below.refl _ _).drew | exact Below.refl _ _)).mono ?_; rintro e wd ⟨vd, rfl, hod, hbd⟩; obtain ⟨Ad, cd, rfl, hcd, _⟩ := own_slice hod; have hc4 : (4 : Int) ≤ (cd : Int) := (by omega); have hcvd : (convert 23 9 (.slice Ad 4 cd)).run Tryd.prog wd = .ok (.string ⟨((sha F).take 4).toArray⟩) wd := run_str_of Tryd.underlying23 Tryd.underlying5 Tryd.underlying9 (sha4_len F).symm (by rw [bvs_take]; exact (RdC.of_own hod).take 4))
      have hb1d : Below w1.heap.size w1 wd := (Below.refl _ _).drew.trans hbd
      refine hK.out _ _ ⟨cell_on hcell0 (Nat.lt_trans HAd.out hlt) hb1d, cell_on hcell1 (by exact Nat.lt_trans HAd.out hlt) hb1d, HCvt.out _ hb1d⟩ (fun hHeld2 => ?_)
      clear hK K hHeld
      refine wpAnyH_take (i := 3) (oi := { dst := some 30, op := Op.slice 23 (Operand.tmp 29) none (some (Operand.const (Value.int IntKind.i64 4))) none, type := 23, pos := "ref.go:171", after := #[{ on := 2, ground := Ground.data }], guard := none }) (v := ?v3x47) rfl (by kernel_rfl) (by kernel_rfl) (by kernel_rfl) (fun _ _ _ h => h) (Or.inl ⟨by rfl, ?hy3x47⟩) (by assumption) ?rest3x47
      case hy3x47 => (intro w hSw; (try dsimp only at hSw); go_simp; first | done | with_reducible rfl)
      simp only [Act.put, List.setIfInBounds_toArray, List.set_cons_zero, List.set_cons_succ]
      refine wpAnyH_ready (rs := [4]) (by kernel_rfl) (by simp) ?_
      refine AllReadyH.cons (o := { dst := some 31, op := Op.convert 23 9 (Operand.tmp 30), type := 9, pos := "ref.go:171", after := #[{ on := 3, ground := Ground.data }], guard := none }) rfl (fun K hK => ?_) AllReadyH.nil
      go_simp
      refine hK.out _ _ hHeld2 (fun hHeld3 => ?_)
      clear hK K hHeld2
      refine wpAnyH_take (i := 11) (oi := { dst := some 38, op := Op.binOp BinOp.neq 9 (Operand.tmp 31) (Operand.tmp 37) 9, type := 4, pos := "ref.go:171", after := #[{ on := 4, ground := Ground.data }, { on := 10, ground := Ground.data }], guard := none }) (v := ?v11x48) rfl (by kernel_rfl) (by kernel_rfl) (by kernel_rfl) (fun _ _ _ h => h) (Or.inl ⟨by rfl, ?hy11x48⟩) (by assumption) ?rest11x48
      case hy11x48 => (intro w hSw; (try dsimp only at hSw); go_simp; first | done | with_reducible rfl)
      simp only [Act.put, List.setIfInBounds_toArray, List.set_cons_zero, List.set_cons_succ]
      refine wpAnyH_take (i := 12) (oi := { dst := some 39, op := Op.move (Operand.tmp 38), type := 4, pos := "ref.go:171", after := #[{ on := 11, ground := Ground.data }, { on := 2, ground := Ground.chain }], guard := none }) (v := ?v12x49) rfl (by kernel_rfl) (by kernel_rfl) (by kernel_rfl) (fun _ _ _ h => h) (Or.inl ⟨by rfl, ?hy12x49⟩) (by assumption) ?rest12x49
      case hy12x49 => (intro w hSw; (try dsimp only at hSw); go_simp; first | done | with_reducible rfl)
      simp only [Act.put, List.setIfInBounds_toArray, List.set_cons_zero, List.set_cons_succ]
      refine wpAnyH_take (i := 13) (oi := { dst := some 40, op := Op.move (Operand.tmp 1), type := 23, pos := "ref.go:171", after := #[{ on := 12, ground := Ground.guard }], guard := some (12, false) }) (v := ?v13x50) rfl (by kernel_rfl) (by kernel_rfl) (by kernel_rfl) (fun _ _ _ h => h) (Or.inl ⟨by rfl, ?hy13x50⟩) (by assumption) ?rest13x50
      case hy13x50 => (intro w hSw; (try dsimp only at hSw); go_simp; first | done | with_reducible rfl)
      simp only [Act.put, List.setIfInBounds_toArray, List.set_cons_zero, List.set_cons_succ]
      refine wpAnyH_take (i := 14) (oi := { dst := some 41, op := Op.indexAddr 23 (Operand.tmp 40) (Operand.const (Value.int IntKind.i64 0)), type := 0, pos := "ref.go:171", after := #[{ on := 13, ground := Ground.data }, { on := 12, ground := Ground.guard }], guard := some (12, false) }) (v := ?v14x51) rfl (by kernel_rfl) (by kernel_rfl) (by kernel_rfl) (fun _ _ _ h => h) (Or.inl ⟨by rfl, ?hy14x51⟩) (by assumption) ?rest14x51
      case hy14x51 => (intro w hSw; (try dsimp only at hSw); go_simp; first | done | with_reducible rfl)
      simp only [Act.put, List.setIfInBounds_toArray, List.set_cons_zero, List.set_cons_succ]
      refine wpAnyH_take (i := 15) (oi := { dst := some 42, op := Op.load 5 (Operand.tmp 41), type := 5, pos := "ref.go:171", after := #[{ on := 14, ground := Ground.data }, { on := 12, ground := Ground.guard }], guard := some (12, false) }) (v := ?v15x52) rfl (by kernel_rfl) (by kernel_rfl) (by kernel_rfl) (fun _ _ _ h => h) (Or.inl ⟨by rfl, ?hy15x52⟩) (by assumption) ?rest15x52
      case hy15x52 => (intro w hSw; (try dsimp only at hSw); go_simp; first | done | with_reducible rfl)
      simp only [Act.put, List.setIfInBounds_toArray, List.set_cons_zero, List.set_cons_succ]
      refine wpAnyH_take (i := 16) (oi := { dst := some 43, op := Op.convert 5 3 (Operand.tmp 42), type := 3, pos := "ref.go:171", after := #[{ on := 15, ground := Ground.data }, { on := 12, ground := Ground.guard }], guard := some (12, false) }) (v := ?v16x53) rfl (by kernel_rfl) (by kernel_rfl) (by kernel_rfl) (fun _ _ _ h => h) (Or.inl ⟨by rfl, ?hy16x53⟩) (by assumption) ?rest16x53
      case hy16x53 => (intro w hSw; (try dsimp only at hSw); go_simp; first | done | with_reducible rfl)
      simp only [Act.put, List.setIfInBounds_toArray, List.set_cons_zero, List.set_cons_succ]
      refine wpAnyH_take (i := 17) (oi := { dst := some 44, op := Op.binOp BinOp.mul 3 (Operand.const (Value.int IntKind.i64 256)) (Operand.tmp 43) 3, type := 3, pos := "ref.go:171", after := #[{ on := 16, ground := Ground.data }, { on := 12, ground := Ground.guard }], guard := some (12, false) }) (v := ?v17x54) rfl (by kernel_rfl) (by kernel_rfl) (by kernel_rfl) (fun _ _ _ h => h) (Or.inl ⟨by rfl, ?hy17x54⟩) (by assumption) ?rest17x54
      case hy17x54 => (intro w hSw; (try dsimp only at hSw); go_simp; first | done | with_reducible rfl)
      simp only [Act.put, List.setIfInBounds_toArray, List.set_cons_zero, List.set_cons_succ]
      refine wpAnyH_take (i := 18) (oi := { dst := some 45, op := Op.move (Operand.tmp 1), type := 23, pos := "ref.go:171", after := #[{ on := 12, ground := Ground.guard }], guard := some (12, false) }) (v := ?v18x55) rfl (by kernel_rfl) (by kernel_rfl) (by kernel_rfl) (fun _ _ _ h => h) (Or.inl ⟨by rfl, ?hy18x55⟩) (by assumption) ?rest18x55
      case hy18x55 => (intro w hSw; (try dsimp only at hSw); go_simp; first | done | with_reducible rfl)
      simp only [Act.put, List.setIfInBounds_toArray, List.set_cons_zero, List.set_cons_succ]
      refine wpAnyH_take (i := 19) (oi := { dst := some 46, op := Op.indexAddr 23 (Operand.tmp 45) (Operand.const (Value.int IntKind.i64 1)), type := 0, pos := "ref.go:171", after := #[{ on := 18, ground := Ground.data }, { on := 12, ground := Ground.guard }], guard := some (12, false) }) (v := ?v19x56) rfl (by kernel_rfl) (by kernel_rfl) (by kernel_rfl) (fun _ _ _ h => h) (Or.inl ⟨by rfl, ?hy19x56⟩) (by assumption) ?rest19x56
      case hy19x56 => (intro w hSw; (try dsimp only at hSw); go_simp; first | done | with_reducible rfl)
      simp only [Act.put, List.setIfInBounds_toArray, List.set_cons_zero, List.set_cons_succ]
      refine wpAnyH_take (i := 20) (oi := { dst := some 47, op := Op.load 5 (Operand.tmp 46), type := 5, pos := "ref.go:171", after := #[{ on := 19, ground := Ground.data }, { on := 12, ground := Ground.guard }], guard := some (12, false) }) (v := ?v20x57) rfl (by kernel_rfl) (by kernel_rfl) (by kernel_rfl) (fun _ _ _ h => h) (Or.inl ⟨by rfl, ?hy20x57⟩) (by assumption) ?rest20x57
      case hy20x57 => (intro w hSw; (try dsimp only at hSw); go_simp; first | done | with_reducible rfl)
      simp only [Act.put, List.setIfInBounds_toArray, List.set_cons_zero, List.set_cons_succ]
      refine wpAnyH_take (i := 21) (oi := { dst := some 48, op := Op.convert 5 3 (Operand.tmp 47), type := 3, pos := "ref.go:171", after := #[{ on := 20, ground := Ground.data }, { on := 12, ground := Ground.guard }], guard := some (12, false) }) (v := ?v21x58) rfl (by kernel_rfl) (by kernel_rfl) (by kernel_rfl) (fun _ _ _ h => h) (Or.inl ⟨by rfl, ?hy21x58⟩) (by assumption) ?rest21x58
      case hy21x58 => (intro w hSw; (try dsimp only at hSw); go_simp; first | done | with_reducible rfl)
      simp only [Act.put, List.setIfInBounds_toArray, List.set_cons_zero, List.set_cons_succ]
      refine wpAnyH_take (i := 22) (oi := { dst := some 49, op := Op.binOp BinOp.add 3 (Operand.tmp 44) (Operand.tmp 48) 3, type := 3, pos := "ref.go:171", after := #[{ on := 17, ground := Ground.data }, { on := 21, ground := Ground.data }, { on := 12, ground := Ground.guard }], guard := some (12, false) }) (v := ?v22x59) rfl (by kernel_rfl) (by kernel_rfl) (by kernel_rfl) (fun _ _ _ h => h) (Or.inl ⟨by rfl, ?hy22x59⟩) (by assumption) ?rest22x59
      case hy22x59 => (intro w hSw; (try dsimp only at hSw); go_simp; first | done | with_reducible rfl)
      simp only [Act.put, List.setIfInBounds_toArray, List.set_cons_zero, List.set_cons_succ]
      refine wpAnyH_take (i := 23) (oi := { dst := some 50, op := Op.move (Operand.tmp 6), type := 23, pos := "ref.go:171", after := #[{ on := 12, ground := Ground.guard }], guard := some (12, false) }) (v := ?v23x60) rfl (by kernel_rfl) (by kernel_rfl) (by kernel_rfl) (fun _ _ _ h => h) (Or.inl ⟨by rfl, ?hy23x60⟩) (by assumption) ?rest23x60
      case hy23x60 => (intro w hSw; (try dsimp only at hSw); go_simp; first | done | with_reducible rfl)
      simp only [Act.put, List.setIfInBounds_toArray, List.set_cons_zero, List.set_cons_succ]
      refine wpAnyH_take (i := 24) (oi := { dst := some 51, op := Op.call { callee := Callee.builtin Builtin.len, args := #[Operand.tmp 50], argTypes := #[23] }, type := 3, pos := "ref.go:171", after := #[{ on := 23, ground := Ground.data }, { on := 12, ground := Ground.guard }], guard := some (12, false) }) (v := ?v24x61) rfl (by kernel_rfl) (by kernel_rfl) (by kernel_rfl) (fun _ _ _ h => h) (Or.inl ⟨by rfl, ?hy24x61⟩) (by assumption) ?rest24x61
      case hy24x61 => (intro w hSw; (try dsimp only at hSw); go_simp; first | done | with_reducible rfl)
      simp only [Act.put, List.setIfInBounds_toArray, List.set_cons_zero, List.set_cons_succ]
      refine wpAnyH_take (i := 25) (oi := { dst := some 52, op := Op.binOp BinOp.sub 3 (Operand.tmp 51) (Operand.const (Value.int IntKind.i64 2)) 3, type := 3, pos := "ref.go:171", after := #[{ on := 24, ground := Ground.data }, { on := 12, ground := Ground.guard }], guard := some (12, false) }) (v := ?v25x62) rfl (by kernel_rfl) (by kernel_rfl) (by kernel_rfl) (fun _ _ _ h => h) (Or.inl ⟨by rfl, ?hy25x62⟩) (by assumption) ?rest25x62
      case hy25x62 => (intro w hSw; (try dsimp only at hSw); go_simp; first | done | with_reducible rfl)
      simp only [Act.put, List.setIfInBounds_toArray, List.set_cons_zero, List.set_cons_succ]
      refine wpAnyH_take (i := 26) (oi := { dst := some 53, op := Op.binOp BinOp.neq 3 (Operand.tmp 49) (Operand.tmp 52) 3, type := 4, pos := "ref.go:171", after := #[{ on := 22, ground := Ground.data }, { on := 25, ground := Ground.data }, { on := 12, ground := Ground.guard }], guard := some (12, false) }) (v := ?v26x63) rfl (by kernel_rfl) (by kernel_rfl) (by kernel_rfl) (fun _ _ _ h => h) (Or.inl ⟨by rfl, ?hy26x63⟩) (by assumption) ?rest26x63
      case hy26x63 => (intro w hSw; (try dsimp only at hSw); go_simp; first | done | with_reducible rfl)
      simp only [Act.put, List.setIfInBounds_toArray, List.set_cons_zero, List.set_cons_succ]
      refine wpAnyH_take (i := 27) (oi := { dst := some 54, op := Op.pick (Operand.tmp 39) (Operand.const (Value.bool true)) (Operand.tmp 53), type := 4, pos := "ref.go:171", after := #[{ on := 12, ground := Ground.data }, { on := 26, ground := Ground.data }], guard := none }) (v := ?v27x64) rfl (by kernel_rfl) (by kernel_rfl) (by kernel_rfl) (fun _ _ _ h => h) (Or.inl ⟨by rfl, ?hy27x64⟩) (by assumption) ?rest27x64
      case hy27x64 => (intro w hSw; (try dsimp only at hSw); go_simp; first | done | with_reducible rfl)
      simp only [Act.put, List.setIfInBounds_toArray, List.set_cons_zero, List.set_cons_succ]
      refine wpAnyH_done (by kernel_rfl) ?_ _
      have HBd := Lib.hid (below_on HB1.out hb1d)
      have HHd := Lib.hid ((hb1d.block w.heap.size hlt).trans HH1.out)
      clear hHeld3 hbd hb1d hod hcvd hcell0 hcell1 hcw
      clear j7 j8 j6 j9 j10 hne hqq
      obtain ⟨d0, d1, d2, d3, d4, d5, d6, d7, d8, d9⟩ := FrC.of_heap HHd.out
      have hfz : ∀ j, wd.frozen? ⟨w.heap.size, j, none⟩ = false := fun j => frozen_of_row wd w.heap.size j _ _ HHd.out
      go_wp2_with fail
      exact rget_no HG.out HBd.out HHd.out rfl rfl
/-- The reference's Get of all bytes. -/
theorem rget_any (w : World) (H base : Nat) (va vb : Value) (A : Option Addr) (n c : Nat) (b : Bs) (hn : n = b.length) (hT : TableAt base w H va vb) (hR : RdC (· < w.heap.size) w A (bvs b)) (hc : b.length ≤ c) (hb : b.length ≤ 140737488355328) :
    Calls Tryd.prog 32 #[.pointer (some ⟨H, 0, none⟩), .slice A n c] w (RGetP b w) := by
  subst hn
  by_cases h : b.length < 7 ∨ b.length > 1024
  · exact rget_short w _ A c b hb h
  · exact rget_long w H base va vb A c b hT hR hc (by omega) (by omega)
end Go.Proofs.YtpekagkhgegefaaDoor
