/- Walk of the reference of layer 6: Split. -/
import Derived.Test.YtpekagkhgegefaaDoorSh
import Derived.Test.YtpekagkhgegefaaDoorRs
set_option linter.unusedVariables false
set_option linter.unusedSimpArgs false
set_option linter.unnecessarySimpa false
namespace Go.Proofs.YtpekagkhgegefaaDoor
open Go.RowKit
attribute [local go_sem] run_store_flt

def RSplitP (w : World) (b : Bs) (e : Ending) (w' : World) : Prop :=
  Below w.heap.size w w' ∧ ∃ A c cs, e = .returned (.tuple #[.slice A (scanB b).1.length c, .int .i64 ((scanB b).2.1 : Nat), .int .i64 (if (scanB b).2.2 = true then 7 else 0)]) ∧ w'.ownsRow w.heap.size 25 10 (.slice A (scanB b).1.length c) (scanB b).1.length cs ∧
    FrsV (fun k => w.heap.size ≤ k ∧ k < w'.heap.size) w' (scanB b).1 cs
def RSplitRel (w : World) (b : Bs) (o i : Value) (wr : World) : Prop :=
  ∃ (fs : List Fr) (n : Nat) (cs : List Value), Took b fs n ∧ i = .int .i64 (n : Nat) ∧ wr.ownsRow w.heap.size 25 10 o fs.length cs ∧ FrsV (fun k => w.heap.size ≤ k ∧ k < wr.heap.size ∧ some k ≠ o.ownBlock) wr fs cs ∧ Below w.heap.size w wr
theorem rsplit_ret {w w' : World} {b : Bs} {fs : List Fr} {n co : Nat} {er : Bool} {Ao : Option Addr} {cs : List Value} {tmps : Array Value} {z : Int} (h4 : tmps[4]? = some (.slice Ao fs.length co)) (h5 : tmps[5]? = some (.int .i64 (n : Nat))) (h6 : tmps[6]? = some (.int .i64 z)) (hs : scanB b = (fs, n, er)) (hb : Below w.heap.size w w')
    (ho : w'.ownsRow w.heap.size 25 10 (.slice Ao fs.length co) fs.length cs) (hf : FrsV (fun k => w.heap.size ≤ k ∧ k < w'.heap.size ∧ some k ≠ (Value.slice Ao fs.length co).ownBlock) w' fs cs) (hz : z = if er = true then 7 else 0) :
    bodyPost Tryd.prog Tryd.f28 (RSplitP w b) .ret { tmps := tmps, defers := [] } w' := by
  refine bodyPost_ret (v := .tuple #[.slice Ao fs.length co, .int .i64 (n : Nat), .int .i64 z]) (by simp [results, Tryd.results28, go_sem, h4, h5, h6]) rfl ?_
  refine ⟨hb, Ao, co, cs, ?_, ?_, ?_⟩
  · rw [hs, hz]
  · rw [hs]; exact ho
  · rw [hs]; exact hf.mono (fun k hk => ⟨hk.1, hk.2.1⟩)
set_option maxRecDepth 8000 in
set_option maxHeartbeats 6400000 in
theorem rsplit_any (w : World) (H base : Nat) (va vb : Value) (A : Option Addr) (c : Nat) (b : Bs) (hT : TableAt base w H va vb) (hR : RdC (· < w.heap.size) w A (bvs b)) (hc : b.length ≤ c) (hb : b.length ≤ 100000000000) :
    Calls Tryd.prog 28 #[.pointer (some ⟨H, 0, none⟩), .slice A b.length c] w (RSplitP w b) := by
  have HT := Lib.hid hT
  have HR := Lib.hid hR
  have hown0 : (w.alloc (Obj.cells #[] 25)).ownsRow w.heap.size 25 10 (.slice (some ⟨w.heap.size, 0, none⟩) 0 0) 0 [] := World.ownsRow_lit w #[] 0 (Nat.le_refl _) (by unfold maxLen; omega) rfl
  have HO0 := Lib.hid hown0
  clear hT hR hown0
  go_enter Tryd.func28, Tryd.ntmps28
  go_wp2_with fail
  go_loopw [7, 8] (fun o i wr => RSplitRel w b o i wr) (fun _ i _ => b.length - (intOf i).toNat)
  case atStart => exact ⟨[], 0, [], .nil, rfl, HO0.out, .nil, below_box _ _⟩
  case round =>
    obtain ⟨fs, n, cs, ht, rfl, ho, hfr, hbel⟩ := hrel
    have hle := ht.le
    have HTk := Lib.hid ht
    have HOw := Lib.hid ho
    have HFr := Lib.hid hfr
    have HBel := Lib.hid hbel
    obtain ⟨Ao, co, rfl, hco, _⟩ := own_slice ho
    have hz : w.heap.size ≤ wr.heap.size := hbel.size
    have hrd : RdC (· < wr.heap.size) wr A (bvs b) := HR.out.step hbel
    have HRd := Lib.hid hrd
    clear ht ho hfr hbel hrd
    have j0 : IntKind.i64.wrap ((b.length : Int) - (n : Int)) = (b.length : Int) - (n : Int) := IntWalk.i64_in _ (by omega)
    by_cases h2 : b.length - n < 2
    · have k2 : ¬ (2 : Int) ≤ (b.length : Int) - (n : Int) := by omega
      have HSc := Lib.hid (HTk.out.wait (nx_wait_small (by rw [List.length_drop]; omega)))
      clear h2
      go_wp2_with fail
      exact rsplit_ret rfl rfl rfl HSc.out HBel.out HOw.out HFr.out (by rfl)
    · have k2 : (2 : Int) ≤ (b.length : Int) - (n : Int) := by omega
      have hrest : (b.drop n).length = b.length - n := List.length_drop ..
      obtain ⟨ad, rfl, hadb, hcc⟩ := HRd.out (by intro e; have : b = [] := List.map_eq_nil_iff.1 e; subst this; simp at h2)
      have hcell0 := hcc n _ (bvs_get b n (by omega))
      have hcell1 := hcc (n + 1) _ (bvs_get b (n + 1) (by omega))
      rw [show ad.add (n + 1) = ⟨ad.block, ad.off + (n + 1), none⟩ by unfold Addr.add; simp] at hcell1
      unfold bv at hcell0 hcell1
      have hN := num_two (b.drop n) (by omega)
      have hx0 := (b[n]'(by omega)).toNat_lt
      have hx1 := (b[n + 1]'(by omega)).toNat_lt
      have hNx : nxLen (b.drop n) = 256 * (b[n]'(by omega)).toNat + (b[n + 1]'(by omega)).toNat + 6 := by
        unfold nxLen
        rw [hN]
        simp
      obtain ⟨N, hNN⟩ : ∃ N, N = nxLen (b.drop n) := ⟨_, rfl⟩
      rw [← hNN] at hNx
      have HNN := Lib.hid hNN
      generalize (b[n]'(by omega)).toNat = x0 at *
      generalize (b[n + 1]'(by omega)).toNat = x1 at *
      have HNx := Lib.hid (show (N : Int) = 256 * (x0 : Int) + (x1 : Int) + 6 by omega)
      have i0 : (0 : Int) ≤ (n : Int) := by omega
      have i1 : (n : Int) < (b.length : Int) := by omega
      have i2 : (0 : Int) ≤ (n : Int) + 1 := by omega
      have i3 : (n : Int) + 1 < (b.length : Int) := by omega
      have i4 : ((n : Int) + 1).toNat = n + 1 := by omega
      have j1 : IntKind.i64.wrap ((n : Int) + 1) = (n : Int) + 1 := IntWalk.i64_in _ (by omega)
      have j2 : IntKind.i64.wrap (256 * (x0 : Int)) = 256 * (x0 : Int) := IntWalk.i64_in _ (by omega)
      have j3 : IntKind.i64.wrap (256 * (x0 : Int) + (x1 : Int)) = 256 * (x0 : Int) + (x1 : Int) := IntWalk.i64_in _ (by omega)
      have j4 : IntKind.i64.wrap (256 * (x0 : Int) + (x1 : Int) + 6) = (N : Int) := by rw [IntWalk.i64_in _ (by omega), HNx.out]
      have j5 : IntKind.i64.wrap (x0 : Int) = (x0 : Int) := IntWalk.i64_in _ (by omega)
      have j6 : IntKind.i64.wrap (x1 : Int) = (x1 : Int) := IntWalk.i64_in _ (by omega)
      clear hN hNx hNN hcc h2
      go_wp2_with fail
      go_quiet (fail)
      clear hcell0 hcell1 j1 j2 j3 j4 j5 j6
      obtain ⟨w1, hw1⟩ : ∃ W, W = wr.drewN nq := ⟨_, rfl⟩
      have HB1 := Lib.hid (show Below w.heap.size w w1 by rw [hw1]; exact below_drewN HBel.out nq)
      have HO1 := Lib.hid (show w1.ownsRow w.heap.size 25 10 (.slice Ao fs.length co) fs.length cs by rw [hw1]; exact HOw.out)
      have HF1 := Lib.hid (show FrsV (fun k => w.heap.size ≤ k ∧ k < w1.heap.size ∧ some k ≠ (Value.slice Ao fs.length co).ownBlock) w1 fs cs by rw [hw1]; exact HFr.out.move (w' := wr.drewN nq) (fun _ _ => rfl))
      have HRd1 := Lib.hid (show RdC (· < w1.heap.size) w1 (some ad) (bvs b) by rw [hw1]; exact HRd.out.move (w' := wr.drewN nq) (fun _ _ => rfl))
      have hz1 : w.heap.size ≤ w1.heap.size := by rw [hw1]; exact hz
      have HT1 := Lib.hid (HT.out.on HB1.out)
      rw [← hw1]
      clear hw1
      by_cases h7 : N < 7 ∨ N > 1024
      · have HSc := Lib.hid (HTk.out.bad (nx_bad_len (by omega) (by rw [← HNN.out]; exact h7)))
        by_cases h7a : N < 7
        · have k7 : (N : Int) < 7 := by omega
          clear h7 h7a
          go_wp2_with fail
          exact rsplit_ret rfl rfl rfl HSc.out HB1.out HO1.out HF1.out (by rfl)
        · have k7 : ¬ (N : Int) < 7 := by omega
          have k10 : (1024 : Int) < (N : Int) := by omega
          clear h7 h7a
          go_wp2_with fail
          exact rsplit_ret rfl rfl rfl HSc.out HB1.out HO1.out HF1.out (by rfl)
      · have k7 : ¬ (N : Int) < 7 := by omega
        have k10 : ¬ (1024 : Int) < (N : Int) := by omega
        by_cases hl : b.length - n < N
        · have HSc := Lib.hid (HTk.out.wait (nx_wait (by omega) (by rw [← HNN.out]; exact h7) (by rw [hrest, ← HNN.out]; exact hl)))
          have kl : (b.length : Int) - (n : Int) < (N : Int) := by omega
          clear h7 hl
          go_wp2_with fail
          exact rsplit_ret rfl rfl rfl HSc.out HB1.out HO1.out HF1.out (by rfl)
        · have kl : ¬ (b.length : Int) - (n : Int) < (N : Int) := by omega
          have kc : (n : Int) + (N : Int) ≤ (c : Int) := by omega
          have kn : (n : Int) ≤ (n : Int) + (N : Int) := by omega
          have j1 : IntKind.i64.wrap ((n : Int) + (N : Int)) = (n : Int) + (N : Int) := IntWalk.i64_in _ (by omega)
          have HL := Lib.hid hl
          have H7 := Lib.hid h7
          clear h7 hl
          go_wp2_with fail
          have hrd1 : RdC (· < w1.heap.size) w1 (some (ad.add n)) (bvs ((b.drop n).take N)) := by
            have hr := (HRd1.out.drop n false (by simp)).take N
            rw [show (if false = true then some ad else (some ad : Option Addr).map (·.add n)) = some (ad.add n) by simp] at hr
            simpa [bvs, List.map_drop, List.map_take] using hr
          have hln : ((b.drop n).take N).length = N := by rw [List.length_take, hrest]; have := HL.out; omega
          have hge := rget_any w1 H base va vb (some (ad.add n)) N (c - n) ((b.drop n).take N) hln.symm HT1.out hrd1 (by rw [hln]; omega) (by rw [hln]; omega)
          clear hrd1
          cases hg : getF ((b.drop n).take N) with
          | none =>
            have HSc := Lib.hid (HTk.out.bad (nx_bad_get (by omega) (by rw [← HNN.out]; exact H7.out) (by rw [hrest, ← HNN.out]; exact HL.out) (by rw [← HNN.out]; exact hg)))
            have HGe := Lib.hid (hge.mono fun e w' h => h.er hg)
            clear hge hg hln
            refine HGe.out.mono ?_
            rintro e w2 ⟨rfl, hb2⟩
            have HB2 := Lib.hid (below_on HB1.out hb2)
            have HO2 := Lib.hid (own_below HO1.out hb2)
            have hz2 := hb2.size
            have HF2 := Lib.hid ((HF1.out.move (fun k hk => hb2.block k hk.2.1)).mono (ok' := fun k => w.heap.size ≤ k ∧ k < w2.heap.size ∧ some k ≠ (Value.slice Ao fs.length co).ownBlock) (fun k hk => ⟨hk.1, by omega, hk.2.2⟩))
            clear hb2
            simp only [frV, Fr.of, noS, List.length_nil]
            go_wp2_with fail
            have hb3 := below_box w2 (Obj.cells #[.int .i64 0, .int .i64 0, .int .i64 0, .int .i64 0, .int .i64 0, .int .i64 0, .string ⟨#[]⟩, .string ⟨#[]⟩, .float .f64 0, .slice none 0 0] 25)
            exact rsplit_ret rfl rfl rfl HSc.out (HB2.out.alloc HB2.out.size _) (own_below HO2.out hb3) ((HF2.out.move (fun k hk => hb3.block k hk.2.1)).mono (fun k hk => ⟨hk.1, Nat.lt_of_lt_of_le hk.2.1 hb3.size, hk.2.2⟩)) (by rfl)
          | some f =>
            have hone := nx_of (b := b.drop n) (by omega) (by have := H7.out; rw [← HNN.out]; omega) (by have := H7.out; rw [← HNN.out]; omega) (by rw [hrest, ← HNN.out]; have := HL.out; omega) (by rw [← HNN.out]; exact hg)
            rw [← HNN.out] at hone
            have HT2 := Lib.hid (HTk.out.snoc hone)
            have HGe := Lib.hid (hge.mono fun e w' h => h.ok hg)
            have h7 := H7.out
            have hl := HL.out
            obtain ⟨j0', hj, jz0, jz1, jz2⟩ := info_parts infoFr
            clear hge hg hln hone
            refine HGe.out.mono ?_
            rintro e w2 ⟨hb2, Ag, cg, rfl, hrf⟩
            obtain ⟨w3, hw3⟩ : ∃ W, W = w2.alloc (Obj.cells #[.int .i64 f.kind, .int .i64 f.seq, .int .i64 f.got, .int .i64 f.stream, .int .i64 f.amount, .int .i64 f.code, .string f.who, .string f.name, .float .f64 f.weight, .slice Ag f.bytes.length cg] 25) := ⟨_, rfl⟩
            have hb23 : Below w2.heap.size w2 w3 := by rw [hw3]; exact below_box _ _
            have hb13 : Below w1.heap.size w1 w3 := hb2.trans (hb23.mono hb2.size)
            have hf3 : FrC w3 w2.heap.size f Ag cg := by rw [hw3]; exact FrC.box w2 f Ag cg _
            have hs3 : w3.heap.size = w2.heap.size + 1 := by rw [hw3]; simp
            have hz2 := hb2.size
            have HB3 := Lib.hid (below_on HB1.out hb13)
            have HO3 := Lib.hid (own_below HO1.out hb13)
            have hol : ∀ k, (Value.slice Ao fs.length co).ownBlock = some k → k < w1.heap.size := fun k hk => (HO1.out.lt k hk).2
            have HF3 := Lib.hid ((HF1.out.move (fun k hk => hb13.block k hk.2.1)).mono (ok' := fun k => w.heap.size ≤ k ∧ k < w3.heap.size ∧ some k ≠ (Value.slice Ao fs.length co).ownBlock) (fun k hk => ⟨hk.1, by omega, hk.2.2⟩))
            have HR3 := Lib.hid ((hrf.move (fun k hk => hb23.block k hk.2)).mono (ok' := fun k => w.heap.size ≤ k ∧ k < w3.heap.size ∧ some k ≠ (Value.slice Ao fs.length co).ownBlock) (fun k hk => ⟨by omega, by omega, fun e => by have := hol k e.symm; omega⟩))
            have HW3 := Lib.hid hw3.symm
            have HOl := Lib.hid hol
            obtain ⟨d0, d1, d2, d3, d4, d5, d6, d7, d8, d9⟩ := hf3
            have hlt3 : w2.heap.size < w3.heap.size := by omega
            have HT7 := Lib.hid HTk.out.le
            clear hb2 hb23 hb13 hw3 hrf hol hs3
            unfold frV
            go_wp2_with (first
              | (at_builtin; refine wpList_appN (W := w3) w.heap.size (.tmp 61) (.tmp 63) 45 25 j0' _ 10 112 (by rfl) (by rfl) Tryd.underlying45 hj jz0 jz1 jz2 rfl (by omega) (by omega) _ fs.length cs (frCs f Ag cg).toList (by rfl) w3.heap.size rfl (by rfl) HO3.out rfl (by simp [frCs, Value.oneCell']) (by omega) (by omega) ?_; intro v6 w6 hown6 hg6)
              | rw [HW3.out])
            refine ⟨⟨fs ++ [f], n + N, cs ++ (frCs f Ag cg).toList, HT2.out, by go_num, by rw [List.length_append]; exact hown6, frs_snoc (w := w3) HF3.out HR3.out hg6, hg6.below HB3.out HB3.out.size (own_base HO3.out)⟩, ?_⟩
            simp [intOf]
            omega
end Go.Proofs.YtpekagkhgegefaaDoor
