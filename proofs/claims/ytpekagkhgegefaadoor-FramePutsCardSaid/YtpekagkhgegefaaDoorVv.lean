/- Walk of the statement FrameGets. -/
import Derived.Test.YtpekagkhgegefaaDoorRs
import Derived.Test.YtpekagkhgegefaaDoorNm
set_option linter.unusedVariables false
set_option linter.unusedSimpArgs false
set_option linter.unnecessarySimpa false
namespace Go.Proofs.YtpekagkhgegefaaDoor
open Go.RowKit
attribute [local go_sem] run_store_flt

theorem run_err_neq_same (a : Addr) (w : World) : (binOp .neq 30 (.iface 147 (.pointer (some a))) (.iface 147 (.pointer (some a)))).run Tryd.prog w = .ok (.bool false) w := by
  obtain ⟨i, hi, hc⟩ := Option.map_eq_some_iff.1 infoErr
  obtain ⟨j, hj, hs⟩ := Option.map_eq_some_iff.1 infoErrS
  simp only [binOp]
  simp [Op.equal, Op.maxDepth, run_equalIn_iface_ptr_same w 9998 a Tryd.underlying30 Tryd.underlying147 hi hc hj]
theorem check_lens {f : Fr} (h : checkF f = true) : f.lens := by
  obtain ⟨_, h1, h2⟩ := (check_iff f).1 h
  refine ⟨?_, ?_, ?_⟩
  · by_cases hm : 5 ∈ shapeF f.kind
    · have := ((within_iff _ _ _).1 (h1 5 hm)).2
      omega
    · have h3 : f.who = noS := h2 5 (by omega) hm
      rw [h3]
      decide
  · by_cases hm : 6 ∈ shapeF f.kind
    · have := ((within_iff _ _ _).1 (h1 6 hm)).2
      omega
    · have h3 : f.name = noS := h2 6 (by omega) hm
      rw [h3]
      decide
  · by_cases hm : 8 ∈ shapeF f.kind
    · have := bytes_le (h1 8 hm)
      omega
    · have h3 : f.bytes = [] := h2 8 (by omega) hm
      rw [h3]
      decide
set_option maxRecDepth 8000 in
set_option maxHeartbeats 6400000 in
theorem gets_walk (es : Er → Addr) (w : World) (A : Option Addr) (c : Nat) (b : Bs) (hE : GEnv w es) (hR : RdC (· < w.heap.size) w A (bvs b)) (hc : b.length ≤ c) (hb : b.length ≤ 1048576) :
    Calls Tryd.prog 6 #[.slice A b.length c] w (OkPost w) := by
  have hal : Calls Tryd.prog 14 #[] w (OkPost w) := alive05 es w hE.fenv
  have HAl := Lib.hid hal
  have HE := Lib.hid hE
  have HR := Lib.hid hR
  have hee := run_err_same
  have hen := run_err_neq_same
  clear hal hE hR
  go_enter Tryd.func6, Tryd.ntmps6
  go_wp2_with fail
  refine HAl.out.mono ?_
  rintro e w1 ⟨rfl, hb1⟩
  have HB1 := Lib.hid hb1
  have hby := bytes_any w1 A b.length c b rfl (by omega) (HR.out.step hb1)
  have HBy := Lib.hid hby
  clear hb1 hby
  go_wp2_with fail
  refine HBy.out.mono ?_
  rintro e w2 ⟨hb2, A2, cin, rfl, hcin, hcm, hr2⟩
  have HB2 := Lib.hid (below_on HB1.out hb2)
  have HR2 := Lib.hid (hr2.mono (ok' := (· < w2.heap.size)) (fun k hk => hk.2))
  have hr2b : RdC (· < w2.heap.size) w2 A2 (bvs b) := by
    have h := HR2.out.take b.length
    rw [bvs_append, ← bvs_length b, List.take_left] at h
    exact h
  have hge := getF_any es w2 A2 b.length cin b rfl (HE.out.step HB2.out) hr2b (by omega) (by omega)
  have hz2 : w.heap.size ≤ w2.heap.size := HB2.out.size
  clear hb2 hr2 hr2b
  cases hg : getF b with
  | none =>
    have hge2 := hge.mono fun e w' h => h.er hg
    have HGe := Lib.hid hge2
    have HG := Lib.hid hg
    clear hge hge2 hg
    go_wp2_with fail
    refine HGe.out.mono ?_
    rintro e w3 ⟨rfl, hb3⟩
    have HB3 := Lib.hid (below_on HB2.out hb3)
    have HR3 := Lib.hid (HR2.out.step hb3)
    obtain ⟨w4, hw4⟩ : ∃ W, W = w3.alloc (Obj.cells #[.int .i64 0, .int .i64 0, .int .i64 0, .int .i64 0, .int .i64 0, .int .i64 0, .string ⟨#[]⟩, .string ⟨#[]⟩, .float .f64 0, .slice none 0 0] 25) := ⟨_, rfl⟩
    have hb4 : Below w3.heap.size w3 w4 := by rw [hw4]; exact below_box _ _
    have hf4 : FrC w4 w3.heap.size (Fr.of 0) none 0 := by rw [hw4]; exact FrC.box w3 (Fr.of 0) none 0 _
    have hs4 : w4.heap.size = w3.heap.size + 1 := by rw [hw4]; simp
    have HB4 := Lib.hid (below_on HB3.out hb4)
    have HF4 := Lib.hid hf4
    have HS4 := Lib.hid hs4
    have HR4 := Lib.hid (HR3.out.step hb4)
    have HW4 := Lib.hid hw4.symm
    have hnw := new_any w4
    have HNw := Lib.hid hnw
    clear hb3 hw4 hb4 hf4 hs4 hnw
    simp only [frV, Fr.of, noS, errV, List.length_nil]
    go_wp2_with fail
    rw [HW4.out]
    refine HNw.out.mono ?_
    rintro e w5 ⟨H, va, vb, rfl, hT, hb5⟩
    have HB5 := Lib.hid (below_on HB4.out hb5)
    have HF5 := Lib.hid (HF4.out.on (by rw [HS4.out]; omega) hb5)
    have HR5 := Lib.hid (HR4.out.step hb5)
    have hz5 : w3.heap.size < w5.heap.size := by have := hb5.size; have := HS4.out; omega
    have hrg := (rget_any w5 H w4.heap.size va vb A b.length c b rfl hT (HR.out.step HB5.out) hc (by omega)).mono fun e w' h => h.er HG.out
    have HRg := Lib.hid hrg
    clear hb5 hT hrg HNw
    go_wp2_with fail
    refine HRg.out.mono ?_
    rintro e w6 ⟨rfl, hb6⟩
    have HB6 := Lib.hid (below_on HB5.out hb6)
    have HF6 := Lib.hid (HF5.out.on hz5 hb6)
    have HR6 := Lib.hid (HR5.out.step hb6)
    have hz6 : w3.heap.size < w6.heap.size := by have := hb6.size; omega
    obtain ⟨w7, hw7⟩ : ∃ W, W = w6.alloc (Obj.cells #[.int .i64 0, .int .i64 0, .int .i64 0, .int .i64 0, .int .i64 0, .int .i64 0, .string ⟨#[]⟩, .string ⟨#[]⟩, .float .f64 0, .slice none 0 0] 25) := ⟨_, rfl⟩
    have hb7 : Below w6.heap.size w6 w7 := by rw [hw7]; exact below_box _ _
    have hf7 : FrC w7 w6.heap.size (Fr.of 0) none 0 := by rw [hw7]; exact FrC.box w6 (Fr.of 0) none 0 _
    have HB7 := Lib.hid (below_on HB6.out hb7)
    have hf7' := HF6.out.on hz6 hb7
    have HR7 := Lib.hid (HR6.out.step hb7)
    have HW7 := Lib.hid hw7.symm
    have he := ((HE.out.step HB6.out).frame).at
    have hgl := ((HE.out.step HB6.out).frame).g_lt
    unfold errV at he
    have hsm := rsame_any (Fr.of 0) (Fr.of 0) none none 0 0 w7 (RdC.nil _ _ _) (RdC.nil _ _ _)
    rw [decide_eq_true rfl] at hsm
    have HSm := Lib.hid hsm
    clear hb6 hw7 hb7 hsm HRg
    obtain ⟨c0, c1, c2, c3, c4, c5, c6, c7, c8, c9⟩ := hf7
    obtain ⟨d0, d1, d2, d3, d4, d5, d6, d7, d8, d9⟩ := hf7'
    simp only [frV, Fr.of, noS, errV, List.length_nil]
    simp only [frV, Fr.of, noS, List.length_nil] at HSm
    have e6 := HF6.out
    obtain ⟨b0, b1, b2, b3, b4, b5, b6, b7, b8, b9⟩ := e6
    go_wp2_with fail
    rw [HW7.out]
    refine HSm.out.mono ?_
    rintro e w8 ⟨rfl, hb8⟩
    have HB8 := Lib.hid (below_on HB7.out hb8)
    have hkp := kept_any w8 A2 A b.length cin c b rfl (by omega) hcin (HR7.out.step hb8) (HR.out.step HB8.out)
    have HKp := Lib.hid hkp
    clear hb8 hkp c0 c1 c2 c3 c4 c5 c6 c7 c8 c9 d0 d1 d2 d3 d4 d5 d6 d7 d8 d9
    go_wp2_with fail
    refine HKp.out.mono ?_
    rintro e w9 ⟨rfl, hb9⟩
    have HB9 := Lib.hid (below_on HB8.out hb9)
    clear hb9
    go_wp2_with fail
    go_ret
    exact ⟨rfl, HB9.out⟩
  | some f =>
    have hge2 := hge.mono fun e w' h => h.ok hg
    have HGe := Lib.hid hge2
    have HG := Lib.hid hg
    obtain ⟨hck, hpf, _⟩ := put_get hg
    have HCk := Lib.hid hck
    have HPf := Lib.hid hpf
    clear hge hge2 hg hck hpf
    go_wp2_with fail
    refine HGe.out.mono ?_
    rintro e w3 ⟨hb3, Af, cf, rfl, hrf, hcf⟩
    have HB3 := Lib.hid (below_on HB2.out hb3)
    have HR3 := Lib.hid (HR2.out.step hb3)
    obtain ⟨w4, hw4⟩ : ∃ W, W = w3.alloc (Obj.cells (frCs f Af cf) 25) := ⟨_, rfl⟩
    have hb4 : Below w3.heap.size w3 w4 := by rw [hw4]; exact below_box _ _
    have hf4 : FrC w4 w3.heap.size f Af cf := by rw [hw4]; exact FrC.box w3 f Af cf _
    have hs4 : w4.heap.size = w3.heap.size + 1 := by rw [hw4]; simp
    have HB4 := Lib.hid (below_on HB3.out hb4)
    have HF4 := Lib.hid hf4
    have HS4 := Lib.hid hs4
    have HR4 := Lib.hid (HR3.out.step hb4)
    have HRf4 := Lib.hid ((hrf.mono (ok' := (· < w3.heap.size)) (fun k hk => hk.2)).step hb4)
    have HW4 := Lib.hid (show w3.alloc (Obj.cells #[.int .i64 f.kind, .int .i64 f.seq, .int .i64 f.got, .int .i64 f.stream, .int .i64 f.amount, .int .i64 f.code, .string f.who, .string f.name, .float .f64 f.weight, .slice Af f.bytes.length cf] 25) = w4 from hw4.symm)
    have hnw := new_any w4
    have HNw := Lib.hid hnw
    clear hb3 hw4 hb4 hf4 hs4 hnw hrf
    simp only [frV]
    go_wp2_with fail
    rw [HW4.out]
    refine HNw.out.mono ?_
    rintro e w5 ⟨H, va, vb, rfl, hT, hb5⟩
    have HB5 := Lib.hid (below_on HB4.out hb5)
    have HF5 := Lib.hid (HF4.out.on (by rw [HS4.out]; omega) hb5)
    have HR5 := Lib.hid (HR4.out.step hb5)
    have HRf5 := Lib.hid (HRf4.out.step hb5)
    have hz5 : w3.heap.size < w5.heap.size := by have := hb5.size; have := HS4.out; omega
    have hrg := (rget_any w5 H w4.heap.size va vb A b.length c b rfl hT (HR.out.step HB5.out) hc (by omega)).mono fun e w' h => h.ok HG.out
    have HRg := Lib.hid hrg
    clear hb5 hT hrg HNw
    go_wp2_with fail
    refine HRg.out.mono ?_
    rintro e w6 ⟨hb6, Ag, cg, rfl, hrh⟩
    have HB6 := Lib.hid (below_on HB5.out hb6)
    have HF6 := Lib.hid (HF5.out.on hz5 hb6)
    have HR6 := Lib.hid (HR5.out.step hb6)
    have HRf6 := Lib.hid (HRf5.out.step hb6)
    have hz6 : w3.heap.size < w6.heap.size := by have := hb6.size; omega
    obtain ⟨w7, hw7⟩ : ∃ W, W = w6.alloc (Obj.cells (frCs f Ag cg) 25) := ⟨_, rfl⟩
    have hb7 : Below w6.heap.size w6 w7 := by rw [hw7]; exact below_box _ _
    have hf7 : FrC w7 w6.heap.size f Ag cg := by rw [hw7]; exact FrC.box w6 f Ag cg _
    have HB7 := Lib.hid (below_on HB6.out hb7)
    have HF7 := Lib.hid (HF6.out.on hz6 hb7)
    have hf7' := HF7.out
    have HR7 := Lib.hid (HR6.out.step hb7)
    have HRf7 := Lib.hid (HRf6.out.step hb7)
    have hz7 : w3.heap.size < w7.heap.size := by have := hb7.size; omega
    have HW7 := Lib.hid (show w6.alloc (Obj.cells #[.int .i64 f.kind, .int .i64 f.seq, .int .i64 f.got, .int .i64 f.stream, .int .i64 f.amount, .int .i64 f.code, .string f.who, .string f.name, .float .f64 f.weight, .slice Ag f.bytes.length cg] 25) = w7 from hw7.symm)
    have hsm := rsame_any f f Af Ag cf cg w7 HRf7.out ((hrh.mono (fun k hk => hk.2)).step hb7)
    rw [decide_eq_true rfl] at hsm
    have HSm := Lib.hid hsm
    clear hb6 hw7 hb7 hsm HRg hrh
    simp only [frV] at HSm
    simp only [frV]
    obtain ⟨c0, c1, c2, c3, c4, c5, c6, c7, c8, c9⟩ := hf7
    obtain ⟨d0, d1, d2, d3, d4, d5, d6, d7, d8, d9⟩ := hf7'
    go_wp2_with (rw [HW7.out])
    refine HSm.out.mono ?_
    rintro e w8 ⟨rfl, hb8⟩
    have HB8 := Lib.hid (below_on HB7.out hb8)
    have HF8 := Lib.hid (HF7.out.on hz7 hb8)
    have HRf8 := Lib.hid (HRf7.out.step hb8)
    have hz8 : w3.heap.size < w8.heap.size := by have := hb8.size; omega
    have hkp := kept_any w8 A2 A b.length cin c b rfl (by omega) hcin (HR7.out.step hb8) (HR.out.step HB8.out)
    have HKp := Lib.hid hkp
    clear hb8 hkp c0 c1 c2 c3 c4 c5 c6 c7 c8 c9 d0 d1 d2 d3 d4 d5 d6 d7 d8 d9
    go_wp2_with fail
    refine HKp.out.mono ?_
    rintro e w9 ⟨rfl, hb9⟩
    have HB9 := Lib.hid (below_on HB8.out hb9)
    have HF9 := HF8.out.on hz8 hb9
    have hpu := (putF_any es f Af cf w9 (HE.out.step HB9.out).fenv (check_lens HCk.out) (HRf8.out.step hb9)).mono fun e w' h => h.ok HCk.out
    rw [HPf.out] at hpu
    have HPu := Lib.hid hpu
    clear hb9 hpu
    obtain ⟨c0, c1, c2, c3, c4, c5, c6, c7, c8, c9⟩ := HF9
    simp only [frV] at HPu
    go_wp2_with fail
    refine HPu.out.mono ?_
    rintro e wa ⟨hba, Ap, cp, rfl, hcp, hop⟩
    have HBa := Lib.hid (below_on HB9.out hba)
    have k1 : (convert 23 9 (.slice Ap b.length cp)).run Tryd.prog wa = .ok (.string ⟨b.toArray⟩) wa := run_str_of Tryd.underlying23 Tryd.underlying5 Tryd.underlying9 rfl (RdC.of_own hop)
    have k2 : (convert 23 9 (.slice A b.length c)).run Tryd.prog wa = .ok (.string ⟨b.toArray⟩) wa := run_str_of Tryd.underlying23 Tryd.underlying5 Tryd.underlying9 rfl (HR.out.step HBa.out)
    clear hba hop c0 c1 c2 c3 c4 c5 c6 c7 c8 c9
    go_wp2_with fail
    go_ret
    exact ⟨rfl, HBa.out⟩
end Go.Proofs.YtpekagkhgegefaaDoor
