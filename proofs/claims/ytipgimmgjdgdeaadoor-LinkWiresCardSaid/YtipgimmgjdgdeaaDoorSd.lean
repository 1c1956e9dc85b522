/- Walks of package scan: next of all; New; frames in a row in memory. -/
import Derived.Test.YtipgimmgjdgdeaaDoorSb
set_option linter.unusedVariables false
set_option linter.unusedSimpArgs false
set_option linter.unnecessarySimpa false
namespace Go.Proofs.YtipgimmgjdgdeaaDoor
open Go.RowKit
attribute [local go_sem] run_store_flt

theorem grown_frPut (w : World) (B : Nat) (g : Fr) (A : Option Addr) (c : Nat) : w.grownBy (frPut w B g A c) (some B) := by
  have key : ∀ (W : World) (i : Nat) (v : Value), w.grownBy W (some B) → w.grownBy (W.setCell ⟨B, i, none⟩ v) (some B) := fun W i v h =>
    ⟨h.os, h.tape, h.output, by rw [World.size_setCell]; exact h.size, fun k hk hn => (heap_setCell_other _ _ _ _ (fun e => hn (by rw [e]))).trans (h.block k hk hn)⟩
  unfold frPut
  exact key _ _ _ (key _ _ _ (key _ _ _ (key _ _ _ (key _ _ _ (key _ _ _ (key _ _ _ (key _ _ _ (key _ _ _ (key _ _ _ (World.grownBy.refl _ _))))))))))
theorem next_w {es : Er → Addr} {w W3 : World} {G : Nat} {b : Bs} {tmps : Array Value} (hN : nextF b = .wait) (hb : Below w.heap.size w W3) (h0 : W3.heap[w.heap.size]? = some (.cells (frCs (Fr.of 0) none 0) 33 (0, 0)))
    (ht : tmps[2]? = some (.pointer (some ⟨w.heap.size, 0, none⟩))) (h3 : tmps[3]? = some (.bool false)) (h4 : tmps[4]? = some .nilIface) :
    bodyPost Tryd.prog Tryd.f71 (NextP es w G b) .ret { tmps := tmps, defers := [] } (frPut W3 w.heap.size (Fr.of 0) none 0) :=
  next_ret (Q := NextP es w G b) (g := Fr.of 0) (A := none) (K := 0) (r := false) (ev := .nilIface) h0 ht h3 h4 (NextP.wait hN (frPut_below hb (Nat.le_refl _)))
theorem next_b {es : Er → Addr} {w W3 : World} {G : Nat} {b : Bs} {tmps : Array Value} (hN : nextF b = .bad) (hb : Below w.heap.size w W3) (h0 : W3.heap[w.heap.size]? = some (.cells (frCs (Fr.of 0) none 0) 33 (0, 0)))
    (ht : tmps[2]? = some (.pointer (some ⟨w.heap.size, 0, none⟩))) (h3 : tmps[3]? = some (.bool false)) (h4 : tmps[4]? = some (errV (es .frame))) :
    bodyPost Tryd.prog Tryd.f71 (NextP es w G b) .ret { tmps := tmps, defers := [] } (frPut W3 w.heap.size (Fr.of 0) none 0) :=
  next_ret (Q := NextP es w G b) (g := Fr.of 0) (A := none) (K := 0) (r := false) (ev := errV (es .frame)) h0 ht h3 h4 (NextP.bad hN (frPut_below hb (Nat.le_refl _)))
theorem next_o {es : Er → Addr} {w W3 : World} {G n cf : Nat} {b : Bs} {f : Fr} {Af : Option Addr} {v' : Value} {tmps : Array Value} (hN : nextF b = .one f n) (hG : G < w.heap.size) (hc : Chg (· = G) w W3)
    (h0 : W3.heap[w.heap.size]? = some (.cells (frCs (Fr.of 0) none 0) 33 (0, 0))) (hg : W3.heap[G]? = some (.cells #[v', .bool false] 109 (0, 0)))
    (ho : W3.ownsRow w.heap.size 5 1 v' (b.drop n).length (bvs (b.drop n))) (hne : v'.ownBlock ≠ some w.heap.size) (hr : RdC (fun k => w.heap.size < k ∧ k < W3.heap.size) W3 Af (bvs f.bytes))
    (ht : tmps[2]? = some (.pointer (some ⟨w.heap.size, 0, none⟩))) (h3 : tmps[3]? = some (.bool true)) (h4 : tmps[4]? = some .nilIface) :
    bodyPost Tryd.prog Tryd.f71 (NextP es w G b) .ret { tmps := tmps, defers := [] } (frPut W3 w.heap.size f Af cf) := by
  refine next_ret (Q := NextP es w G b) (g := f) (A := Af) (K := cf) (r := true) (ev := .nilIface) h0 ht h3 h4 ?_
  unfold NextP
  rw [hN]
  refine ⟨Af, cf, v', rfl, (hr.move (fun k hk => frPut_other _ _ _ _ (by omega))).mono (fun k hk => by rw [frPut_size]; omega), ?_, ?_, ho.kept (grown_frPut _ _ _ _ _) (by first | exact .inr hne | exact hne | exact Or.inr (fun e => hne e))⟩
  · exact hc.trans (Chg.of_grown (S := (· = w.heap.size)) (grown_frPut _ _ _ _ _) (fun i e => Option.some.inj e)) (fun i hi e => absurd e (by omega))
  · exact (frPut_other _ _ _ _ (by omega)).trans hg
theorem nx_ge (b : Bs) : 6 ≤ nxLen b := by unfold nxLen; omega
set_option maxRecDepth 8000 in
set_option maxHeartbeats 2400000 in
theorem next_bad (es : Er → Addr) (base : Nat) (w : World) (G : Nat) (v : Value) (b : Bs) (hE : GEnv w es) (h : ScanAt base w G v b false) (hl : 2 ≤ b.length) (hbad : nxLen b < 7 ∨ nxLen b > 1024) :
    Calls Tryd.prog 71 #[.pointer (some ⟨G, 0, none⟩)] w (NextP es w G b) := by
  have HNx := Lib.hid (nx_bad_len hl hbad)
  obtain ⟨w1, hw1⟩ : ∃ W, W = w.alloc (Obj.cells #[.int .i64 0, .int .i64 0, .int .i64 0, .int .i64 0, .int .i64 0, .int .i64 0, .string ⟨#[]⟩, .string ⟨#[]⟩, .float .f64 0, .slice none 0 0] 33) := ⟨_, rfl⟩
  have hb1 : Below w.heap.size w w1 := by rw [hw1]; exact below_box _ _
  have hh1 : w1.heap[w.heap.size]? = some (.cells (frCs (Fr.of 0) none 0) 33 (0, 0)) := by rw [hw1]; exact heap_alloc_new _ _
  have hsz := size_long base w1 G v b false (h.on hb1) hl
  have hn6 := nx_ge b
  generalize nxLen b = N at *
  have HSz := Lib.hid hsz
  have HB1 := Lib.hid hb1
  have HH1 := Lib.hid hh1
  have HE := Lib.hid hE
  have HW1 := Lib.hid hw1.symm
  have q0 : ((N : Int) == 0) = false := by rw [beq_eq_false_iff_ne]; omega
  clear hb1 hh1 hsz hE hw1 h
  go_enter Tryd.func71, Tryd.ntmps71
  go_wp2_with fail
  rw [HW1.out]
  refine HSz.out.mono ?_
  rintro e w5 ⟨rfl, n2, hw2⟩
  have hb12 : Below w1.heap.size w1 w5 := by rw [hw2]; exact below_drewN (Below.refl _ _) _
  have HB5 := Lib.hid (below_on HB1.out hb12)
  have hh5 : w5.heap[w.heap.size]? = some (.cells (frCs (Fr.of 0) none 0) 33 (0, 0)) := by rw [hw2]; exact HH1.out
  obtain ⟨d0, d1, d2, d3, d4, d5, d6, d7, d8, d9⟩ := FrC.of_heap hh5
  have hfz : ∀ j, w5.frozen? ⟨w.heap.size, j, none⟩ = false := fun j => frozen_of_row w5 w.heap.size j _ _ hh5
  have he := (HE.out.frame.below HB5.out).at
  unfold errV at he
  have hgl := HE.out.frame.g_lt
  have hgne : 1 ≠ w.heap.size := Nat.ne_of_lt hgl
  have s0 : w5.setCell ⟨w.heap.size, 0, none⟩ (.int .i64 0) = w5 := setCell_id hh5 rfl
  have s1 : w5.setCell ⟨w.heap.size, 1, none⟩ (.int .i64 0) = w5 := setCell_id hh5 rfl
  have s2 : w5.setCell ⟨w.heap.size, 2, none⟩ (.int .i64 0) = w5 := setCell_id hh5 rfl
  have s3 : w5.setCell ⟨w.heap.size, 3, none⟩ (.int .i64 0) = w5 := setCell_id hh5 rfl
  have s4 : w5.setCell ⟨w.heap.size, 4, none⟩ (.int .i64 0) = w5 := setCell_id hh5 rfl
  have s5 : w5.setCell ⟨w.heap.size, 5, none⟩ (.int .i64 0) = w5 := setCell_id hh5 rfl
  have s6 : w5.setCell ⟨w.heap.size, 6, none⟩ (.string ⟨#[]⟩) = w5 := setCell_id hh5 rfl
  have s7 : w5.setCell ⟨w.heap.size, 7, none⟩ (.string ⟨#[]⟩) = w5 := setCell_id hh5 rfl
  have s8 : w5.setCell ⟨w.heap.size, 8, none⟩ (.float .f64 0) = w5 := setCell_id hh5 rfl
  have s9 : w5.setCell ⟨w.heap.size, 9, none⟩ (.slice none 0 0) = w5 := setCell_id hh5 rfl
  clear hw2 hb12 hh5 HSz
  by_cases h7 : N < 7
  · have k7 : (N : Int) < 7 := by omega
    clear hbad h7
    go_wp2_with fail
    go_region
    clear s0 s1 s2 s3 s4 s5 s6 s7 s8 s9
    go_wp2_with fail
    exact bodyPost_ret (v := .tuple #[frV (Fr.of 0) none 0, .bool false, errV (es .frame)]) (by simp [results, Tryd.results71, go_sem, frV, Fr.of, noS, errV, d0, d1, d2, d3, d4, d5, d6, d7, d8, d9]) rfl (NextP.bad HNx.out (by repeat (first | exact HB5.out | refine Below.drew ?_ | refine below_drewN ?_ _ | refine Below.setCell ?_ (Nat.le_refl _) _)))
  · have k7 : ¬ (N : Int) < 7 := by omega
    have k10 : (1024 : Int) < (N : Int) := by omega
    clear hbad h7
    go_wp2_with fail
    go_region
    clear s0 s1 s2 s3 s4 s5 s6 s7 s8 s9
    go_wp2_with fail
    exact bodyPost_ret (v := .tuple #[frV (Fr.of 0) none 0, .bool false, errV (es .frame)]) (by simp [results, Tryd.results71, go_sem, frV, Fr.of, noS, errV, d0, d1, d2, d3, d4, d5, d6, d7, d8, d9]) rfl (NextP.bad HNx.out (by repeat (first | exact HB5.out | refine Below.drew ?_ | refine below_drewN ?_ _ | refine Below.setCell ?_ (Nat.le_refl _) _)))
set_option maxRecDepth 8000 in
set_option maxHeartbeats 2400000 in
theorem next_more (es : Er → Addr) (base : Nat) (w : World) (G : Nat) (v : Value) (b : Bs) (hE : GEnv w es) (h : ScanAt base w G v b false) (hl : 2 ≤ b.length) (hbl : b.length ≤ 1000000000000) (hok : ¬ (nxLen b < 7 ∨ nxLen b > 1024)) :
    Calls Tryd.prog 71 #[.pointer (some ⟨G, 0, none⟩)] w (NextP es w G b) := by
  obtain ⟨w1, hw1⟩ : ∃ W, W = w.alloc (Obj.cells #[.int .i64 0, .int .i64 0, .int .i64 0, .int .i64 0, .int .i64 0, .int .i64 0, .string ⟨#[]⟩, .string ⟨#[]⟩, .float .f64 0, .slice none 0 0] 33) := ⟨_, rfl⟩
  have hb1 : Below w.heap.size w w1 := by rw [hw1]; exact below_box _ _
  have hh1 : w1.heap[w.heap.size]? = some (.cells (frCs (Fr.of 0) none 0) 33 (0, 0)) := by rw [hw1]; exact heap_alloc_new _ _
  have hsz := size_long base w1 G v b false (h.on hb1) hl
  have hn6 := nx_ge b
  have hnw := fun h3 => nx_wait hl hok h3
  have hnb := fun h3 => nx_bad_get hl hok h3
  have hno := fun h4 f => nx_of (f := f) hl (by omega) (by omega) h4
  obtain ⟨A, c, rfl, hc, _⟩ := own_slice h.own
  obtain ⟨ad, rfl, _, _⟩ := RdC.of_own h.own (by intro e; have : b = [] := List.map_eq_nil_iff.1 e; subst this; simp at hl)
  have hgl := h.lt
  generalize nxLen b = N at *
  have HSz := Lib.hid hsz
  have HB1 := Lib.hid hb1
  have HH1 := Lib.hid hh1
  have HE := Lib.hid hE
  have HW1 := Lib.hid hw1.symm
  have HSc := Lib.hid (h.on hb1)
  have HNw := Lib.hid hnw
  have HNb := Lib.hid hnb
  have HNo := Lib.hid hno
  have q0 : ((N : Int) == 0) = false := by rw [beq_eq_false_iff_ne]; omega
  have k7 : ¬ (N : Int) < 7 := by omega
  have k10 : ¬ (1024 : Int) < (N : Int) := by omega
  have hN7 : 7 ≤ N := by omega
  have hN10 : N ≤ 1024 := by omega
  have HHd := Lib.hid h.head
  clear hb1 hh1 hsz hE hw1 hnw hnb hno hok
  have hle := h.le
  have hown := h.own
  clear h
  have HOw := Lib.hid hown
  clear hown
  go_enter Tryd.func71, Tryd.ntmps71
  go_wp2_with fail
  rw [HW1.out]
  refine HSz.out.mono ?_
  rintro e w2 ⟨rfl, n2, hw2⟩
  have hb12 : Below w1.heap.size w1 w2 := by rw [hw2]; exact below_drewN (Below.refl _ _) _
  have HB2 := Lib.hid (below_on HB1.out hb12)
  have HH2 := Lib.hid (show w2.heap[w.heap.size]? = some (.cells (frCs (Fr.of 0) none 0) 33 (0, 0)) by rw [hw2]; exact HH1.out)
  have HSc2 := Lib.hid (HSc.out.on hb12)
  have hPlt : w.heap.size < w2.heap.size := (Array.getElem?_eq_some_iff.1 HH2.out).1
  have g0 := HSc2.out.c0
  clear hw2 hb12 HSz
  by_cases hwt : b.length < N
  · have kw : (b.length : Int) < (N : Int) := by omega
    have HNx := Lib.hid (HNw.out hwt)
    obtain ⟨d0, d1, d2, d3, d4, d5, d6, d7, d8, d9⟩ := FrC.of_heap HH2.out
    have hfz : ∀ j, w2.frozen? ⟨w.heap.size, j, none⟩ = false := fun j => frozen_of_row w2 w.heap.size j _ _ HH2.out
    clear hwt
    go_wp2_with fail
    exact next_w HNx.out HB2.out HH2.out rfl rfl rfl
  · have kw : ¬ (b.length : Int) < (N : Int) := by omega
    have kc : (N : Int) ≤ (c : Int) := by omega
    have k0 : (0 : Int) ≤ (N : Int) := by omega
    have hrd : RdC (· < w2.heap.size) w2 (some ad) (bvs b) := (RdC.of_own HSc2.out.own).mono (fun k hk => hk.2)
    have HRd := Lib.hid hrd
    have hge := getF_any es w2 (some ad) N c (b.take N) (by rw [List.length_take]; omega) (HE.out.step HB2.out) (by rw [bvs_take]; exact hrd.take _) (by rw [List.length_take]; omega) (by rw [List.length_take]; omega)
    clear hrd
    cases hg : getF (b.take N) with
    | none =>
      have hge2 := hge.mono fun e w' h => h.er hg
      have HGe := Lib.hid hge2
      have HNx := Lib.hid (HNb.out hwt hg)
      clear hge hge2 hg hwt
      go_wp2_with fail
      refine HGe.out.mono ?_
      rintro e w3 ⟨rfl, hb3⟩
      have HB3 := Lib.hid (below_on HB2.out hb3)
      have hh3 := (hb3.block w.heap.size hPlt).trans HH2.out
      have hP3 : w.heap.size < w3.heap.size := (Array.getElem?_eq_some_iff.1 hh3).1
      obtain ⟨d0, d1, d2, d3, d4, d5, d6, d7, d8, d9⟩ := FrC.of_heap hh3
      have hfz : ∀ j, w3.frozen? ⟨w.heap.size, j, none⟩ = false := fun j => frozen_of_row w3 w.heap.size j _ _ hh3
      have s0 : w3.setCell ⟨w.heap.size, 0, none⟩ (.int .i64 0) = w3 := setCell_id hh3 rfl
      have s1 : w3.setCell ⟨w.heap.size, 1, none⟩ (.int .i64 0) = w3 := setCell_id hh3 rfl
      have s2 : w3.setCell ⟨w.heap.size, 2, none⟩ (.int .i64 0) = w3 := setCell_id hh3 rfl
      have s3 : w3.setCell ⟨w.heap.size, 3, none⟩ (.int .i64 0) = w3 := setCell_id hh3 rfl
      have s4 : w3.setCell ⟨w.heap.size, 4, none⟩ (.int .i64 0) = w3 := setCell_id hh3 rfl
      have s5 : w3.setCell ⟨w.heap.size, 5, none⟩ (.int .i64 0) = w3 := setCell_id hh3 rfl
      have s6 : w3.setCell ⟨w.heap.size, 6, none⟩ (.string ⟨#[]⟩) = w3 := setCell_id hh3 rfl
      have s7 : w3.setCell ⟨w.heap.size, 7, none⟩ (.string ⟨#[]⟩) = w3 := setCell_id hh3 rfl
      have s8 : w3.setCell ⟨w.heap.size, 8, none⟩ (.float .f64 0) = w3 := setCell_id hh3 rfl
      have s9 : w3.setCell ⟨w.heap.size, 9, none⟩ (.slice none 0 0) = w3 := setCell_id hh3 rfl
      clear hb3 hh3 g0
      simp only [frV, Fr.of, noS, errV, List.length_nil]
      go_wp2_with fail
      clear s0 s1 s2 s3 s4 s5 s6 s7 s8 s9
      exact bodyPost_ret (v := .tuple #[frV (Fr.of 0) none 0, .bool false, errV (es .frame)]) (by simp [results, Tryd.results71, go_sem, frV, Fr.of, noS, errV, hP3, d0, d1, d2, d3, d4, d5, d6, d7, d8, d9]) rfl (NextP.bad HNx.out (HB3.out.alloc HB3.out.size _))
    | some f =>
      have hge2 := hge.mono fun e w' h => h.ok hg
      have HGe := Lib.hid hge2
      have HNx := Lib.hid (HNo.out (by omega) f hg)
      clear hge hge2 hg
      obtain ⟨i0, hi, hz0, hz1, hz2⟩ := info_parts infoU8
      go_wp2_with fail
      refine HGe.out.mono ?_
      rintro e w3 ⟨hb3, Af, cf, rfl, hrf, hcf⟩
      have HB3 := Lib.hid (below_on HB2.out hb3)
      have hh3 := (hb3.block w.heap.size hPlt).trans HH2.out
      have hsc3 := HSc2.out.on hb3
      have hz3 : w2.heap.size ≤ w3.heap.size := hb3.size
      have hrf3 := hrf.mono (ok' := fun k => w2.heap.size ≤ k ∧ k < w3.heap.size) (fun k hk => ⟨by omega, hk.2⟩)
      have hG3 : G < w3.heap.size := hsc3.lt
      have hP3 : w.heap.size < w3.heap.size := by omega
      obtain ⟨w5, hw5⟩ : ∃ W, W = (w3.alloc (Obj.cells #[.int .i64 f.kind, .int .i64 f.seq, .int .i64 f.got, .int .i64 f.stream, .int .i64 f.amount, .int .i64 f.code, .string f.who, .string f.name, .float .f64 f.weight, .slice Af f.bytes.length cf] 33)).alloc (Obj.cells #[] 5) := ⟨_, rfl⟩
      have hb4 : Below w3.heap.size w3 (w3.alloc (Obj.cells #[.int .i64 f.kind, .int .i64 f.seq, .int .i64 f.got, .int .i64 f.stream, .int .i64 f.amount, .int .i64 f.code, .string f.who, .string f.name, .float .f64 f.weight, .slice Af f.bytes.length cf] 33)) := below_box _ _
      have hb4' : Below (w3.alloc (Obj.cells #[.int .i64 f.kind, .int .i64 f.seq, .int .i64 f.got, .int .i64 f.stream, .int .i64 f.amount, .int .i64 f.code, .string f.who, .string f.name, .float .f64 f.weight, .slice Af f.bytes.length cf] 33)).heap.size (w3.alloc (Obj.cells #[.int .i64 f.kind, .int .i64 f.seq, .int .i64 f.got, .int .i64 f.stream, .int .i64 f.amount, .int .i64 f.code, .string f.who, .string f.name, .float .f64 f.weight, .slice Af f.bytes.length cf] 33)) w5 := by rw [hw5]; exact below_box _ _
      have hs4 : (w3.alloc (Obj.cells #[.int .i64 f.kind, .int .i64 f.seq, .int .i64 f.got, .int .i64 f.stream, .int .i64 f.amount, .int .i64 f.code, .string f.who, .string f.name, .float .f64 f.weight, .slice Af f.bytes.length cf] 33)).heap.size = w3.heap.size + 1 := by simp
      have hs5 : w5.heap.size = w3.heap.size + 1 + 1 := by rw [hw5]; simp
      have ho5 : w5.ownsRow (w3.heap.size + 1) 5 1 (.slice (some ⟨w3.heap.size + 1, 0, none⟩) 0 0) 0 [] := by
        have := World.ownsRow_lit (base := w3.heap.size + 1) (e := 5) (size := 1) (w3.alloc (Obj.cells #[.int .i64 f.kind, .int .i64 f.seq, .int .i64 f.got, .int .i64 f.stream, .int .i64 f.amount, .int .i64 f.code, .string f.who, .string f.name, .float .f64 f.weight, .slice Af f.bytes.length cf] 33)) #[] 0 (by simp) (by unfold maxLen; omega) rfl
        rw [hs4, ← hw5] at this
        exact this
      have hf5 : FrC w5 w3.heap.size f Af cf := (show FrC (w3.alloc (Obj.cells #[.int .i64 f.kind, .int .i64 f.seq, .int .i64 f.got, .int .i64 f.stream, .int .i64 f.amount, .int .i64 f.code, .string f.who, .string f.name, .float .f64 f.weight, .slice Af f.bytes.length cf] 33)) w3.heap.size f Af cf from FrC.box w3 f Af cf _).on (by simp) hb4'
      have hb5 : Below w3.heap.size w3 w5 := hb4.trans (hb4'.mono hb4.size)
      have hsc5 := hsc3.on hb5
      have hh5 := (hb5.block w.heap.size hP3).trans hh3
      have hrb := (RdC.of_own hsc5.own).mono (ok' := (· < w5.heap.size)) (fun k hk => hk.2)
      have hnl : (bvs (b.drop N)).length = (b.length - N) * 1 := by rw [bvs_length, List.length_drop]; omega
      have hrf5 := hrf3.move (w' := w5) (fun k hk => hb5.block k hk.2)
      have HB5 := Lib.hid (below_on HB3.out hb5)
      have HO5 := Lib.hid ho5
      have HF5 := Lib.hid hf5
      have HNl := Lib.hid hnl
      have HS5 := Lib.hid hs5
      have HRb := Lib.hid hrb
      have HSc5 := Lib.hid hsc5
      have HH5 := Lib.hid hh5
      have HRf5 := Lib.hid hrf5
      have HW5 := Lib.hid hw5.symm
      have hG5 : G < w5.heap.size := hsc5.lt
      have hz5 : w3.heap.size + 1 + 1 ≤ w5.heap.size := by omega
      have g5 := hsc5.c0
      have g5f := hsc5.fz 0
      have hGn : G ≠ w3.heap.size := by omega
      have hGn2 : w3.heap.size ≠ G := by omega
      have hGp : G ≠ w.heap.size := by omega
      have hGp2 : w.heap.size ≠ G := by omega
      have k1 : (N : Int) ≤ (b.length : Int) := by omega
      have k2 : (b.length : Int) ≤ (c : Int) := by omega
      clear hb3 hh3 g0 hrf hrf3 hb4 hb4' hs4 ho5 hf5 hnl hs5 hb5 hrb hwt hsc3 hw5 hsc5 hh5 hrf5
      by_cases hcn : c = N
      · subst hcn
        have hE0 := Lib.hid (show b.drop c = [] from List.drop_eq_nil_of_le (by omega))
        obtain ⟨d0, d1, d2, d3, d4, d5, d6, d7, d8, d9⟩ := FrC.of_heap HH5.out
        have hfz : ∀ j, w5.frozen? ⟨w.heap.size, j, none⟩ = false := fun j => frozen_of_row w5 w.heap.size j _ _ HH5.out
        obtain ⟨f0, f1, f2, f3, f4, f5, f6, f7, f8, f9⟩ := HF5.out
        unfold frV
        go_wp2_with (rw [HW5.out])
        refine next_o (v' := .slice (some ⟨w3.heap.size + 1, 0, none⟩) 0 0) HNx.out hgl ((Chg.of_below (S := (· = G)) HB5.out).setCell _ rfl) ?_ ?_ ?_ ?_ ?_ (by rfl) (by rfl) (by rfl)
        · rw [heap_setCell_other _ _ _ _ (by exact hGp2)]; exact HH5.out
        · rw [heap_setCell_same _ _ _ _ _ _ HSc5.out.head]; rfl
        · rw [hE0.out]
          have hk := HO5.out.kept (grown_set (w := w5) (p := ⟨G, 0, none⟩) (.slice (some ⟨w3.heap.size + 1, 0, none⟩) 0 0)) (.inr (fun e => by have h1 : w3.heap.size + 1 = G := Option.some.inj e; omega))
          exact own_lower hk (by omega)
        · intro e
          have h1 : w3.heap.size + 1 = w.heap.size := Option.some.inj e
          omega
        · exact (HRf5.out.move (fun k hk => heap_setCell_other _ _ _ _ (by show k ≠ G; omega))).mono (fun k hk => ⟨by omega, by rw [World.size_setCell]; omega⟩)
      · have hrn : RdC (· < w5.heap.size) w5 (some (ad.add N)) (bvs (b.drop N)) := by
          have hr := HRb.out.drop N false (by simp)
          rw [show (if false = true then some ad else (some ad : Option Addr).map (·.add N)) = some (ad.add N) by simp] at hr
          simpa [bvs, List.map_drop] using hr
        have HRn := Lib.hid hrn
        clear hrn
        unfold frV
        go_wp2_with (first
          | (at_builtin; refine wpList_appS (ok := (· < w5.heap.size)) _ (w3.heap.size + 1) (.tmp 47) (.tmp 53) 31 5 i0 (.int .u8 0) 1 1 rfl (by rfl) Tryd.underlying31 hi hz0 hz1 hz2 rfl (by omega) (by omega) _ 0 [] (by rfl) HO5.out _ (b.length - N) _ (bvs (b.drop N)) (by rfl) HNl.out HRn.out (bvs_one _) (by omega) (by omega) ?_; intro v6 w6 hown6 hg6; obtain ⟨A6, c6, rfl, hc6, _⟩ := own_slice hown6; have h6G : w6.heap[G]? = some (.cells #[.slice (some ad) b.length c, .bool false] 109 (0, 0)) := (hg6.by_.block G hG5 (fun e => by have h1 : G = w3.heap.size + 1 := Option.some.inj e; omega)).trans HSc5.out.head; have k6c := (cell_of_row _ _ 0 _ _ _ h6G).trans (show _ = some (Value.slice (some ad) b.length c) from rfl); have k6f := frozen_of_row w6 G 0 _ _ h6G; obtain ⟨f0, f1, f2, f3, f4, f5, f6, f7, f8, f9⟩ := HF5.out.move (hg6.by_.block w3.heap.size (by omega) (fun e => by have h1 : w3.heap.size = w3.heap.size + 1 := Option.some.inj e; omega)); have h6P : w6.heap[w.heap.size]? = some (.cells (frCs (Fr.of 0) none 0) 33 (0, 0)) := (hg6.by_.block w.heap.size (by omega) (fun e => by have h1 : w.heap.size = w3.heap.size + 1 := Option.some.inj e; omega)).trans HH5.out; obtain ⟨d0, d1, d2, d3, d4, d5, d6, d7, d8, d9⟩ := FrC.of_heap h6P; have hfz : ∀ j, w6.frozen? ⟨w.heap.size, j, none⟩ = false := fun j => frozen_of_row w6 w.heap.size j _ _ h6P)
          | rw [HW5.out])
        have hso : Chg (· = G) w w6 := by
          refine ⟨hg6.by_.os.trans HB5.out.os, hg6.by_.tape.trans HB5.out.tape, hg6.by_.output.trans HB5.out.output, Nat.le_trans HB5.out.size hg6.by_.size, fun k hk hn => ?_⟩
          exact (hg6.by_.block k (by omega) (fun e => by have h1 : k = w3.heap.size + 1 := Option.some.inj e; omega)).trans (HB5.out.block k hk)
        have hs6 : w5.heap.size ≤ w6.heap.size := hg6.by_.size
        have h0 : 0 + (b.length - N) = b.length - N := Nat.zero_add _
        refine next_o (v' := .slice A6 (b.length - N) c6) HNx.out hgl (hso.setCell _ rfl) ?_ ?_ ?_ ?_ ?_ (by rfl) (by rfl) (by rfl)
        · rw [heap_setCell_other _ _ _ _ (by exact hGp2)]; exact h6P
        · rw [heap_setCell_same _ _ _ _ _ _ h6G]; rfl
        · have hk := hown6.kept (grown_set (w := w6) (p := ⟨G, 0, none⟩) (.slice A6 (b.length - N) c6)) (.inr (fun e => by have := (hown6.lt G e).1; omega))
          rw [h0, List.nil_append] at hk
          rw [List.length_drop]
          exact own_lower hk (by omega)
        · intro e
          have := (hown6.lt w.heap.size (by rw [h0]; exact e)).1
          omega
        · refine (HRf5.out.move (w' := w6.setCell ⟨G, 0, none⟩ (.slice A6 (b.length - N) c6)) (fun k hk => ?_)).mono (fun k hk => ⟨by omega, by rw [World.size_setCell]; omega⟩)
          rw [heap_setCell_other _ _ _ _ (by show k ≠ G; omega)]
          exact hg6.by_.block k (by omega) (fun e => by have h1 : k = w3.heap.size + 1 := Option.some.inj e; omega)
end Go.Proofs.YtipgimmgjdgdeaaDoor
/- Walks of package scan: next of a beginning of two bytes or more. -/
set_option linter.unusedVariables false
set_option linter.unusedSimpArgs false
set_option linter.unnecessarySimpa false
namespace Go.Proofs.YtipgimmgjdgdeaaDoor
open Go.RowKit
attribute [local go_sem] run_store_flt

/-- next of a scanner that is whole. -/
theorem next_any (es : Er → Addr) (base : Nat) (w : World) (G : Nat) (v : Value) (b : Bs) (hE : GEnv w es) (h : ScanAt base w G v b false) (hbl : b.length ≤ 1000000000000) :
    Calls Tryd.prog 71 #[.pointer (some ⟨G, 0, none⟩)] w (NextP es w G b) := by
  by_cases hl : b.length < 2
  · exact next_short es base w G v b false h hl
  · by_cases hbad : nxLen b < 7 ∨ nxLen b > 1024
    · exact next_bad es base w G v b hE h (by omega) hbad
    · exact next_more es base w G v b hE h (by omega) hbl hbad
theorem NextP.isWait {es : Er → Addr} {w w' : World} {G : Nat} {b : Bs} {e : Ending} (h : NextP es w G b e w') (hn : nextF b = .wait) : e = .returned (.tuple #[frV (Fr.of 0) none 0, .bool false, .nilIface]) ∧ Below w.heap.size w w' := by
  unfold NextP at h; rw [hn] at h; exact h
theorem NextP.isBad {es : Er → Addr} {w w' : World} {G : Nat} {b : Bs} {e : Ending} (h : NextP es w G b e w') (hn : nextF b = .bad) : e = .returned (.tuple #[frV (Fr.of 0) none 0, .bool false, errV (es .frame)]) ∧ Below w.heap.size w w' := by
  unfold NextP at h; rw [hn] at h; exact h
theorem NextP.isOne {es : Er → Addr} {w w' : World} {G n : Nat} {b : Bs} {e : Ending} {f : Fr} (h : NextP es w G b e w') (hn : nextF b = .one f n) : ∃ A c v', e = .returned (.tuple #[frV f A c, .bool true, .nilIface]) ∧ RdC (fun k => w.heap.size ≤ k ∧ k < w'.heap.size) w' A (bvs f.bytes) ∧ Chg (· = G) w w' ∧ w'.heap[G]? = some (.cells #[v', .bool false] 109 (0, 0)) ∧
      w'.ownsRow w.heap.size 5 1 v' (b.drop n).length (bvs (b.drop n)) := by
  unfold NextP at h; rw [hn] at h; exact h
/-- Frames in a row: their cells; their bytes lie in blocks that are 'ok'. -/
inductive FrsV (ok : Nat → Prop) (w : World) : List Fr → List Value → Prop
  | nil : FrsV ok w [] []
  | snoc {fs : List Fr} {cs : List Value} {f : Fr} {A : Option Addr} {c : Nat} (h : FrsV ok w fs cs) (hr : RdC ok w A (bvs f.bytes)) : FrsV ok w (fs ++ [f]) (cs ++ (frCs f A c).toList)
theorem FrsV.move {ok : Nat → Prop} {w w' : World} {fs : List Fr} {cs : List Value} (h : FrsV ok w fs cs) (hm : ∀ b, ok b → w'.heap[b]? = w.heap[b]?) : FrsV ok w' fs cs := by
  induction h with
  | nil => exact .nil
  | snoc h hr ih => exact .snoc ih (hr.move hm)
theorem FrsV.mono {ok ok' : Nat → Prop} {w : World} {fs : List Fr} {cs : List Value} (h : FrsV ok w fs cs) (hm : ∀ b, ok b → ok' b) : FrsV ok' w fs cs := by
  induction h with
  | nil => exact .nil
  | snoc h hr ih => exact .snoc ih (hr.mono hm)
theorem FrsV.len {ok : Nat → Prop} {w : World} {fs : List Fr} {cs : List Value} (h : FrsV ok w fs cs) : cs.length = fs.length * 10 := by
  induction h with
  | nil => rfl
  | snoc h hr ih => rw [List.length_append, List.length_append, ih]; show _ + 10 = _; simp; omega
theorem FrsV.one {ok : Nat → Prop} {w : World} {fs : List Fr} {cs : List Value} (h : FrsV ok w fs cs) : ∀ u ∈ cs, u.oneCell' = true := by
  induction h with
  | nil => intro u hu; cases hu
  | snoc h hr ih =>
    intro u hu
    rcases List.mem_append.1 hu with h1 | h1
    · exact ih u h1
    · simp only [frCs, List.mem_cons, List.not_mem_nil, or_false] at h1
      rcases h1 with rfl | rfl | rfl | rfl | rfl | rfl | rfl | rfl | rfl | rfl <;> rfl
/-- Frame i of a row. -/
theorem FrsV.get {ok : Nat → Prop} {w : World} {fs : List Fr} {cs : List Value} (h : FrsV ok w fs cs) : ∀ (i : Nat) (hi : i < fs.length), ∃ A c, RdC ok w A (bvs fs[i].bytes) ∧ ∀ j, j < 10 → cs[i * 10 + j]? = (frCs fs[i] A c)[j]? := by
  induction h with
  | nil => intro i hi; cases hi
  | snoc h hr ih =>
    rename_i fs cs f A c
    intro i hi
    have hl := h.len
    by_cases h2 : i < fs.length
    · obtain ⟨B, d, h3, h4⟩ := ih i h2
      refine ⟨B, d, ?_, fun j hj => ?_⟩
      · rw [List.getElem_append_left h2]; exact h3
      · rw [List.getElem?_append_left (by omega), List.getElem_append_left h2]; exact h4 j hj
    · have h5 : i = fs.length := by simp at hi; omega
      subst h5
      refine ⟨A, c, ?_, fun j hj => ?_⟩
      · simpa using hr
      · rw [List.getElem?_append_right (by omega), hl, show fs.length * 10 + j - fs.length * 10 = j by omega]
        simp
set_option maxHeartbeats 400000 in
theorem snew_any (w : World) : Calls Tryd.prog 46 #[] w (fun e w' => e = .returned (.pointer (some ⟨w.heap.size, 0, none⟩)) ∧ Below w.heap.size w w' ∧ w'.heap.size = w.heap.size + 1 ∧ w'.heap[w.heap.size]? = some (.cells #[.slice none 0 0, .bool false] 109 (0, 0))) := by
  go_enter Tryd.func46, Tryd.ntmps46
  go_wp2_with fail
  go_ret
  exact ⟨rfl, below_box _ _, by simp, heap_alloc_new _ _⟩
end Go.Proofs.YtipgimmgjdgdeaaDoor
