/- Walk of the statement FrameUnlike (printed by gen_vr.py). -/
import Derived.Test.YtpekagkhgegefaaDoorVn
import Derived.Test.YtpekagkhgegefaaDoorVo
import Derived.Test.YtpekagkhgegefaaDoorRg
import Derived.RegionTactic
set_option linter.unusedVariables false
set_option linter.unusedSimpArgs false
set_option linter.unnecessarySimpa false
namespace Go.Proofs.YtpekagkhgegefaaDoor
open Go.RowKit
attribute [local go_sem] run_store_flt

theorem TableAt.belowV {base : Nat} {w w' : World} {H : Nat} {va vb : Value} (h : TableAt base w H va vb) (hb : Below w.heap.size w w') : TableAt base w' H va vb :=
  ⟨(hb.block H (Array.getElem?_eq_some_iff.1 h.head).1).trans h.head, own_below h.first hb, own_below h.round hb, h.le⟩
theorem get_sumd {c : Bs} {g : Fr} (h : getF c = some g) : (sha (c.take (c.length - 4))).take 4 = c.drop (c.length - 4) := by
  by_cases hs : (sha (c.take (c.length - 4))).take 4 = c.drop (c.length - 4)
  · exact hs
  · rw [get_sum hs] at h
    cases h
/-- Two frames, a place, a byte: their cells in block g. -/
def TwoC (W : World) (g : Nat) (a b : Fr) (A B : Option Addr) (ca cb : Nat) (z t : Int) : Prop :=
  W.cell? ⟨g, 0, none⟩ = some (.int .i64 a.kind) ∧ W.cell? ⟨g, 1, none⟩ = some (.int .i64 a.seq) ∧ W.cell? ⟨g, 2, none⟩ = some (.int .i64 a.got) ∧ W.cell? ⟨g, 3, none⟩ = some (.int .i64 a.stream) ∧ W.cell? ⟨g, 4, none⟩ = some (.int .i64 a.amount) ∧ W.cell? ⟨g, 5, none⟩ = some (.int .i64 a.code) ∧ W.cell? ⟨g, 6, none⟩ = some (.string a.who) ∧ W.cell? ⟨g, 7, none⟩ = some (.string a.name) ∧ W.cell? ⟨g, 8, none⟩ = some (.float .f64 a.weight) ∧ W.cell? ⟨g, 9, none⟩ = some (.slice A a.bytes.length ca) ∧ W.cell? ⟨g, 10, none⟩ = some (.int .i64 b.kind) ∧ W.cell? ⟨g, 11, none⟩ = some (.int .i64 b.seq) ∧ W.cell? ⟨g, 12, none⟩ = some (.int .i64 b.got) ∧ W.cell? ⟨g, 13, none⟩ = some (.int .i64 b.stream) ∧ W.cell? ⟨g, 14, none⟩ = some (.int .i64 b.amount) ∧ W.cell? ⟨g, 15, none⟩ = some (.int .i64 b.code) ∧ W.cell? ⟨g, 16, none⟩ = some (.string b.who) ∧ W.cell? ⟨g, 17, none⟩ = some (.string b.name) ∧ W.cell? ⟨g, 18, none⟩ = some (.float .f64 b.weight) ∧ W.cell? ⟨g, 19, none⟩ = some (.slice B b.bytes.length cb) ∧ W.cell? ⟨g, 20, none⟩ = some (.int .i64 z) ∧ W.cell? ⟨g, 21, none⟩ = some (.int .u8 t)
theorem TwoC.move {w w' : World} {g : Nat} {a b : Fr} {A B : Option Addr} {ca cb : Nat} {z t : Int} (h : TwoC w g a b A B ca cb z t) (hb : w'.heap[g]? = w.heap[g]?) : TwoC w' g a b A B ca cb z t := by
  have key : ∀ j, w'.cell? ⟨g, j, none⟩ = w.cell? ⟨g, j, none⟩ := fun j => World.cell?_of_block hb
  unfold TwoC at *
  simp only [key]
  exact h
theorem TwoC.on {w w' : World} {g : Nat} {a b : Fr} {A B : Option Addr} {ca cb : Nat} {z t : Int} (h : TwoC w g a b A B ca cb z t) (hg : g < w.heap.size) (hb : Below w.heap.size w w') : TwoC w' g a b A B ca cb z t := h.move (hb.block g hg)
theorem TwoC.box (w : World) (a b : Fr) (A B : Option Addr) (ca cb : Nat) (z t : Int) (T : TypeId) : TwoC (w.alloc (.cells #[.int .i64 a.kind, .int .i64 a.seq, .int .i64 a.got, .int .i64 a.stream, .int .i64 a.amount, .int .i64 a.code, .string a.who, .string a.name, .float .f64 a.weight, .slice A a.bytes.length ca, .int .i64 b.kind, .int .i64 b.seq, .int .i64 b.got, .int .i64 b.stream, .int .i64 b.amount, .int .i64 b.code, .string b.who, .string b.name, .float .f64 b.weight, .slice B b.bytes.length cb, .int .i64 z, .int .u8 t] T)) w.heap.size a b A B ca cb z t := by
  have key : ∀ j, (w.alloc (.cells #[.int .i64 a.kind, .int .i64 a.seq, .int .i64 a.got, .int .i64 a.stream, .int .i64 a.amount, .int .i64 a.code, .string a.who, .string a.name, .float .f64 a.weight, .slice A a.bytes.length ca, .int .i64 b.kind, .int .i64 b.seq, .int .i64 b.got, .int .i64 b.stream, .int .i64 b.amount, .int .i64 b.code, .string b.who, .string b.name, .float .f64 b.weight, .slice B b.bytes.length cb, .int .i64 z, .int .u8 t] T)).cell? ⟨w.heap.size, j, none⟩ = (#[.int .i64 a.kind, .int .i64 a.seq, .int .i64 a.got, .int .i64 a.stream, .int .i64 a.amount, .int .i64 a.code, .string a.who, .string a.name, .float .f64 a.weight, .slice A a.bytes.length ca, .int .i64 b.kind, .int .i64 b.seq, .int .i64 b.got, .int .i64 b.stream, .int .i64 b.amount, .int .i64 b.code, .string b.who, .string b.name, .float .f64 b.weight, .slice B b.bytes.length cb, .int .i64 z, .int .u8 t] : Array Value)[j]? := fun j => cell_of_row _ _ _ _ _ _ (heap_alloc_new _ _)
  unfold TwoC
  simp only [key]
  exact ⟨rfl, rfl, rfl, rfl, rfl, rfl, rfl, rfl, rfl, rfl, rfl, rfl, rfl, rfl, rfl, rfl, rfl, rfl, rfl, rfl, rfl, rfl⟩
theorem TwoC.conj2 {w : World} {g : Nat} {a b : Fr} {A B : Option Addr} {ca cb : Nat} {z t : Int} {p q : Prop} (h : TwoC w g a b A B ca cb z t) (hp : p) (hq : q) : w.cell? ⟨g, 0, none⟩ = some (.int .i64 a.kind) ∧ w.cell? ⟨g, 1, none⟩ = some (.int .i64 a.seq) ∧ w.cell? ⟨g, 2, none⟩ = some (.int .i64 a.got) ∧ w.cell? ⟨g, 3, none⟩ = some (.int .i64 a.stream) ∧ w.cell? ⟨g, 4, none⟩ = some (.int .i64 a.amount) ∧ w.cell? ⟨g, 5, none⟩ = some (.int .i64 a.code) ∧ w.cell? ⟨g, 6, none⟩ = some (.string a.who) ∧ w.cell? ⟨g, 7, none⟩ = some (.string a.name) ∧ w.cell? ⟨g, 8, none⟩ = some (.float .f64 a.weight) ∧ w.cell? ⟨g, 9, none⟩ = some (.slice A a.bytes.length ca) ∧ w.cell? ⟨g, 10, none⟩ = some (.int .i64 b.kind) ∧ w.cell? ⟨g, 11, none⟩ = some (.int .i64 b.seq) ∧ w.cell? ⟨g, 12, none⟩ = some (.int .i64 b.got) ∧ w.cell? ⟨g, 13, none⟩ = some (.int .i64 b.stream) ∧ w.cell? ⟨g, 14, none⟩ = some (.int .i64 b.amount) ∧ w.cell? ⟨g, 15, none⟩ = some (.int .i64 b.code) ∧ w.cell? ⟨g, 16, none⟩ = some (.string b.who) ∧ w.cell? ⟨g, 17, none⟩ = some (.string b.name) ∧ w.cell? ⟨g, 18, none⟩ = some (.float .f64 b.weight) ∧ w.cell? ⟨g, 19, none⟩ = some (.slice B b.bytes.length cb) ∧ w.cell? ⟨g, 20, none⟩ = some (.int .i64 z) ∧ w.cell? ⟨g, 21, none⟩ = some (.int .u8 t) ∧ p ∧ q := by
  unfold TwoC at h
  exact ⟨h.1, h.2.1, h.2.2.1, h.2.2.2.1, h.2.2.2.2.1, h.2.2.2.2.2.1, h.2.2.2.2.2.2.1, h.2.2.2.2.2.2.2.1, h.2.2.2.2.2.2.2.2.1, h.2.2.2.2.2.2.2.2.2.1, h.2.2.2.2.2.2.2.2.2.2.1, h.2.2.2.2.2.2.2.2.2.2.2.1, h.2.2.2.2.2.2.2.2.2.2.2.2.1, h.2.2.2.2.2.2.2.2.2.2.2.2.2.1, h.2.2.2.2.2.2.2.2.2.2.2.2.2.2.1, h.2.2.2.2.2.2.2.2.2.2.2.2.2.2.2.1, h.2.2.2.2.2.2.2.2.2.2.2.2.2.2.2.2.1, h.2.2.2.2.2.2.2.2.2.2.2.2.2.2.2.2.2.1, h.2.2.2.2.2.2.2.2.2.2.2.2.2.2.2.2.2.2.1, h.2.2.2.2.2.2.2.2.2.2.2.2.2.2.2.2.2.2.2.1, h.2.2.2.2.2.2.2.2.2.2.2.2.2.2.2.2.2.2.2.2.1, h.2.2.2.2.2.2.2.2.2.2.2.2.2.2.2.2.2.2.2.2.2, hp, hq⟩
set_option maxRecDepth 8000 in
set_option maxHeartbeats 20000000 in
theorem unlike_walk (es : Er → Addr) (w : World) (a b : Fr) (A B : Option Addr) (ca cb : Nat) (z t : Int) (hE : GEnv w es) (la : a.lens) (lb : b.lens) (fa : a.fits) (fb : b.fits) (hA : RdC (· < w.heap.size) w A (bvs a.bytes)) (hB : RdC (· < w.heap.size) w B (bvs b.bytes))
    (ht0 : 0 ≤ t) (ht1 : t ≤ 255) :
    Calls Tryd.prog 7 #[.agg #[.int .i64 a.kind, .int .i64 a.seq, .int .i64 a.got, .int .i64 a.stream, .int .i64 a.amount, .int .i64 a.code, .string a.who, .string a.name, .float .f64 a.weight, .slice A a.bytes.length ca, .int .i64 b.kind, .int .i64 b.seq, .int .i64 b.got, .int .i64 b.stream, .int .i64 b.amount, .int .i64 b.code, .string b.who, .string b.name, .float .f64 b.weight, .slice B b.bytes.length cb, .int .i64 z, .int .u8 t]] w (OkPost w) := by
  obtain ⟨w1, hw1⟩ : ∃ W, W = w.alloc (Obj.cells #[.int .i64 a.kind, .int .i64 a.seq, .int .i64 a.got, .int .i64 a.stream, .int .i64 a.amount, .int .i64 a.code, .string a.who, .string a.name, .float .f64 a.weight, .slice A a.bytes.length ca, .int .i64 b.kind, .int .i64 b.seq, .int .i64 b.got, .int .i64 b.stream, .int .i64 b.amount, .int .i64 b.code, .string b.who, .string b.name, .float .f64 b.weight, .slice B b.bytes.length cb, .int .i64 z, .int .u8 t] 61) := ⟨_, rfl⟩
  have hb1 : Below w.heap.size w w1 := by rw [hw1]; exact below_box _ _
  have hs1 : w1.heap.size = w.heap.size + 1 := by rw [hw1]; simp
  have hf1 : TwoC w1 w.heap.size a b A B ca cb z t := by rw [hw1]; exact TwoC.box w a b A B ca cb z t _
  have hal : Calls Tryd.prog 14 #[] (w.alloc (Obj.cells #[.int .i64 a.kind, .int .i64 a.seq, .int .i64 a.got, .int .i64 a.stream, .int .i64 a.amount, .int .i64 a.code, .string a.who, .string a.name, .float .f64 a.weight, .slice A a.bytes.length ca, .int .i64 b.kind, .int .i64 b.seq, .int .i64 b.got, .int .i64 b.stream, .int .i64 b.amount, .int .i64 b.code, .string b.who, .string b.name, .float .f64 b.weight, .slice B b.bytes.length cb, .int .i64 z, .int .u8 t] 61)) (OkPost w1) := by rw [← hw1]; exact alive05 es w1 (hE.step hb1).fenv
  have HAl := Lib.hid hal
  have HB1 := Lib.hid hb1
  have HS1 := Lib.hid hs1
  have HF1 := Lib.hid hf1
  have HE := Lib.hid hE
  have HA := Lib.hid hA
  have HB := Lib.hid hB
  have HLa := Lib.hid la
  have HLb := Lib.hid lb
  have HFa := Lib.hid fa
  have HFb := Lib.hid fb
  have hee := run_err_same
  have hne : ∀ (x : Addr) (W : World), (binOp .eql 30 .nilIface (.iface 147 (.pointer (some x)))).run Tryd.prog W = .ok (.bool false) W := fun x W => run_eql_iface_nil_left _ _ _ Tryd.underlying30
  clear hw1 hb1 hal hE hA hB la lb fa fb hs1 hf1
  go_enter Tryd.func7, Tryd.ntmps7
  go_wp2_with fail
  refine HAl.out.mono ?_
  rintro e w2 ⟨rfl, hb2⟩
  have HB2 := Lib.hid (below_on HB1.out hb2)
  have HF2 := Lib.hid (HF1.out.on (by rw [HS1.out]; omega) hb2)
  have hz2 : w.heap.size + 1 ≤ w2.heap.size := by rw [← HS1.out]; exact hb2.size
  have hp := putF_any es a A ca w2 (HE.out.step HB2.out).fenv HLa.out (HA.out.step HB2.out)
  obtain ⟨c0, c1, c2, c3, c4, c5, c6, c7, c8, c9, c10, c11, c12, c13, c14, c15, c16, c17, c18, c19, c20, c21⟩ := HF2.out
  clear hb2 HAl
  obtain ⟨r, hr⟩ : ∃ r, r = decide (a = b) := ⟨_, rfl⟩
  have HR := Lib.hid hr
  clear hr
  cases hca : checkF a with
  | false =>
    have hp2 := hp.mono fun e w' h => h.er hca
    have HP := Lib.hid hp2
    clear hp hp2 hca
    unfold frV at HP
    go_wp2_with fail
    refine HP.out.mono ?_
    rintro e w3 ⟨rfl, hb3⟩
    have HB3 := Lib.hid (below_on HB2.out hb3)
    have HF3 := Lib.hid (HF2.out.on (by omega) hb3)
    have hz3 : w.heap.size + 1 ≤ w3.heap.size := by have := hb3.size; omega
    have hq := putF_any es b B cb w3 (HE.out.step HB3.out).fenv HLb.out (HB.out.step HB3.out)
    clear hb3 c0 c1 c2 c3 c4 c5 c6 c7 c8 c9 c10 c11 c12 c13 c14 c15 c16 c17 c18 c19 c20 c21
    obtain ⟨c0, c1, c2, c3, c4, c5, c6, c7, c8, c9, c10, c11, c12, c13, c14, c15, c16, c17, c18, c19, c20, c21⟩ := HF3.out
    cases hcb : checkF b with
    | false =>
      have hq2 := hq.mono fun e w' h => h.er hcb
      have HQ := Lib.hid hq2
      clear hq hq2 hcb
      unfold frV at HQ
      unfold errV
      go_wp2_with fail
      refine HQ.out.mono ?_
      rintro e w4 ⟨rfl, hb4⟩
      have HB4 := Lib.hid (below_on HB3.out hb4)
      have HF4 := Lib.hid (HF3.out.on (by omega) hb4)
      have hz4 : w.heap.size + 1 ≤ w4.heap.size := by have := hb4.size; omega
      clear hb4 c0 c1 c2 c3 c4 c5 c6 c7 c8 c9 c10 c11 c12 c13 c14 c15 c16 c17 c18 c19 c20 c21
      unfold errV
      obtain ⟨c0, c1, c2, c3, c4, c5, c6, c7, c8, c9, c10, c11, c12, c13, c14, c15, c16, c17, c18, c19, c20, c21⟩ := HF4.out
      have hs1 : ∀ W, Below w4.heap.size w4 W → Calls Tryd.prog 34 #[frV a A ca, frV b B cb] W (fun e w' => e = .returned (.bool r) ∧ Below W.heap.size W w') := fun W hW => by
        have h := same_any a b A B ca cb W (HA.out.step (below_on HB4.out hW)) (HB.out.step (below_on HB4.out hW))
        rw [← HR.out] at h
        exact h
      have hs2 : ∀ W, Below w4.heap.size w4 W → Calls Tryd.prog 33 #[frV a A ca, frV b B cb] W (fun e w' => e = .returned (.bool r) ∧ Below W.heap.size W w') := fun W hW => by
        have h := rsame_any a b A B ca cb W (HA.out.step (below_on HB4.out hW)) (HB.out.step (below_on HB4.out hW))
        rw [← HR.out] at h
        exact h
      have HSa := Lib.hid hs1
      have HSb := Lib.hid hs2
      have hlt : w.heap.size < w4.heap.size := by omega
      have HFh := HF4
      clear hs1 hs2
      unfold frV at HSa HSb
      go_wp2_with fail
      go_region_held3 (fun w' => w'.cell? ⟨w.heap.size, 0, none⟩ = some (.int .i64 a.kind) ∧ w'.cell? ⟨w.heap.size, 1, none⟩ = some (.int .i64 a.seq) ∧ w'.cell? ⟨w.heap.size, 2, none⟩ = some (.int .i64 a.got) ∧ w'.cell? ⟨w.heap.size, 3, none⟩ = some (.int .i64 a.stream) ∧ w'.cell? ⟨w.heap.size, 4, none⟩ = some (.int .i64 a.amount) ∧ w'.cell? ⟨w.heap.size, 5, none⟩ = some (.int .i64 a.code) ∧ w'.cell? ⟨w.heap.size, 6, none⟩ = some (.string a.who) ∧ w'.cell? ⟨w.heap.size, 7, none⟩ = some (.string a.name) ∧ w'.cell? ⟨w.heap.size, 8, none⟩ = some (.float .f64 a.weight) ∧ w'.cell? ⟨w.heap.size, 9, none⟩ = some (.slice A a.bytes.length ca) ∧ w'.cell? ⟨w.heap.size, 10, none⟩ = some (.int .i64 b.kind) ∧ w'.cell? ⟨w.heap.size, 11, none⟩ = some (.int .i64 b.seq) ∧ w'.cell? ⟨w.heap.size, 12, none⟩ = some (.int .i64 b.got) ∧ w'.cell? ⟨w.heap.size, 13, none⟩ = some (.int .i64 b.stream) ∧ w'.cell? ⟨w.heap.size, 14, none⟩ = some (.int .i64 b.amount) ∧ w'.cell? ⟨w.heap.size, 15, none⟩ = some (.int .i64 b.code) ∧ w'.cell? ⟨w.heap.size, 16, none⟩ = some (.string b.who) ∧ w'.cell? ⟨w.heap.size, 17, none⟩ = some (.string b.name) ∧ w'.cell? ⟨w.heap.size, 18, none⟩ = some (.float .f64 b.weight) ∧ w'.cell? ⟨w.heap.size, 19, none⟩ = some (.slice B b.bytes.length cb) ∧ w'.cell? ⟨w.heap.size, 20, none⟩ = some (.int .i64 z) ∧ w'.cell? ⟨w.heap.size, 21, none⟩ = some (.int .u8 t))
        (first | go_keep | exact TwoC.on HF4.out hlt ((Below.refl _ _).drew.trans h5) | exact TwoC.on HF4.out hlt (((Below.refl _ _).drew.trans h5).trans (h6.mono ((Below.refl _ _).drew.trans h5).size)))
        (first
          | (go_at_call 34; refine (HSa.out _ (by exact (Below.refl _ _).drew)).mono ?_; rintro e w5 ⟨rfl, h5⟩)
          | (go_at_call 33; refine (HSb.out _ (by exact (Below.refl _ _).drew.trans h5)).mono ?_; rintro e w6 ⟨rfl, h6⟩))
      have HB6 := Lib.hid (below_on HB4.out (((Below.refl _ _).drew.trans h5).trans (h6.mono ((Below.refl _ _).drew.trans h5).size)))
      clear h5 h6 c0 c1 c2 c3 c4 c5 c6 c7 c8 c9 c10 c11 c12 c13 c14 c15 c16 c17 c18 c19 c20 c21 HFh
      go_wp2_with fail
      go_ret
      exact ⟨rfl, HB6.out⟩
    | true =>
      have hq2 := hq.mono fun e w' h => h.ok hcb
      have HQ := Lib.hid hq2
      clear hq hq2 hcb
      unfold frV at HQ
      unfold errV
      go_wp2_with fail
      refine HQ.out.mono ?_
      rintro e w4 ⟨hb4, PB, cpb, rfl, hcpb, hob⟩
      have HB4 := Lib.hid (below_on HB3.out hb4)
      have HF4 := Lib.hid (HF3.out.on (by omega) hb4)
      have hz4 : w.heap.size + 1 ≤ w4.heap.size := by have := hb4.size; omega
      clear hb4 hob c0 c1 c2 c3 c4 c5 c6 c7 c8 c9 c10 c11 c12 c13 c14 c15 c16 c17 c18 c19 c20 c21
      obtain ⟨c0, c1, c2, c3, c4, c5, c6, c7, c8, c9, c10, c11, c12, c13, c14, c15, c16, c17, c18, c19, c20, c21⟩ := HF4.out
      have hs1 : ∀ W, Below w4.heap.size w4 W → Calls Tryd.prog 34 #[frV a A ca, frV b B cb] W (fun e w' => e = .returned (.bool r) ∧ Below W.heap.size W w') := fun W hW => by
        have h := same_any a b A B ca cb W (HA.out.step (below_on HB4.out hW)) (HB.out.step (below_on HB4.out hW))
        rw [← HR.out] at h
        exact h
      have hs2 : ∀ W, Below w4.heap.size w4 W → Calls Tryd.prog 33 #[frV a A ca, frV b B cb] W (fun e w' => e = .returned (.bool r) ∧ Below W.heap.size W w') := fun W hW => by
        have h := rsame_any a b A B ca cb W (HA.out.step (below_on HB4.out hW)) (HB.out.step (below_on HB4.out hW))
        rw [← HR.out] at h
        exact h
      have HSa := Lib.hid hs1
      have HSb := Lib.hid hs2
      have hlt : w.heap.size < w4.heap.size := by omega
      have HFh := HF4
      clear hs1 hs2
      unfold frV at HSa HSb
      go_wp2_with fail
      go_region_held3 (fun w' => w'.cell? ⟨w.heap.size, 0, none⟩ = some (.int .i64 a.kind) ∧ w'.cell? ⟨w.heap.size, 1, none⟩ = some (.int .i64 a.seq) ∧ w'.cell? ⟨w.heap.size, 2, none⟩ = some (.int .i64 a.got) ∧ w'.cell? ⟨w.heap.size, 3, none⟩ = some (.int .i64 a.stream) ∧ w'.cell? ⟨w.heap.size, 4, none⟩ = some (.int .i64 a.amount) ∧ w'.cell? ⟨w.heap.size, 5, none⟩ = some (.int .i64 a.code) ∧ w'.cell? ⟨w.heap.size, 6, none⟩ = some (.string a.who) ∧ w'.cell? ⟨w.heap.size, 7, none⟩ = some (.string a.name) ∧ w'.cell? ⟨w.heap.size, 8, none⟩ = some (.float .f64 a.weight) ∧ w'.cell? ⟨w.heap.size, 9, none⟩ = some (.slice A a.bytes.length ca) ∧ w'.cell? ⟨w.heap.size, 10, none⟩ = some (.int .i64 b.kind) ∧ w'.cell? ⟨w.heap.size, 11, none⟩ = some (.int .i64 b.seq) ∧ w'.cell? ⟨w.heap.size, 12, none⟩ = some (.int .i64 b.got) ∧ w'.cell? ⟨w.heap.size, 13, none⟩ = some (.int .i64 b.stream) ∧ w'.cell? ⟨w.heap.size, 14, none⟩ = some (.int .i64 b.amount) ∧ w'.cell? ⟨w.heap.size, 15, none⟩ = some (.int .i64 b.code) ∧ w'.cell? ⟨w.heap.size, 16, none⟩ = some (.string b.who) ∧ w'.cell? ⟨w.heap.size, 17, none⟩ = some (.string b.name) ∧ w'.cell? ⟨w.heap.size, 18, none⟩ = some (.float .f64 b.weight) ∧ w'.cell? ⟨w.heap.size, 19, none⟩ = some (.slice B b.bytes.length cb) ∧ w'.cell? ⟨w.heap.size, 20, none⟩ = some (.int .i64 z) ∧ w'.cell? ⟨w.heap.size, 21, none⟩ = some (.int .u8 t))
        (first | go_keep | exact TwoC.on HF4.out hlt ((Below.refl _ _).drew.trans h5) | exact TwoC.on HF4.out hlt (((Below.refl _ _).drew.trans h5).trans (h6.mono ((Below.refl _ _).drew.trans h5).size)))
        (first
          | (go_at_call 34; refine (HSa.out _ (by exact (Below.refl _ _).drew)).mono ?_; rintro e w5 ⟨rfl, h5⟩)
          | (go_at_call 33; refine (HSb.out _ (by exact (Below.refl _ _).drew.trans h5)).mono ?_; rintro e w6 ⟨rfl, h6⟩))
      have HB6 := Lib.hid (below_on HB4.out (((Below.refl _ _).drew.trans h5).trans (h6.mono ((Below.refl _ _).drew.trans h5).size)))
      clear h5 h6 c0 c1 c2 c3 c4 c5 c6 c7 c8 c9 c10 c11 c12 c13 c14 c15 c16 c17 c18 c19 c20 c21 HFh
      go_wp2_with fail
      go_ret
      exact ⟨rfl, HB6.out⟩
  | true =>
    have hp2 := hp.mono fun e w' h => h.ok hca
    have HCa := Lib.hid hca
    have HP := Lib.hid hp2
    clear hp hp2 hca
    unfold frV at HP
    go_wp2_with fail
    refine HP.out.mono ?_
    rintro e w3 ⟨hb3, PA, cpa, rfl, hcpa, hoa⟩
    have HB3 := Lib.hid (below_on HB2.out hb3)
    have HF3 := Lib.hid (HF2.out.on (by omega) hb3)
    have HOa := Lib.hid hoa
    have hz3 : w.heap.size + 1 ≤ w3.heap.size := by have := hb3.size; omega
    have hq := putF_any es b B cb w3 (HE.out.step HB3.out).fenv HLb.out (HB.out.step HB3.out)
    clear hb3 hoa c0 c1 c2 c3 c4 c5 c6 c7 c8 c9 c10 c11 c12 c13 c14 c15 c16 c17 c18 c19 c20 c21
    obtain ⟨c0, c1, c2, c3, c4, c5, c6, c7, c8, c9, c10, c11, c12, c13, c14, c15, c16, c17, c18, c19, c20, c21⟩ := HF3.out
    cases hcb : checkF b with
    | false =>
      have hq2 := hq.mono fun e w' h => h.er hcb
      have HQ := Lib.hid hq2
      clear hq hq2 hcb
      unfold frV at HQ
      go_wp2_with fail
      refine HQ.out.mono ?_
      rintro e w4 ⟨rfl, hb4⟩
      have HB4 := Lib.hid (below_on HB3.out hb4)
      have HF4 := Lib.hid (HF3.out.on (by omega) hb4)
      have hz4 : w.heap.size + 1 ≤ w4.heap.size := by have := hb4.size; omega
      clear hb4 c0 c1 c2 c3 c4 c5 c6 c7 c8 c9 c10 c11 c12 c13 c14 c15 c16 c17 c18 c19 c20 c21
      unfold errV
      obtain ⟨c0, c1, c2, c3, c4, c5, c6, c7, c8, c9, c10, c11, c12, c13, c14, c15, c16, c17, c18, c19, c20, c21⟩ := HF4.out
      have hs1 : ∀ W, Below w4.heap.size w4 W → Calls Tryd.prog 34 #[frV a A ca, frV b B cb] W (fun e w' => e = .returned (.bool r) ∧ Below W.heap.size W w') := fun W hW => by
        have h := same_any a b A B ca cb W (HA.out.step (below_on HB4.out hW)) (HB.out.step (below_on HB4.out hW))
        rw [← HR.out] at h
        exact h
      have hs2 : ∀ W, Below w4.heap.size w4 W → Calls Tryd.prog 33 #[frV a A ca, frV b B cb] W (fun e w' => e = .returned (.bool r) ∧ Below W.heap.size W w') := fun W hW => by
        have h := rsame_any a b A B ca cb W (HA.out.step (below_on HB4.out hW)) (HB.out.step (below_on HB4.out hW))
        rw [← HR.out] at h
        exact h
      have HSa := Lib.hid hs1
      have HSb := Lib.hid hs2
      have hlt : w.heap.size < w4.heap.size := by omega
      have HFh := HF4
      clear hs1 hs2
      unfold frV at HSa HSb
      go_wp2_with fail
      go_region_held3 (fun w' => w'.cell? ⟨w.heap.size, 0, none⟩ = some (.int .i64 a.kind) ∧ w'.cell? ⟨w.heap.size, 1, none⟩ = some (.int .i64 a.seq) ∧ w'.cell? ⟨w.heap.size, 2, none⟩ = some (.int .i64 a.got) ∧ w'.cell? ⟨w.heap.size, 3, none⟩ = some (.int .i64 a.stream) ∧ w'.cell? ⟨w.heap.size, 4, none⟩ = some (.int .i64 a.amount) ∧ w'.cell? ⟨w.heap.size, 5, none⟩ = some (.int .i64 a.code) ∧ w'.cell? ⟨w.heap.size, 6, none⟩ = some (.string a.who) ∧ w'.cell? ⟨w.heap.size, 7, none⟩ = some (.string a.name) ∧ w'.cell? ⟨w.heap.size, 8, none⟩ = some (.float .f64 a.weight) ∧ w'.cell? ⟨w.heap.size, 9, none⟩ = some (.slice A a.bytes.length ca) ∧ w'.cell? ⟨w.heap.size, 10, none⟩ = some (.int .i64 b.kind) ∧ w'.cell? ⟨w.heap.size, 11, none⟩ = some (.int .i64 b.seq) ∧ w'.cell? ⟨w.heap.size, 12, none⟩ = some (.int .i64 b.got) ∧ w'.cell? ⟨w.heap.size, 13, none⟩ = some (.int .i64 b.stream) ∧ w'.cell? ⟨w.heap.size, 14, none⟩ = some (.int .i64 b.amount) ∧ w'.cell? ⟨w.heap.size, 15, none⟩ = some (.int .i64 b.code) ∧ w'.cell? ⟨w.heap.size, 16, none⟩ = some (.string b.who) ∧ w'.cell? ⟨w.heap.size, 17, none⟩ = some (.string b.name) ∧ w'.cell? ⟨w.heap.size, 18, none⟩ = some (.float .f64 b.weight) ∧ w'.cell? ⟨w.heap.size, 19, none⟩ = some (.slice B b.bytes.length cb) ∧ w'.cell? ⟨w.heap.size, 20, none⟩ = some (.int .i64 z) ∧ w'.cell? ⟨w.heap.size, 21, none⟩ = some (.int .u8 t))
        (first | go_keep | exact TwoC.on HF4.out hlt ((Below.refl _ _).drew.trans h5) | exact TwoC.on HF4.out hlt (((Below.refl _ _).drew.trans h5).trans (h6.mono ((Below.refl _ _).drew.trans h5).size)))
        (first
          | (go_at_call 34; refine (HSa.out _ (by exact (Below.refl _ _).drew)).mono ?_; rintro e w5 ⟨rfl, h5⟩)
          | (go_at_call 33; refine (HSb.out _ (by exact (Below.refl _ _).drew.trans h5)).mono ?_; rintro e w6 ⟨rfl, h6⟩))
      have HB6 := Lib.hid (below_on HB4.out (((Below.refl _ _).drew.trans h5).trans (h6.mono ((Below.refl _ _).drew.trans h5).size)))
      clear h5 h6 c0 c1 c2 c3 c4 c5 c6 c7 c8 c9 c10 c11 c12 c13 c14 c15 c16 c17 c18 c19 c20 c21 HFh
      go_wp2_with fail
      go_ret
      exact ⟨rfl, HB6.out⟩
    | true =>
      have hq2 := hq.mono fun e w' h => h.ok hcb
      have HCb := Lib.hid hcb
      have HQ := Lib.hid hq2
      clear hq hq2 hcb
      unfold frV at HQ
      go_wp2_with fail
      refine HQ.out.mono ?_
      rintro e w4 ⟨hb4, PB, cpb, rfl, hcpb, hob⟩
      have HB4 := Lib.hid (below_on HB3.out hb4)
      have HF4 := Lib.hid (HF3.out.on (by omega) hb4)
      have HOa4 := Lib.hid (own_below HOa.out hb4)
      have HOb4 := Lib.hid hob
      have hz4 : w.heap.size + 1 ≤ w4.heap.size := by have := hb4.size; omega
      clear hb4 hob c0 c1 c2 c3 c4 c5 c6 c7 c8 c9 c10 c11 c12 c13 c14 c15 c16 c17 c18 c19 c20 c21
      obtain ⟨c0, c1, c2, c3, c4, c5, c6, c7, c8, c9, c10, c11, c12, c13, c14, c15, c16, c17, c18, c19, c20, c21⟩ := HF4.out
      have hs1 : ∀ W, Below w4.heap.size w4 W → Calls Tryd.prog 34 #[frV a A ca, frV b B cb] W (fun e w' => e = .returned (.bool r) ∧ Below W.heap.size W w') := fun W hW => by
        have h := same_any a b A B ca cb W (HA.out.step (below_on HB4.out hW)) (HB.out.step (below_on HB4.out hW))
        rw [← HR.out] at h
        exact h
      have hs2 : ∀ W, Below w4.heap.size w4 W → Calls Tryd.prog 33 #[frV a A ca, frV b B cb] W (fun e w' => e = .returned (.bool r) ∧ Below W.heap.size W w') := fun W hW => by
        have h := rsame_any a b A B ca cb W (HA.out.step (below_on HB4.out hW)) (HB.out.step (below_on HB4.out hW))
        rw [← HR.out] at h
        exact h
      have HSa := Lib.hid hs1
      have HSb := Lib.hid hs2
      have hlt : w.heap.size < w4.heap.size := by omega
      have HFh := HF4
      clear hs1 hs2
      unfold frV at HSa HSb
      go_wp2_with fail
      go_region_held3 (fun w' => w'.cell? ⟨w.heap.size, 0, none⟩ = some (.int .i64 a.kind) ∧ w'.cell? ⟨w.heap.size, 1, none⟩ = some (.int .i64 a.seq) ∧ w'.cell? ⟨w.heap.size, 2, none⟩ = some (.int .i64 a.got) ∧ w'.cell? ⟨w.heap.size, 3, none⟩ = some (.int .i64 a.stream) ∧ w'.cell? ⟨w.heap.size, 4, none⟩ = some (.int .i64 a.amount) ∧ w'.cell? ⟨w.heap.size, 5, none⟩ = some (.int .i64 a.code) ∧ w'.cell? ⟨w.heap.size, 6, none⟩ = some (.string a.who) ∧ w'.cell? ⟨w.heap.size, 7, none⟩ = some (.string a.name) ∧ w'.cell? ⟨w.heap.size, 8, none⟩ = some (.float .f64 a.weight) ∧ w'.cell? ⟨w.heap.size, 9, none⟩ = some (.slice A a.bytes.length ca) ∧ w'.cell? ⟨w.heap.size, 10, none⟩ = some (.int .i64 b.kind) ∧ w'.cell? ⟨w.heap.size, 11, none⟩ = some (.int .i64 b.seq) ∧ w'.cell? ⟨w.heap.size, 12, none⟩ = some (.int .i64 b.got) ∧ w'.cell? ⟨w.heap.size, 13, none⟩ = some (.int .i64 b.stream) ∧ w'.cell? ⟨w.heap.size, 14, none⟩ = some (.int .i64 b.amount) ∧ w'.cell? ⟨w.heap.size, 15, none⟩ = some (.int .i64 b.code) ∧ w'.cell? ⟨w.heap.size, 16, none⟩ = some (.string b.who) ∧ w'.cell? ⟨w.heap.size, 17, none⟩ = some (.string b.name) ∧ w'.cell? ⟨w.heap.size, 18, none⟩ = some (.float .f64 b.weight) ∧ w'.cell? ⟨w.heap.size, 19, none⟩ = some (.slice B b.bytes.length cb) ∧ w'.cell? ⟨w.heap.size, 20, none⟩ = some (.int .i64 z) ∧ w'.cell? ⟨w.heap.size, 21, none⟩ = some (.int .u8 t))
        (first | go_keep | exact TwoC.on HF4.out hlt ((Below.refl _ _).drew.trans h5) | exact TwoC.on HF4.out hlt (((Below.refl _ _).drew.trans h5).trans (h6.mono ((Below.refl _ _).drew.trans h5).size)))
        (first
          | (go_at_call 34; refine (HSa.out _ (by exact (Below.refl _ _).drew)).mono ?_; rintro e w5 ⟨rfl, h5⟩)
          | (go_at_call 33; refine (HSb.out _ (by exact (Below.refl _ _).drew.trans h5)).mono ?_; rintro e w6 ⟨rfl, h6⟩))
      have hb46 : Below w4.heap.size w4 w6 := ((Below.refl _ _).drew.trans h5).trans (h6.mono ((Below.refl _ _).drew.trans h5).size)
      have HB6 := Lib.hid (below_on HB4.out hb46)
      have HF6 := Lib.hid (HF4.out.on (by omega) hb46)
      have HOa6 := Lib.hid (own_below HOa4.out hb46)
      have HOb6 := Lib.hid (own_below HOb4.out hb46)
      have hz6 : w.heap.size + 1 ≤ w6.heap.size := by have := hb46.size; omega
      have hinj := put_inj HCa.out HCb.out HFa.out HFb.out
      have hxr : (putF a == putF b) = r := by
        rw [HR.out]
        by_cases hab : a = b
        · rw [decide_eq_true hab, beq_iff_eq]; exact hinj.2 hab
        · rw [decide_eq_false hab, beq_eq_false_iff_ne]; exact fun e => hab (hinj.1 e)
      have hal7 : 7 ≤ (putF a).length ∧ (putF a).length ≤ 607 := by have h1 := put_len a; have h2 := body_len HCa.out; omega
      have hself := get_put HCa.out HFa.out.1 HFa.out.2
      obtain ⟨XA, hXA⟩ : ∃ XA, XA = putF a := ⟨_, rfl⟩
      obtain ⟨XB, hXB⟩ : ∃ XB, XB = putF b := ⟨_, rfl⟩
      rw [← hXA] at hxr hal7 hself HOa6 ⊢
      rw [← hXB] at hxr HOb6 ⊢
      have HXA := Lib.hid hXA
      have HSelf := Lib.hid hself
      clear h5 h6 c0 c1 c2 c3 c4 c5 c6 c7 c8 c9 c10 c11 c12 c13 c14 c15 c16 c17 c18 c19 c20 c21 HFh hinj hXA hXB hself hb46
      obtain ⟨hl7, hl6⟩ := hal7
      have hca6 : ∀ W, Below w6.heap.size w6 W → (convert 23 9 (.slice PA XA.length cpa)).run Tryd.prog W = .ok (.string ⟨XA.toArray⟩) W := fun W hW =>
        run_str_of Tryd.underlying23 Tryd.underlying5 Tryd.underlying9 rfl ((RdC.of_own HOa6.out).move (fun q hq => hW.block q hq.2))
      have hcb6 : ∀ W, Below w6.heap.size w6 W → (convert 23 9 (.slice PB XB.length cpb)).run Tryd.prog W = .ok (.string ⟨XB.toArray⟩) W := fun W hW =>
        run_str_of Tryd.underlying23 Tryd.underlying5 Tryd.underlying9 rfl ((RdC.of_own HOb6.out).move (fun q hq => hW.block q hq.2))
      have hs1 : ∀ W, Below w6.heap.size w6 W → Calls Tryd.prog 34 #[frV a A ca, frV b B cb] W (fun e w' => e = .returned (.bool r) ∧ Below W.heap.size W w') := fun W hW => by
        have h := same_any a b A B ca cb W (HA.out.step (below_on HB6.out hW)) (HB.out.step (below_on HB6.out hW))
        rw [← HR.out] at h
        exact h
      have HCa6 := Lib.hid hca6
      have HCb6 := Lib.hid hcb6
      have HSa2 := Lib.hid hs1
      have hlt6 : w.heap.size < w6.heap.size := by omega
      unfold frV at HSa2
      have hq1 := hca6 w6 (Below.refl _ _)
      have hq2 := hcb6 w6 (Below.refl _ _)
      have hq3 := hca6 w6.drew (Below.refl _ _).drew
      have hq4 := hcb6 w6.drew (Below.refl _ _).drew
      clear hca6 hcb6 hs1
      have htest := TwoC.conj2 (TwoC.on HF6.out hlt6 (Below.refl w6.heap.size w6).drew) hq3 hq4
      obtain ⟨c0, c1, c2, c3, c4, c5, c6, c7, c8, c9, c10, c11, c12, c13, c14, c15, c16, c17, c18, c19, c20, c21⟩ := HF6.out
      clear htest
      have hcall : TwoC w6 w.heap.size a b A B ca cb z t := HF6.out
      go_wp2_with fail
      go_region_held3 (fun w' => w'.cell? ⟨w.heap.size, 0, none⟩ = some (.int .i64 a.kind) ∧ w'.cell? ⟨w.heap.size, 1, none⟩ = some (.int .i64 a.seq) ∧ w'.cell? ⟨w.heap.size, 2, none⟩ = some (.int .i64 a.got) ∧ w'.cell? ⟨w.heap.size, 3, none⟩ = some (.int .i64 a.stream) ∧ w'.cell? ⟨w.heap.size, 4, none⟩ = some (.int .i64 a.amount) ∧ w'.cell? ⟨w.heap.size, 5, none⟩ = some (.int .i64 a.code) ∧ w'.cell? ⟨w.heap.size, 6, none⟩ = some (.string a.who) ∧ w'.cell? ⟨w.heap.size, 7, none⟩ = some (.string a.name) ∧ w'.cell? ⟨w.heap.size, 8, none⟩ = some (.float .f64 a.weight) ∧ w'.cell? ⟨w.heap.size, 9, none⟩ = some (.slice A a.bytes.length ca) ∧ w'.cell? ⟨w.heap.size, 10, none⟩ = some (.int .i64 b.kind) ∧ w'.cell? ⟨w.heap.size, 11, none⟩ = some (.int .i64 b.seq) ∧ w'.cell? ⟨w.heap.size, 12, none⟩ = some (.int .i64 b.got) ∧ w'.cell? ⟨w.heap.size, 13, none⟩ = some (.int .i64 b.stream) ∧ w'.cell? ⟨w.heap.size, 14, none⟩ = some (.int .i64 b.amount) ∧ w'.cell? ⟨w.heap.size, 15, none⟩ = some (.int .i64 b.code) ∧ w'.cell? ⟨w.heap.size, 16, none⟩ = some (.string b.who) ∧ w'.cell? ⟨w.heap.size, 17, none⟩ = some (.string b.name) ∧ w'.cell? ⟨w.heap.size, 18, none⟩ = some (.float .f64 b.weight) ∧ w'.cell? ⟨w.heap.size, 19, none⟩ = some (.slice B b.bytes.length cb) ∧ w'.cell? ⟨w.heap.size, 20, none⟩ = some (.int .i64 z) ∧ w'.cell? ⟨w.heap.size, 21, none⟩ = some (.int .u8 t) ∧ (convert 23 9 (.slice PA XA.length cpa)).run Tryd.prog w' = .ok (.string ⟨XA.toArray⟩) w' ∧ (convert 23 9 (.slice PB XB.length cpb)).run Tryd.prog w' = .ok (.string ⟨XB.toArray⟩) w')
        (first | go_keep | exact TwoC.conj2 (TwoC.on HF6.out hlt6 (Below.refl _ _).drew) (HCa6.out _ (Below.refl _ _).drew) (HCb6.out _ (Below.refl _ _).drew) | exact TwoC.conj2 (TwoC.on HF6.out hlt6 ((Below.refl _ _).drew.trans h7)) (HCa6.out _ ((Below.refl _ _).drew.trans h7)) (HCb6.out _ ((Below.refl _ _).drew.trans h7)) | exact TwoC.conj2 HF6.out (HCa6.out _ (Below.refl _ _)) (HCb6.out _ (Below.refl _ _)))
        (first
          | (go_at_call 34; refine (HSa2.out _ (by exact (Below.refl _ _).drew)).mono ?_; rintro e w7 ⟨rfl, h7⟩))
      have hb67 : Below w6.heap.size w6 w7 := (Below.refl _ _).drew.trans h7
      have HB7 := Lib.hid (below_on HB6.out hb67)
      have HF7 := Lib.hid (HF6.out.on hlt6 hb67)
      have HOa7 := Lib.hid (own_below HOa6.out hb67)
      have hz7 : w.heap.size + 1 ≤ w7.heap.size := by have := hb67.size; omega
      obtain ⟨u, hu, hu64⟩ : ∃ u : Nat, IntKind.u64.wrap z = (u : Int) ∧ u < 18446744073709551616 := by
        have h1 : 0 ≤ IntKind.u64.wrap z ∧ IntKind.u64.wrap z < 18446744073709551616 := by simp [IntKind.wrap, IntKind.bits, IntKind.signed]; omega
        exact ⟨(IntKind.u64.wrap z).toNat, by omega, by omega⟩
      obtain ⟨i0', hi, hz0, hz1, hz2'⟩ := info_parts infoU8
      have hown0 : (w7.alloc (Obj.cells #[] 5)).ownsRow w7.heap.size 5 1 (.slice (some ⟨w7.heap.size, 0, none⟩) 0 0) 0 [] := World.ownsRow_lit w7 #[] 0 (Nat.le_refl _) (by unfold maxLen; omega) rfl
      have HO0 := Lib.hid hown0
      have HRP := Lib.hid (((RdC.of_own HOa7.out).mono (fun b hb => hb.2)).step (below_box w7 (Obj.cells #[] 5)))
      obtain ⟨m, hm⟩ : ∃ m : Nat, m = u % (XA.length - 2) := ⟨_, rfl⟩
      have hmlt : m < XA.length - 2 := by rw [hm]; exact Nat.mod_lt _ (by omega)
      have hc2 : (XA.length : Int) - 2 = ((XA.length - 2 : Nat) : Int) := by omega
      have hm1 : (u : Int) % ((XA.length : Int) - 2) = (m : Int) := by rw [hm, hc2]; exact (Int.natCast_emod _ _).symm
      have hm2 : (u : Int).tmod ((XA.length : Int) - 2) = (m : Int) := by rw [Int.tmod_eq_emod_of_nonneg (by omega)]; exact hm1
      have HM := Lib.hid hm
      have hd0 : (((XA.length : Int) - 2) == 0) = false := by rw [beq_eq_false_iff_ne]; omega
      clear hc2 h7 hb67 hq1 hq2 hq3 hq4 hown0 c0 c1 c2 c3 c4 c5 c6 c7 c8 c9 c10 c11 c12 c13 c14 c15 c16 c17 c18 c19 c20 c21 hxr hcall hm
      obtain ⟨c0, c1, c2, c3, c4, c5, c6, c7, c8, c9, c10, c11, c12, c13, c14, c15, c16, c17, c18, c19, c20, c21⟩ := HF7.out
      go_wp2_with (at_builtin; refine wpList_appS (ok := fun b => b < (w7.alloc (Obj.cells #[] 5)).heap.size) _ w7.heap.size (.tmp 64) (.tmp 65) 23 5 i0' (.int .u8 0) 1 1 rfl (by rfl) Tryd.underlying23 hi hz0 hz1 hz2' rfl (by omega) (by omega) _ 0 [] (by rfl) HO0.out PA XA.length cpa (bvs XA) (by rfl) (by simp) HRP.out (bvs_one _) (by omega) (by simp) ?_; intro v8 w8 hown8 hg8; have HO8 := Lib.hid hown8; have HB78 := Lib.hid (hg8.below (below_box w7 _) (by simp) (own_base HO0.out)); clear hown8 hg8)
      obtain ⟨tn, rfl⟩ := Int.eq_ofNat_of_zero_le ht0
      have htn : tn < 256 := by omega
      obtain ⟨g8, k8, cur8, hv8, hg8, hh8, hle8, _⟩ : ∃ g k8 cur, v8 = .slice (some ⟨g, 0, none⟩) XA.length k8 ∧ w7.heap.size ≤ g ∧ w8.heap[g]? = some (.cells cur 5 (0, 0)) ∧ XA.length ≤ k8 ∧ True := by
        rcases HO8.out.2 with ⟨_, h0⟩ | ⟨g, cap, cur, h1, h2, h3, h4, _⟩
        · omega
        · exact ⟨g, cap, cur, by rw [h1, Nat.zero_add], h2, h3, by omega, trivial⟩
      subst hv8
      have hown8 : w8.ownsRow w7.heap.size 5 1 (.slice (some ⟨g8, 0, none⟩) XA.length k8) XA.length (bvs XA) := by simpa using HO8.out
      have hat : 2 + m < XA.length := by omega
      have hcell8 : w8.cell? ⟨g8, 2 + m, none⟩ = some (.int .u8 (XA.getD (2 + m) 0).toNat) := by
        rw [hown8.cellAt (2 + m) (by omega), bvs_get _ _ hat, List.getD_eq_getElem?_getD, List.getElem?_eq_getElem hat]
        rfl
      have hfz8 : w8.frozen? ⟨g8, 2 + m, none⟩ = false := hown8.frozenAt (2 + m)
      have hst8 := hown8.stored (2 + m) (.int .u8 (((XA.getD (2 + m) 0).toNat ^^^ tn : Nat) : Int))
      have hx256 := (XA.getD (2 + m) 0).toNat_lt
      have hxor := xor8 (XA.getD (2 + m) 0).toNat tn hx256 htn
      have hxlt : (XA.getD (2 + m) 0).toNat ^^^ tn < 256 := Nat.xor_lt_two_pow (n := 8) hx256 htn
      obtain ⟨C, hC⟩ : ∃ C, C = XA.set (2 + m) (UInt8.ofNat ((XA.getD (2 + m) 0).toNat ^^^ tn)) := ⟨_, rfl⟩
      have hbC : bvs C = (bvs XA).set (2 + m) (.int .u8 (((XA.getD (2 + m) 0).toNat ^^^ tn : Nat) : Int)) := by
        rw [hC]
        unfold bvs
        rw [List.map_set]
        congr 1
        unfold bv
        rw [UInt8.toNat_ofNat', Nat.mod_eq_of_lt hxlt]
      have hlC : C.length = XA.length := by rw [hC, List.length_set]
      have hCX : tn = 0 → C = XA := fun h0 => by
        rw [hC, h0, Nat.xor_zero, UInt8.ofNat_toNat]
        apply List.ext_getElem
        · simp
        · intro q h1 h2
          rw [List.getElem_set]
          split
          · rename_i hq; subst hq; rw [List.getD_eq_getElem?_getD, List.getElem?_eq_getElem h2]; rfl
          · rfl
      have hCne : tn ≠ 0 → C ≠ XA := fun h0 he => by
        have h1 : C[2 + m]? = XA[2 + m]? := by rw [he]
        rw [hC, List.getElem?_set_self hat, List.getElem?_eq_getElem hat] at h1
        have h2 := congrArg UInt8.toNat (Option.some.inj h1)
        rw [UInt8.toNat_ofNat', Nat.mod_eq_of_lt hxlt] at h2
        have h3 : (XA.getD (2 + m) 0) = XA[2 + m] := by rw [List.getD_eq_getElem?_getD, List.getElem?_eq_getElem hat]; rfl
        rw [h3] at h2
        have h4 : XA[2 + m].toNat ^^^ (XA[2 + m].toNat ^^^ tn) = XA[2 + m].toNat ^^^ XA[2 + m].toNat := by rw [h2]
        rw [← Nat.xor_assoc, Nat.xor_self, Nat.zero_xor] at h4
        exact h0 h4
      have HCX := Lib.hid hCX
      have HCne := Lib.hid hCne
      generalize (XA.getD (2 + m) 0).toNat = x at *
      obtain ⟨w9, hw9⟩ : ∃ W, W = (w8.setCell ⟨g8, 2 + m, none⟩ (.int .u8 ((x ^^^ tn : Nat) : Int))).drew := ⟨_, rfl⟩
      have hb79 : Below w7.heap.size w7 w9 := by rw [hw9]; exact (HB78.out.setCell (by exact hg8) _).drew
      have hoc : w9.ownsRow w7.heap.size 5 1 (.slice (some ⟨g8, 0, none⟩) XA.length k8) XA.length (bvs C) := by rw [hw9, hbC]; exact hst8.1.drew
      have HB9 := Lib.hid (below_on HB7.out hb79)
      have HOc := Lib.hid hoc
      have HF9 := Lib.hid (HF7.out.on (by omega) hb79)
      have HLC := Lib.hid hlC
      have hz9 : w7.heap.size ≤ w9.heap.size := hb79.size
      have HW9 := Lib.hid (show (w8.setCell ⟨g8, 2 + m, none⟩ (.int .u8 ((x ^^^ tn : Nat) : Int))).drew = w9 from hw9.symm)
      have q0 : (0 : Int) ≤ 2 + (m : Int) := by omega
      have q1 : 2 + (m : Int) < (XA.length : Int) := by omega
      clear c0 c1 c2 c3 c4 c5 c6 c7 c8 c9 c10 c11 c12 c13 c14 c15 c16 c17 c18 c19 c20 c21
      have HF8 := HF7.out.on (by omega) HB78.out
      obtain ⟨c0, c1, c2, c3, c4, c5, c6, c7, c8, c9, c10, c11, c12, c13, c14, c15, c16, c17, c18, c19, c20, c21⟩ := HF8
      have hne8 : w.heap.size ≠ g8 := by omega
      have hlt8 : w.heap.size < w8.heap.size := by have := HB78.out.size; omega
      clear hst8 hx256 hbC hlC hCX hCne hw9 hb79 hoc hown8 hh8 hC hm1 hm2 hd0 hu
      go_region
      go_wp2_with fail
      rw [HW9.out]
      have hge := getF_any es w9 (some ⟨g8, 0, none⟩) XA.length k8 C HLC.out.symm (HE.out.step HB9.out) ((RdC.of_own HOc.out).mono (fun q hq => hq.2)) (by rw [HLC.out]; exact hle8) (by rw [HLC.out]; omega)
      clear c0 c1 c2 c3 c4 c5 c6 c7 c8 c9 c10 c11 c12 c13 c14 c15 c16 c17 c18 c19 c20 c21 hcell8 hfz8 hxor hxlt hlt8 hne8 hg8
      by_cases t0 : tn = 0
      · have hg := HSelf.out
        rw [← HCX.out t0] at hg
        have hge2 := hge.mono fun e w' h => h.ok hg
        have HGe := Lib.hid hge2
        have hq0 : ((tn : Int) == 0) = true := by rw [beq_iff_eq]; omega
        clear hge hge2 hg t0
        refine HGe.out.mono ?_
        rintro e wa ⟨hba, Ag, cg, rfl, _, _⟩
        have HBa := Lib.hid (below_on HB9.out hba)
        have hfa := HF9.out.on (by omega) hba
        have hza : w.heap.size < wa.heap.size := by have := hba.size; omega
        clear hba
        obtain ⟨c0, c1, c2, c3, c4, c5, c6, c7, c8, c9, c10, c11, c12, c13, c14, c15, c16, c17, c18, c19, c20, c21⟩ := hfa
        unfold frV
        go_wp2_with fail
        go_ret
        exact ⟨rfl, HBa.out.alloc HBa.out.size _⟩
      · have hCne := HCne.out t0
        have hq0 : ((tn : Int) == 0) = false := by rw [beq_eq_false_iff_ne]; omega
        have HCnx := Lib.hid hCne
        clear t0 hCne
        cases hg : getF C with
        | none =>
          have hge2 := hge.mono fun e w' h => h.er hg
          have HGe := Lib.hid hge2
          clear hge hge2 hg
          refine HGe.out.mono ?_
          rintro e wa ⟨rfl, hba⟩
          have HBa := Lib.hid (below_on HB9.out hba)
          have hfa := HF9.out.on (by omega) hba
          have hza : w.heap.size < wa.heap.size := by have := hba.size; omega
          have HOca := Lib.hid (own_below HOc.out hba)
          obtain ⟨wb, hwb⟩ : ∃ W, W = wa.alloc (Obj.cells #[.int .i64 0, .int .i64 0, .int .i64 0, .int .i64 0, .int .i64 0, .int .i64 0, .string ⟨#[]⟩, .string ⟨#[]⟩, .float .f64 0, .slice none 0 0] 25) := ⟨_, rfl⟩
          have hbb : Below wa.heap.size wa wb := by rw [hwb]; exact below_box _ _
          have HBb := Lib.hid (below_on HBa.out hbb)
          have HOcb := Lib.hid (own_below HOca.out hbb)
          have HFb := Lib.hid (hfa.on hza hbb)
          have hzb : w.heap.size < wb.heap.size := by have := hbb.size; omega
          have hnew : Calls Tryd.prog 22 #[] (wa.alloc (Obj.cells #[.int .i64 0, .int .i64 0, .int .i64 0, .int .i64 0, .int .i64 0, .int .i64 0, .string ⟨#[]⟩, .string ⟨#[]⟩, .float .f64 0, .slice none 0 0] 25)) (NewP wb) := by rw [← hwb]; exact new_any wb
          have HNew := Lib.hid hnew
          clear hba hwb hbb hnew
          obtain ⟨c0, c1, c2, c3, c4, c5, c6, c7, c8, c9, c10, c11, c12, c13, c14, c15, c16, c17, c18, c19, c20, c21⟩ := hfa
          simp only [frV, Fr.of, noS, errV, List.length_nil]
          go_wp2_with fail
          refine HNew.out.mono ?_
          rintro e wc ⟨H, va, vb, rfl, hT, hbc⟩
          have HT := Lib.hid hT
          have HBc := Lib.hid (below_on HBb.out hbc)
          have HOcc := Lib.hid (own_below HOcb.out hbc)
          have HFc := Lib.hid (HFb.out.on hzb hbc)
          have hzc : w.heap.size < wc.heap.size := by have := hbc.size; omega
          clear hT hbc c0 c1 c2 c3 c4 c5 c6 c7 c8 c9 c10 c11 c12 c13 c14 c15 c16 c17 c18 c19 c20 c21 HNew HGe
          go_wp2_with fail
          obtain ⟨D, hD⟩ : ∃ D, D = C.take (XA.length - 4) := ⟨_, rfl⟩
          obtain ⟨T, hTl⟩ : ∃ T, T = C.drop (XA.length - 4) := ⟨_, rfl⟩
          have hdl : D.length = XA.length - 4 := by rw [hD, List.length_take, HLC.out]; omega
          have hrc := (RdC.of_own HOcc.out).mono (fun q hq => hq.2)
          have hdig : ∀ W, Below wc.heap.size wc W → Calls Tryd.prog 35 #[.pointer (some ⟨H, 0, none⟩), .slice (some ⟨g8, 0, none⟩) (XA.length - 4) k8] W (RDigestP W D) := fun W hW => by
            have hr : RdC (· < W.heap.size) W (some ⟨g8, 0, none⟩) (bvs D) := by rw [hD, bvs_take]; exact (hrc.step hW).take _
            have h := rdigest_any W H va vb wb.heap.size (some ⟨g8, 0, none⟩) k8 D (HT.out.belowV hW) hr (by omega)
            rw [hdl] at h
            exact h
          have hcvt : ∀ W, Below wc.heap.size wc W → (convert 23 9 (.slice (some ⟨g8, XA.length - 4, none⟩) (XA.length - (XA.length - 4)) (k8 - (XA.length - 4)))).run Tryd.prog W = .ok (.string ⟨T.toArray⟩) W := fun W hW => by
            have hr := (hrc.step hW).drop (XA.length - 4) false (by simp)
            rw [show (if false = true then (some ⟨g8, 0, none⟩ : Option Addr) else (some ⟨g8, 0, none⟩ : Option Addr).map (·.add (XA.length - 4))) = some ⟨g8, XA.length - 4, none⟩ by simp [addr0]] at hr
            have hr2 : RdC (· < W.heap.size) W (some ⟨g8, XA.length - 4, none⟩) (bvs T) := by rw [hTl]; simpa [bvs, List.map_drop] using hr
            exact run_str_of Tryd.underlying23 Tryd.underlying5 Tryd.underlying9 (by rw [hTl, List.length_drop, HLC.out]) hr2
          have HDig := Lib.hid hdig
          have HCvt := Lib.hid hcvt
          have HTl := Lib.hid hTl
          have HDd := Lib.hid hD
          have n0 : (4 : Int) ≤ (XA.length : Int) := by omega
          have n1 : (XA.length : Int) - 4 ≤ (k8 : Int) := by omega
          have n2 : (0 : Int) ≤ (XA.length : Int) - 4 := by omega
          have n3 : ¬ k8 = XA.length - 4 := by omega
          have n4 : (XA.length : Int) - 4 ≤ (XA.length : Int) := by omega
          have n5 : IntKind.i64.wrap ((XA.length : Int) - 4) = (XA.length : Int) - 4 := IntWalk.i64_in _ (by omega)
          have n6 : ((XA.length : Int) - 4).toNat = XA.length - 4 := by omega
          have hcw := hcvt wc.drew (Below.refl _ _).drew
          have hc21 : wc.cell? ⟨w.heap.size, 21, none⟩ = some (.int .u8 (tn : Int)) := by
            obtain ⟨c0, c1, c2, c3, c4, c5, c6, c7, c8, c9, c10, c11, c12, c13, c14, c15, c16, c17, c18, c19, c20, c21⟩ := HFc.out
            exact c21
          clear hdig hTl hD hdl hrc hcvt
          cases hqq : ((sha D).take 4 == T) with
          | true =>
            go_region_held (fun w' => w'.cell? ⟨w.heap.size, 21, none⟩ = some (.int .u8 (tn : Int)) ∧ (convert 23 9 (.slice (some ⟨g8, XA.length - 4, none⟩) (XA.length - (XA.length - 4)) (k8 - (XA.length - 4)))).run Tryd.prog w' = .ok (.string ⟨T.toArray⟩) w')
              (first | go_keep | exact ⟨(((Below.refl _ _).drew.trans hbd).cell (p := ⟨w.heap.size, 21, none⟩) hzc).trans hc21, HCvt.out _ ((Below.refl _ _).drew.trans hbd)⟩ | exact ⟨(hbd.cell (p := ⟨w.heap.size, 21, none⟩) hzc).trans hc21, HCvt.out _ hbd⟩ | exact ⟨hc21, HCvt.out _ (Below.refl _ _)⟩)
              (first
                | (go_at_call 35; refine (HDig.out _ (by first | exact (Below.refl _ _).drew | exact Below.refl _ _)).mono ?_; rintro e wd ⟨vd, rfl, hod, hbd⟩; obtain ⟨Ad, cd, rfl, hcd, _⟩ := own_slice hod; have hc4 : (4 : Int) ≤ (cd : Int) := (by omega); have hcvd : (convert 23 9 (.slice Ad 4 cd)).run Tryd.prog wd = .ok (.string ⟨((sha D).take 4).toArray⟩) wd := run_str_of Tryd.underlying23 Tryd.underlying5 Tryd.underlying9 (sha4_len D).symm (by rw [bvs_take]; exact (RdC.of_own hod).take 4)))
            have hbcd : Below wc.heap.size wc wd := by first | exact (Below.refl _ _).drew.trans hbd | exact hbd
            have HBd := Lib.hid (below_on HBc.out hbcd)
            have he := ((HE.out.step HBd.out).frame).at
            unfold errV at he
            clear hbd hod hcvd hc21 hcw hbcd
            go_wp2_with fail
            go_ret
            exact ⟨rfl, HBd.out⟩
          | false =>
            go_region_held (fun w' => w'.cell? ⟨w.heap.size, 21, none⟩ = some (.int .u8 (tn : Int)) ∧ (convert 23 9 (.slice (some ⟨g8, XA.length - 4, none⟩) (XA.length - (XA.length - 4)) (k8 - (XA.length - 4)))).run Tryd.prog w' = .ok (.string ⟨T.toArray⟩) w')
              (first | go_keep | exact ⟨(((Below.refl _ _).drew.trans hbd).cell (p := ⟨w.heap.size, 21, none⟩) hzc).trans hc21, HCvt.out _ ((Below.refl _ _).drew.trans hbd)⟩ | exact ⟨(hbd.cell (p := ⟨w.heap.size, 21, none⟩) hzc).trans hc21, HCvt.out _ hbd⟩ | exact ⟨hc21, HCvt.out _ (Below.refl _ _)⟩)
              (first
                | (go_at_call 35; refine (HDig.out _ (by first | exact (Below.refl _ _).drew | exact Below.refl _ _)).mono ?_; rintro e wd ⟨vd, rfl, hod, hbd⟩; obtain ⟨Ad, cd, rfl, hcd, _⟩ := own_slice hod; have hc4 : (4 : Int) ≤ (cd : Int) := (by omega); have hcvd : (convert 23 9 (.slice Ad 4 cd)).run Tryd.prog wd = .ok (.string ⟨((sha D).take 4).toArray⟩) wd := run_str_of Tryd.underlying23 Tryd.underlying5 Tryd.underlying9 (sha4_len D).symm (by rw [bvs_take]; exact (RdC.of_own hod).take 4)))
            have hbcd : Below wc.heap.size wc wd := by first | exact (Below.refl _ _).drew.trans hbd | exact hbd
            have HBd := Lib.hid (below_on HBc.out hbcd)
            have he := ((HE.out.step HBd.out).frame).at
            unfold errV at he
            clear hbd hod hcvd hc21 hcw hbcd
            go_wp2_with fail
            go_ret
            exact ⟨rfl, HBd.out⟩
        | some g =>
          have hge2 := hge.mono fun e w' h => h.ok hg
          have HGe := Lib.hid hge2
          have HSumC := Lib.hid (get_sumd hg)
          have HOth := Lib.hid (get_other hg (by rw [← HXA.out]; exact HCnx.out))
          clear hge hge2 hg
          refine HGe.out.mono ?_
          rintro e wa ⟨hba, Ag, cg, rfl, hrg, hcg⟩
          have HBa := Lib.hid (below_on HB9.out hba)
          have hfa := HF9.out.on (by omega) hba
          have hza : w.heap.size < wa.heap.size := by have := hba.size; omega
          have HOca := Lib.hid (own_below HOc.out hba)
          obtain ⟨wb, hwb⟩ : ∃ W, W = wa.alloc (Obj.cells (frCs g Ag cg) 25) := ⟨_, rfl⟩
          have hbb : Below wa.heap.size wa wb := by rw [hwb]; exact below_box _ _
          have HGb := Lib.hid (show FrC wb wa.heap.size g Ag cg by rw [hwb]; exact FrC.box wa g Ag cg _)
          have hsb : wb.heap.size = wa.heap.size + 1 := by rw [hwb]; simp
          have HRg := Lib.hid ((hrg.mono (fun q hq => hq.2)).step hbb)
          have HBb := Lib.hid (below_on HBa.out hbb)
          have HOcb := Lib.hid (own_below HOca.out hbb)
          have HFb := Lib.hid (hfa.on hza hbb)
          have hzb : w.heap.size < wb.heap.size := by have := hbb.size; omega
          have hnew : Calls Tryd.prog 22 #[] (wa.alloc (Obj.cells (frCs g Ag cg) 25)) (NewP wb) := by rw [← hwb]; exact new_any wb
          have HNew := Lib.hid hnew
          clear hba hwb hbb hnew hrg hcg
          obtain ⟨c0, c1, c2, c3, c4, c5, c6, c7, c8, c9, c10, c11, c12, c13, c14, c15, c16, c17, c18, c19, c20, c21⟩ := hfa
          unfold frV
          go_wp2_with fail
          refine HNew.out.mono ?_
          rintro e wc ⟨H, va, vb, rfl, hT, hbc⟩
          have HT := Lib.hid hT
          have HBc := Lib.hid (below_on HBb.out hbc)
          have HOcc := Lib.hid (own_below HOcb.out hbc)
          have HFc := Lib.hid (HFb.out.on hzb hbc)
          have HGc := Lib.hid (HGb.out.on (by omega) hbc)
          have HRgc := Lib.hid (HRg.out.step hbc)
          have hzc : w.heap.size < wc.heap.size := by have := hbc.size; omega
          have hzg : wa.heap.size < wc.heap.size := by have := hbc.size; omega
          clear hT hbc c0 c1 c2 c3 c4 c5 c6 c7 c8 c9 c10 c11 c12 c13 c14 c15 c16 c17 c18 c19 c20 c21 HNew HGe
          go_wp2_with fail
          obtain ⟨D, hD⟩ : ∃ D, D = C.take (XA.length - 4) := ⟨_, rfl⟩
          obtain ⟨T, hTl⟩ : ∃ T, T = C.drop (XA.length - 4) := ⟨_, rfl⟩
          have hdl : D.length = XA.length - 4 := by rw [hD, List.length_take, HLC.out]; omega
          have hrc := (RdC.of_own HOcc.out).mono (fun q hq => hq.2)
          have hdig : ∀ W, Below wc.heap.size wc W → Calls Tryd.prog 35 #[.pointer (some ⟨H, 0, none⟩), .slice (some ⟨g8, 0, none⟩) (XA.length - 4) k8] W (RDigestP W D) := fun W hW => by
            have hr : RdC (· < W.heap.size) W (some ⟨g8, 0, none⟩) (bvs D) := by rw [hD, bvs_take]; exact (hrc.step hW).take _
            have h := rdigest_any W H va vb wb.heap.size (some ⟨g8, 0, none⟩) k8 D (HT.out.belowV hW) hr (by omega)
            rw [hdl] at h
            exact h
          have hcvt : ∀ W, Below wc.heap.size wc W → (convert 23 9 (.slice (some ⟨g8, XA.length - 4, none⟩) (XA.length - (XA.length - 4)) (k8 - (XA.length - 4)))).run Tryd.prog W = .ok (.string ⟨T.toArray⟩) W := fun W hW => by
            have hr := (hrc.step hW).drop (XA.length - 4) false (by simp)
            rw [show (if false = true then (some ⟨g8, 0, none⟩ : Option Addr) else (some ⟨g8, 0, none⟩ : Option Addr).map (·.add (XA.length - 4))) = some ⟨g8, XA.length - 4, none⟩ by simp [addr0]] at hr
            have hr2 : RdC (· < W.heap.size) W (some ⟨g8, XA.length - 4, none⟩) (bvs T) := by rw [hTl]; simpa [bvs, List.map_drop] using hr
            exact run_str_of Tryd.underlying23 Tryd.underlying5 Tryd.underlying9 (by rw [hTl, List.length_drop, HLC.out]) hr2
          have HDig := Lib.hid hdig
          have HCvt := Lib.hid hcvt
          have HTl := Lib.hid hTl
          have HDd := Lib.hid hD
          have n0 : (4 : Int) ≤ (XA.length : Int) := by omega
          have n1 : (XA.length : Int) - 4 ≤ (k8 : Int) := by omega
          have n2 : (0 : Int) ≤ (XA.length : Int) - 4 := by omega
          have n3 : ¬ k8 = XA.length - 4 := by omega
          have n4 : (XA.length : Int) - 4 ≤ (XA.length : Int) := by omega
          have n5 : IntKind.i64.wrap ((XA.length : Int) - 4) = (XA.length : Int) - 4 := IntWalk.i64_in _ (by omega)
          have n6 : ((XA.length : Int) - 4).toNat = XA.length - 4 := by omega
          have hcw := hcvt wc.drew (Below.refl _ _).drew
          have hc21 : wc.cell? ⟨w.heap.size, 21, none⟩ = some (.int .u8 (tn : Int)) := by
            obtain ⟨c0, c1, c2, c3, c4, c5, c6, c7, c8, c9, c10, c11, c12, c13, c14, c15, c16, c17, c18, c19, c20, c21⟩ := HFc.out
            exact c21
          clear hdig hTl hD hdl hrc hcvt
          have hqq : ((sha D).take 4 == T) = true := by rw [beq_iff_eq, HDd.out, HTl.out, ← HLC.out]; exact HSumC.out
          go_region_held (fun w' => w'.cell? ⟨w.heap.size, 21, none⟩ = some (.int .u8 (tn : Int)) ∧ (convert 23 9 (.slice (some ⟨g8, XA.length - 4, none⟩) (XA.length - (XA.length - 4)) (k8 - (XA.length - 4)))).run Tryd.prog w' = .ok (.string ⟨T.toArray⟩) w')
            (first | go_keep | exact ⟨(((Below.refl _ _).drew.trans hbd).cell (p := ⟨w.heap.size, 21, none⟩) hzc).trans hc21, HCvt.out _ ((Below.refl _ _).drew.trans hbd)⟩ | exact ⟨(hbd.cell (p := ⟨w.heap.size, 21, none⟩) hzc).trans hc21, HCvt.out _ hbd⟩ | exact ⟨hc21, HCvt.out _ (Below.refl _ _)⟩)
            (first
              | (go_at_call 35; refine (HDig.out _ (by first | exact (Below.refl _ _).drew | exact Below.refl _ _)).mono ?_; rintro e wd ⟨vd, rfl, hod, hbd⟩; obtain ⟨Ad, cd, rfl, hcd, _⟩ := own_slice hod; have hc4 : (4 : Int) ≤ (cd : Int) := (by omega); have hcvd : (convert 23 9 (.slice Ad 4 cd)).run Tryd.prog wd = .ok (.string ⟨((sha D).take 4).toArray⟩) wd := run_str_of Tryd.underlying23 Tryd.underlying5 Tryd.underlying9 (sha4_len D).symm (by rw [bvs_take]; exact (RdC.of_own hod).take 4)))
          have hbcd : Below wc.heap.size wc wd := by first | exact (Below.refl _ _).drew.trans hbd | exact hbd
          have HBd := Lib.hid (below_on HBc.out hbcd)
          have he := ((HE.out.step HBd.out).frame).at
          unfold errV at he
          have hfd := HFc.out.on hzc hbcd
          have hgd := HGc.out.on hzg hbcd
          have hsm := rsame_any g a Ag A cg ca wd (HRgc.out.step hbcd) (HA.out.step HBd.out)
          rw [decide_eq_false HOth.out] at hsm
          have HSm := Lib.hid hsm
          unfold frV at HSm
          clear hbd hod hcvd hc21 hcw hbcd hsm
          obtain ⟨c0, c1, c2, c3, c4, c5, c6, c7, c8, c9, c10, c11, c12, c13, c14, c15, c16, c17, c18, c19, c20, c21⟩ := hfd
          obtain ⟨g0, g1, g2, g3, g4, g5, g6, g7, g8', g9⟩ := hgd
          go_wp2_with fail
          refine HSm.out.mono ?_
          rintro e we ⟨rfl, hbe⟩
          have HBe := Lib.hid (below_on HBd.out hbe)
          clear hbe c0 c1 c2 c3 c4 c5 c6 c7 c8 c9 c10 c11 c12 c13 c14 c15 c16 c17 c18 c19 c20 c21 g0 g1 g2 g3 g4 g5 g6 g7 g8' g9
          go_wp2_with fail
          go_ret
          exact ⟨rfl, HBe.out⟩
end Go.Proofs.YtpekagkhgegefaaDoor
