/- Walks of package frame, fifth part: Check. -/
import Derived.Test.YtipgimmgjdgdeaaDoorVa
import Derived.Test.YtipgimmgjdgdeaaDoorHa
set_option linter.unusedVariables false
set_option linter.unusedSimpArgs false
set_option linter.unnecessarySimpa false
namespace Go.Proofs.YtipgimmgjdgdeaaDoor
open Go.RowKit
attribute [local go_sem] run_store_flt

theorem addr0 (b k : Nat) : (⟨b, 0, none⟩ : Addr).add k = ⟨b, k, none⟩ := by
  unfold Addr.add
  by_cases h : k = 0 <;> simp [h]
theorem below_box (w : World) (o : Obj) : Below w.heap.size w (w.alloc o) := (Below.refl _ _).alloc (Nat.le_refl _) _
/-- The ten cells of a frame in block g. -/
structure FrC (W : World) (g : Nat) (f : Fr) (A : Option Addr) (c : Nat) : Prop where
  c0 : W.cell? ⟨g, 0, none⟩ = some (.int .i64 f.kind)
  c1 : W.cell? ⟨g, 1, none⟩ = some (.int .i64 f.seq)
  c2 : W.cell? ⟨g, 2, none⟩ = some (.int .i64 f.got)
  c3 : W.cell? ⟨g, 3, none⟩ = some (.int .i64 f.stream)
  c4 : W.cell? ⟨g, 4, none⟩ = some (.int .i64 f.amount)
  c5 : W.cell? ⟨g, 5, none⟩ = some (.int .i64 f.code)
  c6 : W.cell? ⟨g, 6, none⟩ = some (.string f.who)
  c7 : W.cell? ⟨g, 7, none⟩ = some (.string f.name)
  c8 : W.cell? ⟨g, 8, none⟩ = some (.float .f64 f.weight)
  c9 : W.cell? ⟨g, 9, none⟩ = some (.slice A f.bytes.length c)
theorem FrC.of_heap {W : World} {g : Nat} {f : Fr} {A : Option Addr} {c : Nat} {t : TypeId} {fr : Nat × Nat} (h : W.heap[g]? = some (.cells (frCs f A c) t fr)) : FrC W g f A c := by
  constructor <;> exact (cell_of_row _ _ _ _ _ _ h).trans rfl
theorem FrC.move {w w' : World} {g : Nat} {f : Fr} {A : Option Addr} {c : Nat} (h : FrC w g f A c) (hb : w'.heap[g]? = w.heap[g]?) : FrC w' g f A c := by
  have key : ∀ j, w'.cell? ⟨g, j, none⟩ = w.cell? ⟨g, j, none⟩ := fun j => World.cell?_of_block hb
  exact ⟨(key 0).trans h.c0, (key 1).trans h.c1, (key 2).trans h.c2, (key 3).trans h.c3, (key 4).trans h.c4, (key 5).trans h.c5, (key 6).trans h.c6, (key 7).trans h.c7, (key 8).trans h.c8, (key 9).trans h.c9⟩
theorem FrC.on {w w' : World} {g : Nat} {f : Fr} {A : Option Addr} {c : Nat} (h : FrC w g f A c) (hg : g < w.heap.size) (hb : Below w.heap.size w w') : FrC w' g f A c := h.move (hb.block g hg)
theorem FrC.box (w : World) (f : Fr) (A : Option Addr) (c : Nat) (t : TypeId) : FrC (w.alloc (.cells (frCs f A c) t)) w.heap.size f A c := FrC.of_heap (heap_alloc_new _ _)
theorem FrAt.lt {W : World} {B : Nat} {o : Fr} (h : FrAt W B o) : B < W.heap.size := by
  obtain ⟨A, c, h, _⟩ := h
  exact (Array.getElem?_eq_some_iff.1 h).1
theorem FrAt.below {W W' : World} {B : Nat} {o : Fr} (h : FrAt W B o) (hb : Below W.heap.size W W') : FrAt W' B o := by
  have hB := h.lt
  obtain ⟨A, c, h1, h2, h3⟩ := h
  exact ⟨A, c, (hb.block B hB).trans h1, (h2.move (fun b hk => hb.block b hk.2)).mono (fun b hk => ⟨hk.1, Nat.lt_of_lt_of_le hk.2 hb.size⟩), h3⟩
theorem FrAt.new (w : World) (k : Int) : FrAt (w.alloc (.cells (frCs (Fr.of k) none 0) 33)) w.heap.size (Fr.of k) :=
  ⟨none, 0, heap_alloc_new _ _, RdC.nil _ _ _, Nat.le_refl _⟩
/-- What package frame finds in memory. -/
structure FEnv (w : World) (es : Er → Addr) : Prop where
  e3 : E3 w.heap.size w es
  frame : ErrAt w.heap.size w 1 (es .frame)
  round : RoundAt w
theorem FEnv.step {w w' : World} {es : Er → Addr} (h : FEnv w es) (hb : Below w.heap.size w w') : FEnv w' es := ⟨h.e3.step hb, (h.frame.below hb).more hb.size, h.round.below hb h.round.lt⟩
/-- A frame whose lengths are those of Go's values. -/
structure Fr.lens (f : Fr) : Prop where
  who : f.who.size ≤ 9223372036854775807
  name : f.name.size ≤ 9223372036854775807
  bytes : f.bytes.length ≤ 9223372036854775807
def CheckFP (es : Er → Addr) (f : Fr) (w : World) (e : Ending) (w' : World) : Prop := e = .returned (if checkF f = true then .nilIface else errV (es .frame)) ∧ Below w.heap.size w w'
theorem CheckFP.yes {es : Er → Addr} {f : Fr} {w w' : World} (h : checkF f = true) (hb : Below w.heap.size w w') : CheckFP es f w (.returned .nilIface) w' := ⟨by rw [if_pos h], hb⟩
theorem CheckFP.no {es : Er → Addr} {f : Fr} {w w' : World} (h : checkF f = false) (hb : Below w.heap.size w w') : CheckFP es f w (.returned (errV (es .frame))) w' := ⟨by rw [if_neg (by rw [h]; simp)], hb⟩
theorem only_snoc (f : Fr) (l : List Nat) (k : Nat) (h : k < l.length) : onlyF f (l.take (k + 1)) = setF (onlyF f (l.take k)) l[k] (cellF f l[k]) := by
  unfold onlyF
  rw [List.take_succ_eq_append_getElem h, List.foldl_append]
  rfl
theorem grown_size {w w' : World} {row : Option Nat} (h : w.grownBy w' row) : w.heap.size ≤ w'.heap.size := h.size
/-- One cell of a sentinel's variable. -/
theorem ErrAt.at {B : Nat} {w : World} {g : Nat} {a : Addr} (h : ErrAt B w g a) : w.cell? ⟨g, 0, none⟩ = some (errV a) := h.cell
def CheckRel (f : Fr) (l : List Nat) (w3 : World) (B : Nat) (i : Value) (wr : World) : Prop :=
  ∃ k : Nat, k ≤ l.length ∧ i = .int .i64 k ∧ w3.grownBy wr (some B) ∧ FrAt wr B (onlyF f (l.take k)) ∧ ∀ x ∈ l.take k, goodF f x = true
set_option maxRecDepth 8000 in
set_option maxHeartbeats 3200000 in
theorem checkF_any (es : Er → Addr) (f : Fr) (A : Option Addr) (c : Nat) (w : World) (hE : FEnv w es) (hl : f.lens) (hA : RdC (· < w.heap.size) w A (bvs f.bytes)) :
    Calls Tryd.prog 53 #[frV f A c] w (CheckFP es f w) := by
  obtain ⟨w1, hw1⟩ : ∃ W, W = w.alloc (Obj.cells (frCs f A c) 33) := ⟨_, rfl⟩
  obtain ⟨l, hlk⟩ : ∃ l, l = shapeF f.kind := ⟨_, rfl⟩
  have hb1 : Below w.heap.size w w1 := by rw [hw1]; exact below_box _ _
  have hs1 : w1.heap.size = w.heap.size + 1 := by rw [hw1]; simp
  have hf1 : FrC w1 w.heap.size f A c := by rw [hw1]; exact FrC.box w f A c _
  have hsh : Calls Tryd.prog 64 #[.int .i64 f.kind] (w.alloc (Obj.cells (frCs f A c) 33)) (ShapeP w1 l) := by rw [hw1, hlk]; exact shape_any f.kind _
  have H9 := Lib.hid (show ∀ x ∈ l, x < 9 from by rw [hlk]; exact shape_lt f.kind)
  have hck : checkF f = (!l.isEmpty && (l.all (goodF f) && decide (onlyF f l = f))) := by rw [hlk]; rfl
  have hl3 : l.length ≤ 3 := by rw [hlk]; have := layout_len f.kind; simpa [layoutF] using this
  have HCk := Lib.hid hck
  have HA := Lib.hid hA
  have HL := Lib.hid hl
  have HB1 := Lib.hid hb1
  have HS1 := Lib.hid hs1
  have HF1 := Lib.hid hf1
  have HEF := Lib.hid hE.frame
  have HS := Lib.hid hsh
  clear hw1 hlk hsh hb1 hck hA hl hs1 hf1 hE
  have hnl := fun (W : World) (a : Option Addr) (n c : Nat) => Lib.run_eql_slice_nil (P := Tryd.prog) W 114 116 a n c 0 0 Tryd.underlying114
  unfold frV
  go_enter Tryd.func53, Tryd.ntmps53
  go_wp2_with fail
  refine HS.out.mono ?_
  rintro e w2 ⟨hb2, AL, rfl, hn0, hn1, hRL⟩
  have HB12 := Lib.hid hb2
  have HB2 := Lib.hid (HB1.out.trans (hb2.mono (by rw [HS1.out]; omega)))
  have hz2 : w.heap.size + 1 ≤ w2.heap.size := by rw [← HS1.out]; exact hb2.size
  have HZ2 := Lib.hid hz2
  have HF2 := Lib.hid (HF1.out.on (by rw [HS1.out]; omega) hb2)
  have HN1 := Lib.hid hn1
  have HRL := Lib.hid hRL
  clear hb2 HS HF1 hn1 hRL hz2
  by_cases hnil : l = []
  · have hAL := hn0 hnil
    subst hAL
    have HC := Lib.hid (show checkF f = false by rw [HCk.out, hnil]; rfl)
    have HEr := Lib.hid ((HEF.out.below HB2.out).at)
    have he := HEr.out
    unfold errV at he
    clear hnil hn0
    go_wp2_with fail
    go_ret
    exact CheckFP.no HC.out HB2.out
  · have hAL := HN1.out hnil
    subst hAL
    obtain ⟨c0, c1, c2, c3, c4, c5, c6, c7, c8, c9⟩ := HF2.out
    have HNil := Lib.hid hnil
    clear hnil hn0 c1 c2 c3 c4 c5 c6 c7 c8 c9
    go_wp2_with fail
    obtain ⟨w3, hw3⟩ : ∃ W, W = w2.alloc (Obj.cells (frCs (Fr.of f.kind) none 0) 33) := ⟨_, rfl⟩
    have hat : FrAt w3 w2.heap.size (Fr.of f.kind) := by rw [hw3]; exact FrAt.new w2 f.kind
    have hb23 : Below w2.heap.size w2 w3 := by rw [hw3]; exact below_box _ _
    have HAt := Lib.hid hat
    have HB23 := Lib.hid hb23
    have HB3 := Lib.hid (HB2.out.trans (hb23.mono (by have := HB2.out.size; omega)))
    have HF3 := Lib.hid (HF2.out.on (by have := HZ2.out; omega) hb23)
    have hs3 : w3.heap.size = w2.heap.size + 1 := by rw [hw3]; simp
    have HS3 := Lib.hid hs3
    have HRL3 := Lib.hid ((HRL.out.move (fun b hb => hb23.block b hb.2)).mono (fun b hb => (⟨by omega, by rw [hs3]; omega⟩ : b ≠ w2.heap.size ∧ b < w3.heap.size)))
    rw [show w2.alloc (Obj.cells #[.int .i64 f.kind, .int .i64 0, .int .i64 0, .int .i64 0, .int .i64 0, .int .i64 0, .string ⟨#[]⟩, .string ⟨#[]⟩, .float .f64 0, .slice none 0 0] 33) = w3 from hw3.symm]
    clear hw3 hat hb23 hs3 c0
    go_loopw [18] (fun i wr => CheckRel f l w3 w2.heap.size i wr) (fun i _ => l.length - (intOf i).toNat)
    case atStart => exact ⟨0, Nat.zero_le _, rfl, World.grownBy.refl _ _, HAt.out, by simp⟩
    case round =>
      obtain ⟨k, hk, rfl, hg, hat, hall⟩ := hrel
      have HG := Lib.hid hg
      have HAtr := Lib.hid hat
      have HAll := Lib.hid hall
      have hBne : w.heap.size ≠ w2.heap.size := by have := HZ2.out; omega
      have HBr := Lib.hid (below_grown HB3.out HB3.out.size hg (fun k hk => by injection hk with hk; have := HZ2.out; omega))
      have HFr := Lib.hid (HF3.out.move (hg.block w.heap.size (by have := HS3.out; have := HZ2.out; omega) (fun e => by injection e with e; omega)))
      have HRLr := Lib.hid (HRL3.out.move (fun b hb => hg.block b hb.2 (fun e => by injection e with e; exact hb.1 e)))
      clear hg hat hall
      by_cases hlt : k < l.length
      · obtain ⟨ad, had, hbk, hc⟩ := HRLr.out (by intro e; rw [List.map_eq_nil_iff] at e; rw [e] at hlt; simp at hlt)
        injection had with had
        subst had
        have hcell := hc k (natV l[k]) (by simp [hlt])
        rw [addr0] at hcell
        have hx9 := H9.out l[k] (List.getElem_mem hlt)
        have HSn := Lib.hid (only_snoc f l k hlt)
        have HT := Lib.hid (show l.take (k + 1) = l.take k ++ [l[k]] from List.take_succ_eq_append_getElem hlt)
        have HMem := Lib.hid (List.getElem_mem hlt)
        clear hc
        unfold natV at hcell
        generalize l[k] = x at *
        have i0 : (0 : Int) ≤ (k : Int) := by omega
        have i1 : (k : Int) < (l.length : Int) := by omega
        have hrsz : w.heap.size < wr.heap.size := by have := HBr.out.size; have := HG.out.size; have := HS3.out; have := HZ2.out; omega
        have hgd := good_any f A c x hx9 wr HL.out.who HL.out.name HL.out.bytes
        obtain ⟨c0, c1, c2, c3, c4, c5, c6, c7, c8, c9⟩ := HFr.out
        cases hgx : goodF f x with
        | false =>
          rw [hgx] at hgd
          have HGd := Lib.hid hgd
          have HC := Lib.hid (show checkF f = false by
            cases hcc : checkF f with
            | false => rfl
            | true =>
              have h2 := HCk.out
              rw [hcc] at h2
              have h3 := (Bool.and_eq_true _ _).mp h2.symm
              have h4 := List.all_eq_true.1 ((Bool.and_eq_true _ _).mp h3.2).1 x HMem.out
              rw [hgx] at h4
              cases h4)
          clear hgd hgx
          go_wp2_with fail
          refine HGd.out.mono ?_
          rintro e w5 ⟨rfl, hb5⟩
          have HB5 := Lib.hid (below_then HBr.out (by omega) hb5)
          have he := (HEF.out.below HB5.out).at
          unfold errV at he
          clear hb5 c0 c1 c2 c3 c4 c5 c6 c7 c8 c9
          go_wp2_with fail
          go_ret
          exact CheckFP.no HC.out HB5.out
        | true =>
          rw [hgx] at hgd
          have HGd := Lib.hid hgd
          have HGx := Lib.hid hgx
          clear hgd hgx
          go_wp2_with fail
          refine HGd.out.mono ?_
          rintro e w5 ⟨rfl, hb5⟩
          have HB5 := Lib.hid hb5
          have hcl := cellF_any f A c x hx9 w5 ((HA.out.below HBr.out).below (hb5.mono (by omega)) |>.mono (fun b hb => by have := hb5.size; omega))
          have HCl := Lib.hid hcl
          have hF5 := HFr.out.on hrsz hb5
          have HF5 := Lib.hid hF5
          clear hb5 c0 c1 c2 c3 c4 c5 c6 c7 c8 c9 hcl hF5
          obtain ⟨c0, c1, c2, c3, c4, c5, c6, c7, c8, c9⟩ := HF5.out
          go_wp2_with fail
          refine HCl.out.mono ?_
          rintro e w6 ⟨rfl, hb6⟩
          have HB6 := Lib.hid (below_on HB5.out hb6)
          have hst := setF_any w6 w2.heap.size (onlyF f (l.take k)) x (cellF f x) hx9 (HAtr.out.below HB6.out)
          have HSt := Lib.hid hst
          clear hb6 c0 c1 c2 c3 c4 c5 c6 c7 c8 c9 hst
          unfold cellV at HSt
          unfold cellV
          go_wp2_with fail
          refine HSt.out.mono ?_
          rintro e w7 ⟨rfl, hg7, hat7⟩
          have HG7 := Lib.hid (HG.out.trans (below_then_grown HB6.out hg7))
          have HAt7 := Lib.hid hat7
          clear hg7 hat7
          go_wp2_with fail
          go_roundw
          case rel => exact ⟨k + 1, by omega, by go_num, HG7.out, by rw [HSn.out]; exact HAt7.out, by rw [HT.out]; intro y hy; rcases List.mem_append.1 hy with h | h; exact HAll.out y h; rw [List.mem_singleton.1 h]; exact HGx.out⟩
          case measure => simp [intOf]; omega
      · have HE := Lib.hid (show l.take k = l from List.take_of_length_le (by omega))
        rw [HE.out] at HAtr HAll
        obtain ⟨c0, c1, c2, c3, c4, c5, c6, c7, c8, c9⟩ := HFr.out
        obtain ⟨A', c', hh', hR', _⟩ := HAtr.out
        obtain ⟨d0, d1, d2, d3, d4, d5, d6, d7, d8, d9⟩ := FrC.of_heap hh'
        have hsm := same_any (onlyF f l) f A' A c' c wr (hR'.mono (fun b hb => hb.2)) ((HA.out.below HBr.out).mono (fun b hb => by have := HBr.out.size; omega))
        have HSm := Lib.hid hsm
        clear hh' hR' hsm
        unfold frV at HSm
        by_cases ho : onlyF f l = f
        · rw [decide_eq_true ho] at HSm
          have HC := Lib.hid (show checkF f = true by
            rw [HCk.out, decide_eq_true ho, List.all_eq_true.2 HAll.out]
            cases l with
            | nil => exact absurd rfl HNil.out
            | cons a l => rfl)
          clear ho
          go_wp2_with fail
          refine HSm.out.mono ?_
          rintro e w5 ⟨rfl, hb5⟩
          have HB5 := Lib.hid (below_then HBr.out (by have := HBr.out.size; omega) hb5)
          clear hb5 c0 c1 c2 c3 c4 c5 c6 c7 c8 c9 d0 d1 d2 d3 d4 d5 d6 d7 d8 d9
          go_wp2_with fail
          go_ret
          exact CheckFP.yes HC.out HB5.out
        · rw [decide_eq_false ho] at HSm
          have HC := Lib.hid (show checkF f = false by
            rw [HCk.out, decide_eq_false ho]
            simp)
          clear ho
          go_wp2_with fail
          refine HSm.out.mono ?_
          rintro e w5 ⟨rfl, hb5⟩
          have HB5 := Lib.hid (below_then HBr.out (by have := HBr.out.size; omega) hb5)
          have he := (HEF.out.below HB5.out).at
          unfold errV at he
          clear hb5 c0 c1 c2 c3 c4 c5 c6 c7 c8 c9 d0 d1 d2 d3 d4 d5 d6 d7 d8 d9
          go_wp2_with fail
          go_ret
          exact CheckFP.no HC.out HB5.out
end Go.Proofs.YtipgimmgjdgdeaaDoor
