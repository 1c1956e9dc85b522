/- FieldsSizes' walk. -/
import Derived.Test.YtkencpfmbcjppaaDoorLa
import Derived.Lib.OthersKept
set_option linter.unusedVariables false
set_option linter.unusedSimpArgs false
set_option linter.unnecessarySimpa false
namespace Go.Proofs.YtkencpfmbcjppaaDoor
open Go.RowKit
attribute [local go_sem] run_store_flt cellV errV

theorem encAll_pre : ∀ (ls : Bs) (cs : List Cell) (bs : Bs) (k : Nat), cs.length = ls.length → encAll ls cs = .ok bs → ∃ acc, encAll (ls.take k) (cs.take k) = .ok acc
  | ls, cs, bs, 0, _, _ => ⟨[], by simp [encAll]⟩
  | [], [], bs, k + 1, _, _ => ⟨[], by simp [encAll]⟩
  | l :: ls, c :: cs, bs, k + 1, hl, h => by
    simp only [encAll] at h
    cases hc : encCell l c with
    | error e => rw [hc] at h; cases h
    | ok a =>
      rw [hc] at h
      simp only [Except.bind] at h
      cases hr : encAll ls cs with
      | error e => rw [hr] at h; cases h
      | ok r =>
        obtain ⟨acc, ha⟩ := encAll_pre ls cs r k (by simpa using hl) hr
        exact ⟨a ++ acc, by simp [encAll, hc, ha, Except.bind, Except.map]⟩
  | l :: ls, [], bs, k + 1, hl, _ => absurd hl (by simp)
  | [], c :: cs, bs, k + 1, hl, _ => absurd hl (by simp)
theorem encAll_cell : ∀ (ls : Bs) (cs : List Cell) (bs : Bs) (k : Nat) (h1 : k < ls.length) (h2 : k < cs.length), encAll ls cs = .ok bs → ∃ b, encCell ls[k] cs[k] = .ok b
  | l :: ls, c :: cs, bs, 0, _, _, h => by
    simp only [encAll] at h
    cases hc : encCell l c with
    | error e => rw [hc] at h; cases h
    | ok a => exact ⟨a, hc⟩
  | l :: ls, c :: cs, bs, k + 1, h1, h2, h => by
    simp only [encAll] at h
    cases hc : encCell l c with
    | error e => rw [hc] at h; cases h
    | ok a =>
      rw [hc] at h
      simp only [Except.bind] at h
      cases hr : encAll ls cs with
      | error e => rw [hr] at h; cases h
      | ok r => exact encAll_cell ls cs r k (by simpa using h1) (by simpa using h2) hr
theorem known_at (ls : Bs) (k : Nat) (h : k < ls.length) (hk : known ls = true) : knownL ls[k] = true := List.all_eq_true.1 hk _ (List.getElem_mem h)
theorem knownL_ascii {l : UInt8} (h : knownL l = true) : l.toNat < 128 := by
  unfold knownL at h
  rw [List.contains_iff_mem] at h
  simp at h
  rcases h with rfl | rfl | rfl | rfl | rfl | rfl | rfl <;> decide
theorem encode_one {l : UInt8} {c : Cell} {b : Bs} (hk : knownL l = true) (h : encCell l c = .ok b) : encode [l] [c] = .ok b := by
  unfold encode
  rw [if_neg (by simp [known, hk])]
  simp [encAll, h, Except.bind, Except.map]
theorem extract_list (s : ByteArray) (k : Nat) (h : k < s.size) : (s.extract k (k + 1)).data.toList = [s[k]] := by
  rw [Lib.extract_data]
  have h2 : k < s.data.toList.length := by rw [Array.length_toList]; exact h
  rw [show k + 1 - k = 1 from by omega, List.drop_eq_getElem_cons h2]
  rfl

def SizesRel (w : World) (K : Nat) (s : ByteArray) (cells : List Cell) (sum : Value) (wr : World) : Prop :=
  ∃ (k : Nat) (acc : Bs), k ≤ s.size ∧ sum = .int .i64 acc.length ∧ wr.heap[K]? = some (.stringIter s k) ∧ Below K w wr ∧ encAll (s.data.toList.take k) (cells.take k) = .ok acc
def iterLeft (K : Nat) (s : ByteArray) (wr : World) : Nat := s.size - wr.iterPos K

set_option maxHeartbeats 400000 in
theorem sizes_ok (es : Er → Addr) (w : World) (s : ByteArray) (A : Option Addr) (c : Nat) (cells : List Cell) (bs : Bs) (hE : E5 w.heap.size w es) (hs : s.size ≤ 2000000) (hn : cells.length = s.size) (hk : known s.data.toList = true)
    (hcost : cost cells ≤ 100000000) (hnum : ∀ c ∈ cells, c.n ≤ 9223372036854775807) (hR : RdC (· < w.heap.size) w A (cells.flatMap cellVs)) (henc : encAll s.data.toList cells = .ok bs) :
    Calls Tryd.prog 7 #[.string s, .slice A s.size c] w (OkPost w) := by
  have hll : s.data.toList.length = s.size := Array.length_toList
  have HL := Lib.hid hll
  have HN := Lib.hid hn
  have HK := Lib.hid hk
  have HM := Lib.hid hnum
  have HC := Lib.hid henc
  have hbl := encAll_len _ _ _ henc
  have hfull : encode s.data.toList cells = .ok bs := by
    unfold encode
    rw [if_neg (by rw [hk, hn, hll]; simp)]
    exact henc
  have HF := Lib.hid hfull
  clear hll hn hk hnum henc hfull
  go_enter Tryd.func7, Tryd.ntmps7
  go_wp2_with fail
  refine (alive_any es w hE).mono ?_
  rintro e w0 ⟨rfl, hb0⟩
  have HE0 := Lib.hid (hE.step hb0)
  have HB0 := Lib.hid hb0
  have HR0 := Lib.hid (hR.step hb0)
  clear hb0 hE hR
  go_wp2_with fail
  have hsz := size_any es w0 s A s.size c cells HN.out.symm HE0.out HR0.out (by unfold maxLen; omega) (by rw [HN.out]; unfold maxLen; omega) (by omega) HM.out
  rw [HF.out] at hsz
  refine hsz.mono ?_
  rintro e w1 ⟨hb1, rfl⟩
  have HE1 := Lib.hid (HE0.out.step hb1)
  have HB1 := Lib.hid (show Below w.heap.size w w1 from HB0.out.trans (hb1.mono HB0.out.size))
  have HR1 := Lib.hid (HR0.out.step hb1)
  clear hb1 hsz HE0 HB0 HR0
  have hrg := run_range_string (P := Tryd.prog) w1 9 s Tryd.underlying9
  go_wp2_with fail
  clear hrg
  have hbel : Below w1.heap.size w1 (w1.iter s 0) := ⟨rfl, rfl, rfl, by simp [World.iter], fun i hi => Below.heap_alloc w1 (.stringIter s 0) i hi⟩
  have hK : (w1.iter s 0).heap[w1.heap.size]? = some (.stringIter s 0) := World.iter_heap w1 s 0
  have hzz : (w1.iter s 0).heap.size = w1.heap.size + 1 := by simp [World.iter]
  have HZ1 := Lib.hid hzz
  have HK1 := Lib.hid hK
  have HBel := Lib.hid hbel
  clear hbel hK hzz
  generalize w1.iter s 0 = v0 at *
  go_loopw [7] (fun sum wr => SizesRel w1 w1.heap.size s cells sum wr) (fun _ wr => s.size - wr.iterPos w1.heap.size)
  case atStart => exact ⟨0, [], Nat.zero_le _, rfl, HK1.out, HBel.out, by simp [encAll]⟩
  case round =>
    obtain ⟨k, acc, hk1, rfl, hit, hbel, hacc⟩ := hrel
    have HA := Lib.hid hacc
    have HIt := Lib.hid hit
    have hKlt : w1.heap.size < wr.heap.size := (Array.getElem?_eq_some_iff.1 hit).1
    have hpos : wr.iterPos w1.heap.size = k := by unfold World.iterPos; rw [hit]
    have HP := Lib.hid hpos
    have HB := Lib.hid hbel
    clear hacc hit hpos hbel
    by_cases hlt : k < s.size
    · have hkc : k < cells.length := by rw [HN.out]; exact hlt
      have hkl : k < s.data.toList.length := by rw [HL.out]; exact hlt
      have hasc : s[k].toNat < 128 := knownL_ascii (known_at _ k hkl HK.out)
      obtain ⟨W2, hnx, hit2, hb2, hz2⟩ : ∃ W2 : World, (∀ ty, (Instr.next (.pointer (some ⟨w1.heap.size, 0, none⟩)) true ty).run Tryd.prog wr = .ok (.tuple #[.bool true, .int .i64 k, .int .i32 s[k].toNat]) W2) ∧
          W2.heap[w1.heap.size]? = some (.stringIter s (k + 1)) ∧ Below w1.heap.size w1 W2 ∧ W2.heap.size = wr.heap.size :=
        ⟨_, fun ty => Lib.run_next_ascii_at wr w1.heap.size s k ty HIt.out hlt hasc, Lib.iterAt_heap wr _ s k _ HIt.out, Lib.below_iterAt HB.out (Nat.le_refl _) s _, Lib.iterAt_size wr _ s _⟩
      obtain ⟨ad, rfl, hadb, h0, h1, h2⟩ := cells_at HR1.out k hkc
      obtain ⟨b, hb⟩ := encAll_cell _ _ _ k hkl hkc HC.out
      have hsn := encAll_snoc _ _ k acc b hkl hkc HA.out hb
      have hone : encode [s[k]] [cells[k]] = .ok b := encode_one (known_at _ k hkl HK.out) hb
      generalize hck : cells[k] = cl at h0 h1 h2 hb hone
      have hcl63 : cl.n ≤ 9223372036854775807 := by rw [← hck]; exact HM.out _ (List.getElem_mem hkc)
      have hclc : 8 + cl.s.size ≤ 100000000 := by have := cost_take cells k hkc; rw [hck] at this; omega
      have hb8 := encCell_len hb
      clear hck hb
      have g0 := (hb2.cell (p := ad.add (k * 3)) (by rw [add_block]; exact hadb)).trans h0
      have g1 := (hb2.cell (p := ⟨(ad.add (k * 3)).block, (ad.add (k * 3)).off + 1, none⟩) (by show (ad.add (k * 3)).block < _; rw [add_block]; exact hadb)).trans h1
      have g2 := (hb2.cell (p := ⟨(ad.add (k * 3)).block, (ad.add (k * 3)).off + 2, none⟩) (by show (ad.add (k * 3)).block < _; rw [add_block]; exact hadb)).trans h2
      have hcb : (ad.add (k * 3)).block < W2.heap.size := by rw [add_block, hz2]; omega
      have i0 : (0 : Int) ≤ (k : Int) := by omega
      have i1 : (k : Int) < (s.size : Int) := by omega
      have i2 : IntKind.i64.wrap ((k : Int) + 1) = (k : Int) + 1 := IntWalk.i64_in _ (by omega)
      have i3 : ((k : Int) + 1).toNat = k + 1 := by omega
      have i4 : (k : Int) + 1 ≤ (s.size : Int) := by omega
      have i5 : (0 : Int) ≤ (k : Int) + 1 := by omega
      have i6 : (k : Int) ≤ (k : Int) + 1 := by omega
      have hacl := encAll_len _ _ _ HA.out
      have hcost2 := cost_take cells k hkc
      have hE2 : E5 W2.heap.size W2 es := by
        have := HE1.out.below hb2
        exact this.more (by omega)
      have hS : ∀ W : World, W.heap = (W2.alloc (.cells #[.int .i64 cl.n, .float .f64 cl.f, .string cl.s] 33)).heap → Calls Tryd.prog 16 #[.string (s.extract k (k + 1)), .slice (some ⟨W2.heap.size, 0, none⟩) 1 1] W (SizePost es W (.ok b)) := fun W hW => by
        have hbw : Below W2.heap.size W2 (W2.alloc (.cells #[.int .i64 cl.n, .float .f64 cl.f, .string cl.s] 33)) := (Below.refl _ _).alloc (Nat.le_refl _) _
        have hEW : E5 W.heap.size W es := by
          have h1 := hE2.step hbw
          have hmv : ∀ g a, ErrAt (W2.alloc (.cells #[.int .i64 cl.n, .float .f64 cl.f, .string cl.s] 33)).heap.size (W2.alloc (.cells #[.int .i64 cl.n, .float .f64 cl.f, .string cl.s] 33)) g a → ErrAt W.heap.size W g a := fun g a h =>
            ⟨by rw [hW]; exact h.g_lt, by rw [hW]; exact h.a_lt, (World.cell?_of_block (by rw [hW])).trans h.cell, by obtain ⟨cs, t, hh⟩ := h.obj; exact ⟨cs, t, by rw [hW]; exact hh⟩⟩
          exact ⟨hmv _ _ h1.1, hmv _ _ h1.2, hmv _ _ h1.3, hmv _ _ h1.4, hmv _ _ h1.5⟩
        have hRW : RdC (· < W.heap.size) W (some ⟨W2.heap.size, 0, none⟩) ([cl].flatMap cellVs) := ((RdC.new W2 #[.int .i64 cl.n, .float .f64 cl.f, .string cl.s] 33).move (fun i _ => by rw [hW])).mono (fun i hi => by rw [hW]; simp; omega)
        have := size_any es W (s.extract k (k + 1)) (some ⟨W2.heap.size, 0, none⟩) 1 1 [cl] rfl hEW hRW (by rw [ByteArray.size_extract]; unfold maxLen; omega) (by simp [maxLen]) (by simp [cost]; omega) (by simpa using hcl63)
        rw [extract_list s k hlt, hone] at this
        exact this
      have hz3 : w1.heap.size < W2.heap.size := by omega
      have HZ2 := Lib.hid hz2
      clear hz2
      have HS := Lib.hid hS
      have HSN := Lib.hid hsn
      have HIt2 := Lib.hid hit2
      have HB2 := Lib.hid hb2
      have HE2 := Lib.hid hE2
      have hb9 : b.length ≤ 100000000 := by omega
      have hac9 : acc.length ≤ 100000000 := by omega
      clear hS hsn hit2 hb2 hE2 h0 h1 h2 hone hcl63 hclc hacl hb8
      go_wp2_with fail
      go_region_held3 (fun w' => w'.cell? (ad.add (k * 3)) = some (.int .i64 cl.n) ∧ w'.cell? ⟨(ad.add (k * 3)).block, (ad.add (k * 3)).off + 1, none⟩ = some (.float .f64 cl.f) ∧ w'.cell? ⟨(ad.add (k * 3)).block, (ad.add (k * 3)).off + 2, none⟩ = some (.string cl.s))
        (first | go_keep | exact ⟨(hb3.cell (by simp; omega)).trans (by simp [*]), (hb3.cell (by simp; omega)).trans (by simp [*]), (hb3.cell (by simp; omega)).trans (by simp [*])⟩)
        ((go_at_call 16; refine (HS.out _ (by rfl)).mono ?_; rintro e w' ⟨hb3, rfl⟩))
      have hb4 : Below W2.heap.size W2 w' := ((Below.refl _ _).alloc (Nat.le_refl _) _).drew.trans (hb3.mono (by simp))
      have hit4 : w'.heap[w1.heap.size]? = some (.stringIter s (k + 1)) := (hb4.block _ (by omega)).trans HIt2.out
      have hb5 : Below w1.heap.size w1 w' := HB2.out.trans (hb4.mono (by omega))
      have HIt4 := Lib.hid hit4
      have HB5 := Lib.hid hb5
      clear hb3 hb4 hit4 hb5 g0 g1 g2
      go_wp2
      go_roundw
      case rel => exact ⟨k + 1, acc ++ b, by omega, by congr 1; simp, HIt4.out, HB5.out, HSN.out⟩
      case measure =>
        have e1 : w'.iterPos w1.heap.size = k + 1 := by unfold World.iterPos; rw [HIt4.out]
        rw [e1, HP.out]
        omega
    · have hnx : ∀ ty, (Instr.next (.pointer (some ⟨w1.heap.size, 0, none⟩)) true ty).run Tryd.prog wr = .ok (.tuple #[.bool false]) wr := fun ty => Lib.run_next_end_at wr w1.heap.size s k ty HIt.out hlt
      have h1 := HA.out
      rw [List.take_of_length_le (by rw [HL.out]; omega), List.take_of_length_le (by rw [HN.out]; omega), HC.out] at h1
      cases h1
      go_wp2
      go_ret
      exact ⟨rfl, HB1.out.trans (HB.out.mono HB1.out.size)⟩
set_option maxHeartbeats 400000 in
theorem sizes_bad (es : Er → Addr) (w : World) (s : ByteArray) (A : Option Addr) (n c : Nat) (cells : List Cell) (er : Er) (hE : E5 w.heap.size w es) (hs : s.size ≤ 2000000) (hnc : n = cells.length) (hcl : cells.length ≤ 2000000)
    (hcost : cost cells ≤ 100000000) (hnum : ∀ c ∈ cells, c.n ≤ 9223372036854775807) (hR : RdC (· < w.heap.size) w A (cells.flatMap cellVs)) (henc : encode s.data.toList cells = .error er) :
    Calls Tryd.prog 7 #[.string s, .slice A n c] w (OkPost w) := by
  have HC := Lib.hid henc
  have HM := Lib.hid hnum
  have HNc := Lib.hid hnc
  clear hnum henc hnc
  go_enter Tryd.func7, Tryd.ntmps7
  go_wp2_with fail
  refine (alive_any es w hE).mono ?_
  rintro e w0 ⟨rfl, hb0⟩
  have HE0 := Lib.hid (hE.step hb0)
  have HB0 := Lib.hid hb0
  have HR0 := Lib.hid (hR.step hb0)
  clear hb0 hE hR
  go_wp2_with fail
  have hsz := size_any es w0 s A n c cells HNc.out HE0.out HR0.out (by unfold maxLen; omega) (by unfold maxLen; omega) (by omega) HM.out
  rw [HC.out] at hsz
  refine hsz.mono ?_
  rintro e w1 ⟨hb1, rfl⟩
  have HB1 := Lib.hid (show Below w.heap.size w w1 from HB0.out.trans (hb1.mono HB0.out.size))
  clear hb1 hsz HE0 HB0 HR0
  go_wp2
  go_ret
  exact ⟨rfl, HB1.out⟩

theorem sizes_walk (es : Er → Addr) (w : World) (s : ByteArray) (A : Option Addr) (n c : Nat) (cells : List Cell) (hE : E5 w.heap.size w es) (hs : s.size ≤ 2000000) (hnc : n = cells.length) (hcl : cells.length ≤ 2000000)
    (hcost : cost cells ≤ 100000000) (hnum : ∀ c ∈ cells, c.n ≤ 9223372036854775807) (hR : RdC (· < w.heap.size) w A (cells.flatMap cellVs)) :
    Calls Tryd.prog 7 #[.string s, .slice A n c] w (OkPost w) := by
  cases h : encode s.data.toList cells with
  | error er => exact sizes_bad es w s A n c cells er hE hs hnc hcl hcost hnum hR h
  | ok bs =>
    have h2 := h
    unfold encode at h2
    split at h2
    · cases h2
    · rename_i hk
      have hll : s.data.toList.length = s.size := Array.length_toList
      have hk1 : known s.data.toList = true := by
        cases hkk : known s.data.toList with
        | true => rfl
        | false => exact absurd (.inl hkk) hk
      have hk2 : cells.length = s.size := by
        rcases Nat.decEq cells.length s.data.toList.length with h3 | h3
        · exact absurd (.inr h3) hk
        · rw [h3, hll]
      subst hnc
      rw [hk2]
      exact sizes_ok es w s A c cells bs hE hs hk2 hk1 hcost hnum hR h2
end Go.Proofs.YtkencpfmbcjppaaDoor
