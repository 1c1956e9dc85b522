/- Walks of package proof, ninth part: Open. -/
import Derived.Test.YtnnokbipcenbgaaDoorPh
import Derived.Deep.RegionHeld3
import Derived.StillTailTactics
import Derived.Deep.RegionWith
import Derived.Deep.DrawnRows
set_option linter.unusedVariables false
set_option linter.unusedSimpArgs false
set_option linter.unnecessarySimpa false
namespace Go.Proofs.YtnnokbipcenbgaaDoor
open Go.RowKit
attribute [local go_sem] run_store_flt
attribute [local go_sem ↓] Go.wp_at_zero Go.wp_at_succ

theorem wrap_ofInt (z : Int) : BitVec.ofInt 64 (IntKind.i64.wrap z) = BitVec.ofInt 64 z := by
  apply BitVec.eq_of_toNat_eq
  simp only [BitVec.toNat_ofInt]
  have h : IntKind.i64.wrap z = z % 18446744073709551616 ∨ IntKind.i64.wrap z = z % 18446744073709551616 - 18446744073709551616 := by
    simp only [IntKind.wrap, IntKind.bits, IntKind.signed]
    by_cases hh : z % 2 ^ 64 ≥ 2 ^ 63
    · right; simp; omega
    · left; simp; omega
  congr 1
  rcases h with h | h <;> rw [h] <;> omega
theorem or_shift (x b : Nat) (hx : x < 72057594037927936) (hb : b < 256) : bits .or .i64 (wrap64 ((x : Int) * 256)) (b : Int) = IntKind.i64.wrap ((256 * x + b : Nat) : Int) := by
  rw [← IntWalk.i64_left]
  show IntKind.i64.wrap ((BitVec.ofInt 64 (IntKind.i64.wrap ((x : Int) * 256)) ||| BitVec.ofInt 64 (b : Int)).toNat : Int) = _
  rw [wrap_ofInt, show ((x : Int) * 256) = ((256 * x : Nat) : Int) by omega, BitVec.toNat_or, BitVec.ofInt_natCast, BitVec.ofInt_natCast, BitVec.toNat_ofNat, BitVec.toNat_ofNat, Nat.mod_eq_of_lt (by omega), Nat.mod_eq_of_lt (by omega)]
  congr 2
  exact (Nat.two_pow_add_eq_or_of_lt (i := 8) hb x).symm
theorem num_take_lt (t : Bs) (k : Nat) (hk : k ≤ t.length) : num (t.take k) < 256 ^ k := by
  have := num_lt (t.take k)
  rwa [List.length_take, Nat.min_eq_left hk] at this
theorem num_take_snoc (t : Bs) (k : Nat) (hk : k < t.length) : num (t.take (k + 1)) = 256 * num (t.take k) + t[k].toNat := by
  rw [List.take_succ_eq_append_getElem hk, num_snoc]
/-- What Open$1 has read: the link's number. -/
def linkI (t : Bs) (k : Nat) : Int := IntKind.i64.wrap ((num (t.take k) : Nat) : Int)
theorem linkI_small (t : Bs) (k : Nat) (hk : k ≤ t.length) (h7 : k ≤ 7) : linkI t k = (num (t.take k) : Int) := by
  have h1 := num_take_lt t k hk
  have h2 : 256 ^ k ≤ 256 ^ 7 := Nat.pow_le_pow_right (by omega) h7
  exact IntWalk.i64_in _ (by have : (256 : Nat) ^ 7 = 72057594037927936 := by decide
                             omega)
theorem linkI_range (t : Bs) (h : 8 ≤ t.length) : (0 ≤ linkI t 8 ∧ linkI t 8 ≤ 1099511627776) ↔ num (t.take 8) ≤ 1099511627776 := by
  have h1 := num_take_lt t 8 h
  have h3 : (256 : Nat) ^ 8 = 18446744073709551616 := by decide
  unfold linkI
  simp only [IntKind.wrap, IntKind.bits, IntKind.signed]
  simp
  omega
theorem linkI_val (t : Bs) (h : num (t.take 8) ≤ 1099511627776) : linkI t 8 = (num (t.take 8) : Int) := IntWalk.i64_in _ (by omega)
/-- A call that never comes back: the way back is kept as a ghost, under a hidden False. -/
theorem calls_ghost {P : Program} {f : FuncId} {args : Array Value} {w : World} {R : Ending → World → Prop} (h : Calls P f args w R) (Q2 : Ending → World → Prop) (hg : Hid False → ∀ e w', Q2 e w' → R e w') : Calls P f args w R := h
/-- wpStill behind a structure: nothing looks into it on the way. -/
structure StillW (P : Program) (ops : Array Oper) (w : World) (Q : Act → Prop) (l : List Oper) (a : Act) : Prop where
  out : wpStill P ops w Q l a
theorem StillW.nil {P : Program} {ops : Array Oper} {w : World} {Q : Act → Prop} {a : Act} (h : Q a) : StillW P ops w Q [] a := ⟨wpStill_nil h⟩
theorem StillW.step {P : Program} {ops : Array Oper} {w : World} {Q : Act → Prop} {a : Act} {o : Oper} {rest : List Oper}
    (h : ∀ K : Act → Prop, (∀ a, StillW P ops w Q rest a → K a) → if Region.wanted o (yielded ops a.tmps) then o.still P a w K else K (a.put o.dst undef)) : StillW P ops w Q (o :: rest) a :=
  ⟨wpStill_step fun K hK => h K fun a ha => hK a ha.out⟩
theorem region_tailW {P : Program} {id : Nat} {Q : Exit → Act → World → Prop} {a : Act} {w : World} {l : List Oper} (n : Nat) (hm : P.follows .mixedOrders = true) (hB : Region.lexTailB .any l.toArray n = true)
    (h : StillW P l.toArray w.drew (fun a' => wpList P l.toArray Q (l.drop n) a' w.drew) (l.take n) a) : (Code.region id l.toArray true).wp P Q a w := region_tail n hm hB h.out
/-- Is t the ticket that was made for its own number? -/
def openOk (key who t : Bs) : Bool := decide (num (t.take 8) ≤ 1099511627776 ∧ t = ticketB key who (num (t.take 8)))
def NumP (w : World) (n : Int) (e : Ending) (w' : World) : Prop := e = .returned (.int .i64 n) ∧ Below w.heap.size w w'
/-- Open$1 up to its last question: the frame there. -/
def OpenC (w : World) (es : Er → Addr) (key who t : Bs) (e : Ending) (w' : World) : Prop := if openOk key who t = true then NumP w (num (t.take 8) : Int) e w' else NoP w (es .proof) e w'
set_option maxRecDepth 8000 in
set_option maxHeartbeats 1600000 in
theorem openC_yes (es : Er → Addr) (w : World) (p q r : Addr) (K T : Option Addr) (kc tc : Nat) (key t : Bs) (who : ByteArray) (hE : PEnv w es) (hK : RdC (· < w.heap.size) w K (bvs key)) (hkc : key.length ≤ kc) (hT : RdC (· < w.heap.size) w T (bvs t)) (htc : t.length ≤ tc)
    (hp : w.cell? p = some (.slice K key.length kc)) (hpb : p.block < w.heap.size) (hq : w.cell? q = some (.string who)) (hqb : q.block < w.heap.size) (hr : w.cell? r = some (.slice T t.length tc)) (hrb : r.block < w.heap.size)
    (hs : secretOk key = true) (hw : whoOk who.data.toList = true) (h32 : t.length = 32) :
    Calls Tryd.prog 29 #[.agg #[], .pointer (some p), .pointer (some q), .pointer (some r)] w (OpenC w es key who.data.toList t) := by
  have hs2 := of_decide_eq_true hs
  have hw2 := of_decide_eq_true hw
  rw [str_size] at hw2
  have hb0 := below_box w (Obj.cells #[] 52)
  have c1 := cell_on hp hpb hb0
  have hk64 : key.length ≤ 64 := hs2.2
  have hw16 : who.size ≤ 16 := hw2.2
  have t32 : ((t.length : Int) == 32) = true := by rw [h32]; rfl
  have k8 : (8 : Int) ≤ (tc : Int) := by omega
  have HE := Lib.hid hE
  have HK := Lib.hid hK
  have HT := Lib.hid hT
  have HB := Lib.hid hb0
  have HP := Lib.hid hp
  have HQ := Lib.hid hq
  have HR := Lib.hid hr
  have HS := Lib.hid hs
  have HW := Lib.hid hw
  have H32 := Lib.hid h32
  clear hE hK hT hb0 hp hq hr hs hw h32 hs2 hw2
  go_enter Tryd.func29, Tryd.ntmps29
  go_wp2_with fail
  refine (secret_yes es _ K kc key (HE.out.step HB.out) HS.out).mono ?_
  rintro e w1 ⟨rfl, hb1⟩
  have HB1 := Lib.hid (below_on HB.out hb1)
  have c2 := cell_on HQ.out hqb HB1.out
  clear hb1 c1
  go_wp2_with fail
  refine (who_yes es _ who (HE.out.step HB1.out) HW.out).mono ?_
  rintro e w2 ⟨rfl, hb2⟩
  have HB2 := Lib.hid (below_on HB1.out hb2)
  clear c2 hb2
  have c3 := cell_on HR.out hrb HB2.out
  have g3 := (HE.out.step HB2.out).proof.cell
  go_wp2_with fail
  refine (need_yes _ (es .proof)).mono ?_
  rintro e w3 ⟨rfl, hb3⟩
  have HB3 := Lib.hid (below_on HB2.out hb3)
  clear c3 g3 hb3
  have c4 := cell_on HR.out hrb HB3.out
  go_wp2_with fail
  go_loop [24, 6] (fun i x => ∃ k : Nat, k ≤ 8 ∧ i = .int .i64 k ∧ x = .int .i64 (linkI t k)) (fun i _ => 8 - (intOf i).toNat)
  case atStart => exact ⟨0, by omega, rfl, rfl⟩
  case round =>
    obtain ⟨k, hk, rfl, rfl⟩ := hrel
    by_cases h8 : k < 8
    · have j1 : (k : Int) < 8 := by omega
      have j0 : (0 : Int) ≤ (k : Int) := by omega
      have hkt : k < t.length := by rw [H32.out]; omega
      obtain ⟨ad, rfl, hadb, cb⟩ := bytes_at (HT.out.below HB3.out) k hkt
      have hsn : linkI t (k + 1) = IntKind.i64.wrap ((256 * num (t.take k) + t[k].toNat : Nat) : Int) := by unfold linkI; rw [num_take_snoc t k hkt]
      have hsm := linkI_small t k (by omega) (by omega)
      have hlt := num_take_lt t k (by omega)
      have hlt2 : num (t.take k) < 72057594037927936 := Nat.lt_of_lt_of_le hlt (show 256 ^ k ≤ 72057594037927936 from Nat.le_trans (Nat.pow_le_pow_right (by omega) (show k ≤ 7 by omega)) (by decide))
      have hb8 : t[k].toNat < 256 := t[k].toNat_lt
      have hos := or_shift (num (t.take k)) t[k].toNat hlt2 hb8
      rw [hsm]
      generalize num (t.take k) = x at *
      generalize t[k].toNat = y at *
      have HSn := Lib.hid hsn
      have HOs := Lib.hid hos
      clear hsn hos hsm hlt
      have w0 : IntKind.i64.wrap (y : Int) = y := IntWalk.i64_in _ (by omega)
      go_wp2_with fail
      rw [HOs.out]
      refine ⟨⟨k + 1, by omega, by simp, by rw [HSn.out]⟩, by simp [intOf]; omega⟩
    · obtain rfl : k = 8 := by omega
      rw [show ((8 : Nat) : Int) = 8 from rfl]
      have hrg := linkI_range t (by rw [H32.out]; omega)
      have c5 := cell_on HP.out hpb HB3.out
      have c6 := cell_on HQ.out hqb HB3.out
      have g4 := (HE.out.step HB3.out).proof.cell
      by_cases hin : num (t.take 8) ≤ 1099511627776
      · have hlv := linkI_val t hin
        rw [hlv]
        have hEu := HE.out.step HB3.out
        have hKu := HK.out.step HB3.out
        have hTu := HT.out.step HB3.out
        have ks : ∀ W, Below w3.heap.size w3 W → W.cell? p = some (.slice K key.length kc) ∧ W.cell? q = some (.string who) ∧ W.cell? r = some (.slice T t.length tc) ∧ W.cell? ⟨0, 0, none⟩ = some (.iface 113 (.pointer (some (es .proof)))) := fun W hb =>
          ⟨cell_on c5 (Nat.lt_of_lt_of_le hpb HB3.out.size) hb, cell_on c6 (Nat.lt_of_lt_of_le hqb HB3.out.size) hb, cell_on c4 (Nat.lt_of_lt_of_le hrb HB3.out.size) hb, (hEu.step hb).proof.cell⟩
        have kt : ∀ W, Below w3.heap.size w3 W → Calls Tryd.prog 27 #[.slice K key.length kc, .string who, .int .i64 ((num (t.take 8) : Nat) : Int)] W (RowP W (ticketB key who.data.toList (num (t.take 8)))) := fun W hb =>
          ticket_any es W K kc key who (num (t.take 8)) (hEu.step hb) (hKu.step hb) hkc hk64 hw16 hin
        have htu : ∀ W, Below w3.heap.size w3 W → RdC (· < W.heap.size) W T (bvs t) := fun W hb => hTu.step hb
        have hDl := ticketB_len key who.data.toList (num (t.take 8))
        have hd : decide (t = ticketB key who.data.toList (num (t.take 8))) = openOk key who.data.toList t := by
          unfold openOk
          by_cases hq : t = ticketB key who.data.toList (num (t.take 8))
          · rw [decide_eq_true hq, decide_eq_true ⟨hin, hq⟩]
          · rw [decide_eq_false hq, decide_eq_false fun h => hq h.2]
        have hnn : OpenC w es key who.data.toList t = fun e w' => if openOk key who.data.toList t = true then NumP w ((num (t.take 8) : Nat) : Int) e w' else NoP w (es .proof) e w' := rfl
        have hcd : Below w3.heap.size w3 w3.drew := (Below.refl _ _).drew
        have e0 : (0 : Int) ≤ ((num (t.take 8) : Nat) : Int) := by omega
        have e1 : ((num (t.take 8) : Nat) : Int) ≤ 1099511627776 := by omega
        have htl : t.length ≤ 140737488355328 := by rw [H32.out]; omega
        generalize ticketB key who.data.toList (num (t.take 8)) = D at *
        generalize num (t.take 8) = u at *
        have hdl2 : D.length ≤ 9223372036854775807 := by omega
        have KS := Lib.hid ks
        have KT := Lib.hid kt
        have HTw := Lib.hid htu
        have HNn := Lib.hid hnn
        have HD := Lib.hid hd
        clear ks kt htu hnn hd hDl hEu hKu hTu hrg hlv hin c4 c5 c6 g4
        cases hm : openOk key who.data.toList t with
        | true =>
          have HOk := Lib.hid hm
          have HM := Lib.hid (HD.out.trans hm)
          clear hm
          go_wp2_with fail
          go_region_held3 (fun W => W.cell? p = some (.slice K key.length kc) ∧ W.cell? q = some (.string who) ∧ W.cell? r = some (.slice T t.length tc) ∧ W.cell? ⟨0, 0, none⟩ = some (.iface 113 (.pointer (some (es .proof)))))
            (first | exact KS.out _ (by assumption) | exact KS.out _ (Below.refl _ _) | exact hf.elim)
            ((first
            | (go_at_call 27; refine (KT.out _ (by assumption)).mono ?_; rintro e w4 ⟨v4, rfl, hv4, hb4⟩; unfold IsRow at hv4; obtain ⟨A4, c4, rfl, _, _⟩ := own_slice hv4; have hr4 := (RdC.of_own hv4).mono (ok' := (· < w4.heap.size)) (fun _ h => h.2); have hc4 := below_on (w := w3) (by assumption) hb4)
            | (go_at_call 31; refine (alike_any w4 _ _ T A4 tc c4 t D (HTw.out _ hc4) hr4 (by omega) (by omega)).mono ?_; rintro e w5 ⟨rfl, n5, rfl⟩; have hc5 := below_on hc4 (below_drewN (Below.refl _ _) n5))
            | (go_at_call 30; rw [HM.out]; refine (need_yes _ (es .proof)).mono ?_; rintro e w6 ⟨rfl, hb6⟩; have hc6 := below_on hc5 hb6)))
          all_goals (
            have HB6 := Lib.hid (below_on HB3.out hc6)
            go_wp2_with fail
            go_ret
            rw [HNn.out]
            simp only [HOk.out, if_true]
            exact ⟨rfl, HB6.out⟩)
        | false =>
          have HOk := Lib.hid hm
          have HM := Lib.hid (HD.out.trans hm)
          clear hm
          go_wp2_with fail
          go_region_held (fun W => W.cell? p = some (.slice K key.length kc) ∧ W.cell? q = some (.string who) ∧ W.cell? r = some (.slice T t.length tc) ∧ W.cell? ⟨0, 0, none⟩ = some (.iface 113 (.pointer (some (es .proof)))))
            (first | exact KS.out _ (by assumption) | exact KS.out _ (Below.refl _ _) | exact HF.out.elim)
            ((first
            | (go_at_call 27; refine (KT.out _ (by assumption)).mono ?_; rintro e w4 ⟨v4, rfl, hv4, hb4⟩; unfold IsRow at hv4; obtain ⟨A4, c4, rfl, _, _⟩ := own_slice hv4; have hr4 := (RdC.of_own hv4).mono (ok' := (· < w4.heap.size)) (fun _ h => h.2); have hc4 := below_on (w := w3) (by assumption) hb4)
            | (go_at_call 31; refine (alike_any w4 _ _ T A4 tc c4 t D (HTw.out _ hc4) hr4 (by omega) (by omega)).mono ?_; rintro e w5 ⟨rfl, n5, rfl⟩; have hc5 := below_on hc4 (below_drewN (Below.refl _ _) n5))
            | (go_at_call 30; rw [HM.out]; refine calls_ghost ?_ (fun e _ => e = .returned (.tuple #[])) (fun HF e w' he => ?_); (· (refine (need_no _ (es .proof)).mono ?_; rintro e w6 ⟨rfl, hb6⟩; exact ⟨rfl, by rw [HNn.out]; simp only [HOk.out, Bool.false_eq_true, if_false]; exact ⟨rfl, below_on HB3.out (below_on hc5 hb6)⟩⟩)); subst he)))
          all_goals exact HF.out.elim
      · have ho : openOk key who.data.toList t = false := decide_eq_false fun h => hin h.1
        by_cases h0 : 0 ≤ linkI t 8
        · have h1 : ¬ linkI t 8 ≤ 1099511627776 := fun h => hin (hrg.1 ⟨h0, h⟩)
          have d1 : decide (0 ≤ linkI t 8) = true := decide_eq_true h0
          have d2 : decide (linkI t 8 ≤ 1099511627776) = false := decide_eq_false h1
          have HOk := Lib.hid ho
          generalize linkI t 8 = z at *
          clear hrg hin ho h0 h1
          go_wp2_with fail
          refine region_tailW 16 (by kernel_rfl) (by kernel_rfl) ?_
          simp only [List.take_succ_cons, List.take_zero, List.drop_succ_cons, List.drop_zero]
          have g5 : w3.drew.cell? ⟨0, 0, none⟩ = some (.iface 113 (.pointer (some (es .proof)))) := g4
          have HBd := Lib.hid (below_on HB3.out (Below.refl _ _).drew)
          generalize w3.drew = W at *
          clear c4 c5 c6 g4
          repeat (refine StillW.step (fun K hK => ?_); have hK2 := Lib.hid hK; clear hK; go_simp; refine hK2.out _ ?_; clear hK2 K)
          refine StillW.nil ?_
          go_wp2_with fail
          refine (need_no _ (es .proof)).mono ?_
          rintro e w4 ⟨rfl, hb4⟩
          exact ⟨rfl, by unfold OpenC; rw [if_neg (by rw [HOk.out]; simp)]; exact ⟨rfl, below_on HBd.out hb4⟩⟩
        · have d1 : decide (0 ≤ linkI t 8) = false := decide_eq_false h0
          have HOk := Lib.hid ho
          generalize linkI t 8 = z at *
          clear hrg hin ho h0
          go_wp2_with fail
          refine region_tailW 16 (by kernel_rfl) (by kernel_rfl) ?_
          simp only [List.take_succ_cons, List.take_zero, List.drop_succ_cons, List.drop_zero]
          have g5 : w3.drew.cell? ⟨0, 0, none⟩ = some (.iface 113 (.pointer (some (es .proof)))) := g4
          have HBd := Lib.hid (below_on HB3.out (Below.refl _ _).drew)
          generalize w3.drew = W at *
          clear c4 c5 c6 g4
          repeat (refine StillW.step (fun K hK => ?_); have hK2 := Lib.hid hK; clear hK; go_simp; refine hK2.out _ ?_; clear hK2 K)
          refine StillW.nil ?_
          go_wp2_with fail
          refine (need_no _ (es .proof)).mono ?_
          rintro e w4 ⟨rfl, hb4⟩
          exact ⟨rfl, by unfold OpenC; rw [if_neg (by rw [HOk.out]; simp)]; exact ⟨rfl, below_on HBd.out hb4⟩⟩
end Go.Proofs.YtnnokbipcenbgaaDoor
