/- Statements of layer 12: what they share: a link and what lies beside it; alive, long. -/
import Derived.Test.YtipgimmgjdgdeaaDoorKd
import Derived.Test.YtipgimmgjdgdeaaDoorKf
import Derived.Test.YtipgimmgjdgdeaaDoorKg
import Derived.Test.YtipgimmgjdgdeaaDoorKe
import Derived.Test.YtipgimmgjdgdeaaDoorKl
set_option linter.unusedVariables false
set_option linter.unusedSimpArgs false
set_option linter.unnecessarySimpa false
namespace Go.Proofs.YtipgimmgjdgdeaaDoor
open Go.RowKit
attribute [local go_sem] run_store_flt

/-- A link, all of whose blocks lie in D: behind B, and there already. -/
structure Own (B : Nat) (D : Nat → Prop) (w : World) (L G I : Nat) (v vw : Value) (m : Lk) : Prop where
  at_ : LinkAt D w L G I v vw m
  dom : ∀ k, D k → B ≤ k ∧ k < w.heap.size
def Fresh (D : Nat → Prop) (w : World) (k : Nat) : Prop := D k ∨ w.heap.size ≤ k
def Next (D : Nat → Prop) (w w' : World) (k : Nat) : Prop := (D k ∨ w.heap.size ≤ k) ∧ k < w'.heap.size
section
variable {B : Nat} {D DB : Nat → Prop} {w w' w0 : World} {L G I : Nat} {v vw : Value} {m m' : Lk}
theorem Own.open (s : Own B D w L G I v vw m) : LinkAt (Fresh D w) w L G I v vw m := s.at_.more (fun k _ h => .inl h)
theorem Own.fresh (s : Own B D w L G I v vw m) : ∀ k, w.heap.size ≤ k → Fresh D w k := fun k hk => .inr hk
theorem Own.low (s : Own B D w L G I v vw m) (hB : B ≤ w.heap.size) : ∀ k, Fresh D w k → B ≤ k := fun k hk => by
  rcases hk with h | h
  · exact (s.dom k h).1
  · omega
theorem Own.on (s : Own B D w L G I v vw m) (hb : Below w.heap.size w w') : Own B D w' L G I v vw m := ⟨s.at_.on hb, fun k hk => ⟨(s.dom k hk).1, Nat.lt_of_lt_of_le (s.dom k hk).2 hb.size⟩⟩
/-- .. behind a call of its own. -/
theorem Own.next (hB : B ≤ w.heap.size) (hd : ∀ k, D k → B ≤ k ∧ k < w.heap.size) (s : LinkAt (Fresh D w) w' L G I v vw m) : Own B (Next D w w') w' L G I v vw m :=
  ⟨s.more (fun k hk h => ⟨h, hk⟩), fun k hk => ⟨by rcases hk.1 with h | h; exact (hd k h).1; omega, hk.2⟩⟩
/-- .. behind a call that turns other blocks. -/
theorem Own.beside {S : Nat → Prop} (s : Own B D w L G I v vw m) (hc : Chg S w w') (hS : ∀ k, S k → ¬ D k) : Own B D w' L G I v vw m :=
  ⟨s.at_.move hc.size (fun i hi hl => hc.block i hl (fun e => hS i e hi)), fun k hk => ⟨(s.dom k hk).1, Nat.lt_of_lt_of_le (s.dom k hk).2 hc.size⟩⟩
theorem Own.sub (s : Own B D w L G I v vw m) (k : Nat) (h : LinkB L G I v vw k) : D k ∧ B ≤ k ∧ k < w.heap.size := ⟨(s.at_.inB k h).1, s.dom k (s.at_.inB k h).1⟩
theorem Own.below (s : Own B D w L G I v vw m) (hc : Chg (LinkB L G I v vw) w w') (hb : Below B w0 w) (hB : B ≤ w.heap.size) : Below B w0 w' :=
  hb.trans (hc.below hB (fun i hi e => (s.sub i e).2.1))
end
theorem Lk.fine.push {m : Lk} {f : Fr} (h : m.fine) (hm : m.o.may f = none) (hw : m.wire.length ≤ 900000000000) : (m.push f).fine := by
  refine ⟨h.o.push hm, h.got, h.told, ?_⟩
  have h1 := wireF_len (m.o.as f)
  unfold Lk.push
  split <;> simp <;> omega
theorem Lk.fine.raise {m : Lk} {n : Nat} (h : m.fine) (hn : n ≤ m.o.last) : (m.raise n).fine := by
  refine ⟨h.o.ack hn, h.got, Nat.le_refl _, ?_⟩
  have h1 := flat_wire (m.o.held.drop (n - m.o.acked))
  have h2 := h.o.few
  rw [List.length_drop] at h1
  show ((m.o.held.drop (n - m.o.acked)).flatMap wireF).length ≤ _
  omega
theorem Lk.fine.down {m : Lk} (h : m.fine) (now : Int) : (m.down now).fine := by
  unfold Lk.down
  split
  · exact ⟨h.o, h.got, h.told, by simp⟩
  · exact h
theorem Lk.fine.tell {m : Lk} (h : m.fine) (hw : m.wire.length ≤ 900000000000) : m.tell.fine := by
  unfold Lk.tell
  split
  · refine ⟨h.o, h.got, Nat.le_refl _, ?_⟩
    have h1 := wireF_len (ackOf m.got)
    simp
    omega
  · exact h
theorem Lk.fine.cut {m : Lk} (h : m.fine) (k : Nat) : ({ m with wire := m.wire.drop k } : Lk).fine := ⟨h.o, h.got, h.told, by have := h.wire; simp; omega⟩
/-- The environment of layer 12. -/
structure LEnv (w : World) (es : Er → Addr) : Prop where
  r : REnv w es
  g : GEnv w es
theorem LEnv.step {w w' : World} {es : Er → Addr} (h : LEnv w es) (hb : Below w.heap.size w w') : LEnv w' es := ⟨h.r.step hb, h.g.step hb⟩
theorem front_ack1 : frontF (ackOf 1) = [0, 9, 6, 0, 0, 0, 0, 0, 0, 0, 1] := by decide
theorem ack1_len : (putF (ackOf 1)).length = 15 := by
  unfold putF
  rw [front_ack1, List.length_append, sha4_len]
  rfl
theorem endM_check : checkF (endF 1 1) = true := by rw [end_check]; decide
theorem endM_fits : (endF 1 1).fits := by
  refine ⟨by decide, fun x hx => ?_⟩
  rcases nine hx with h | h | h | h | h | h | h | h | h <;> subst h <;> decide
theorem endM_may : (⟨[], 0⟩ : Ro).may (endF 0 1) = none := by
  have h1 : (⟨[], 0⟩ : Ro).as (endF 0 1) = endF 1 1 := rfl
  unfold Ro.may
  rw [h1, if_pos ⟨endM_check, rfl⟩, if_pos]
  have := (sizeF_in endM_check).2
  simp [Ro.bytes, sizes]
  omega
theorem endM_take : takeR 0 (endF 1 1) = .ok true := by
  unfold takeR
  rw [if_pos ⟨rfl, endM_check⟩, if_neg (by decide), if_neg (by decide)]
theorem endM_lens (s t : Int) : (endF s t).lens := ⟨by show 0 ≤ _; omega, by show 0 ≤ _; omega, by show 0 ≤ _; omega⟩
def lk0 : Lk := ⟨⟨[], 0⟩, 0, [], true, 0, 0⟩
theorem raise_new : Lk.new.raise 0 = lk0 := rfl
theorem fine0 : lk0.fine := raise_new ▸ Lk.fine.new.raise (Nat.zero_le _)
def lk1 : Lk := ⟨⟨[endF 1 1], 0⟩, 0, putF (endF 1 1), true, 0, 0⟩
theorem push_lk0 : lk0.push (endF 0 1) = lk1 := by
  have h1 : (⟨[], 0⟩ : Ro).as (endF 0 1) = endF 1 1 := rfl
  unfold Lk.push lk0 lk1
  simp only [if_true, h1, wireF_ok endM_check, List.nil_append]
  rfl
def lk2 : Lk := ⟨⟨[], 0⟩, 1, [], true, 0, 0⟩
theorem got_lk0 : ({ lk0 with got := gotR lk0.got (endF 1 1) } : Lk) = lk2 := by
  have h1 : gotR 0 (endF 1 1) = 1 := by unfold gotR; rw [endM_take]
  show ({ lk0 with got := gotR 0 (endF 1 1) } : Lk) = lk2
  rw [h1]
  rfl
theorem fine2l : lk2.fine := ⟨Ro.fine.new, by decide, by decide, by decide⟩
theorem tell_lk2 : lk2.tell.wire.length = 15 ∧ lk2.tell.got = 1 := by
  rw [Lk.tell_yes lk2 rfl (by decide)]
  refine ⟨?_, rfl⟩
  show ([] ++ wireF (ackOf 1)).length = 15
  rw [List.nil_append, wireF_ok (ackOf_check 1 (by decide)), ack1_len]
theorem scan_end : scanB (putF (endF 1 1)) = ([endF 1 1], (putF (endF 1 1)).length, false) := by
  have h := scan_puts_all [endF 1 1] (by intro f hf; rw [List.mem_singleton.1 hf]; exact ⟨endM_check, endM_fits⟩)
  simp only [List.flatMap_cons, List.flatMap_nil, List.append_nil] at h
  exact h
set_option maxRecDepth 8000 in
set_option maxHeartbeats 6400000 in
theorem alive12 (es : Er → Addr) (w : World) (hE : LEnv w es) : Calls Tryd.prog 35 #[] w (OkPost w) := by
  have HE := Lib.hid hE
  have HN1 := Lib.hid (lnew_any w)
  clear hE
  go_enter Tryd.func35, Tryd.ntmps35
  go_wp2_with fail
  refine HN1.out.mono ?_
  rintro e w1 ⟨L1, G1, I1, rfl, sa1, hb1⟩
  have HN2 := Lib.hid (lnew_any w1)
  have HSa1 := Lib.hid (show Own w.heap.size (fun k => w.heap.size ≤ k ∧ k < w1.heap.size) w1 L1 G1 I1 _ _ _ from ⟨sa1, fun k hk => hk⟩)
  have HB1 := Lib.hid hb1
  have hz1 := hb1.size
  clear sa1 hb1
  go_wp2_with fail
  refine HN2.out.mono ?_
  rintro e w2 ⟨L2, G2, I2, rfl, sb2, hb2⟩
  have hz2 := hb2.size
  have HSb2 := Lib.hid (show Own w.heap.size (fun k => w1.heap.size ≤ k ∧ k < w2.heap.size) w2 L2 G2 I2 _ _ _ from ⟨sb2, fun k hk => ⟨by omega, hk.2⟩⟩)
  have HSa2 := Lib.hid (HSa1.out.on hb2)
  have HB2 := Lib.hid (below_on HB1.out hb2)
  have hzw : w.heap.size ≤ w2.heap.size := by omega
  clear sb2 hb2
  have hup := up_any es _ w2 L1 G1 I1 _ _ _ 0 w HE.out.r HB2.out (HSa2.out.low hzw) HSa2.out.open Lk.fine.new (Nat.le_refl _) (Nat.zero_le _) HSa2.out.fresh
  rw [raise_new] at hup
  have HUp := Lib.hid (show Calls Tryd.prog 43 #[.pointer (some ⟨L1, 0, none⟩), .int .i64 0] w2 _ from hup)
  clear hup
  go_wp2_with fail
  refine HUp.out.mono ?_
  rintro e w3 ⟨rfl, va3, wa3, sa3, hch3, hbb3⟩
  have hz3 := hch3.size
  have HSa3 := Lib.hid (Own.next hzw HSa2.out.dom sa3)
  have HSb3 := Lib.hid (HSb2.out.beside hch3 (fun k hk hd => by have := (HSa2.out.sub k hk).1; omega))
  have HB3 := Lib.hid (HSa2.out.below hch3 HB2.out hzw)
  have hzw3 : w.heap.size ≤ w3.heap.size := by omega
  clear sa3 hch3 hbb3
  have hup := up_any es _ w3 L2 G2 I2 _ _ _ 0 w HE.out.r HB3.out (HSb3.out.low hzw3) HSb3.out.open Lk.fine.new (Nat.le_refl _) (Nat.zero_le _) HSb3.out.fresh
  rw [raise_new] at hup
  have HUp2 := Lib.hid (show Calls Tryd.prog 43 #[.pointer (some ⟨L2, 0, none⟩), .int .i64 0] w3 _ from hup)
  clear hup
  go_wp2_with fail
  refine HUp2.out.mono ?_
  rintro e w4 ⟨rfl, vb4, wb4, sb4, hch4, hbb4⟩
  have hz4 := hch4.size
  have HSb4 := Lib.hid (Own.next hzw3 HSb3.out.dom sb4)
  have HSa4 := Lib.hid (HSa3.out.beside hch4 (fun k hk hd => by have h1 := (HSb3.out.sub k hk).1; rcases hd.1 with h | h <;> omega))
  have HB4 := Lib.hid (HSb3.out.below hch4 HB3.out hzw3)
  have hzw4 : w.heap.size ≤ w4.heap.size := by omega
  clear sb4 hch4 hbb4
  have hse := send_any es _ w4 L1 G1 I1 _ _ lk0 (endF 0 1) none 0 w HE.out.r HB4.out (HSa4.out.low hzw4) HSa4.out.open fine0 (endM_lens _ _) (RdC.nil _ _ _) (by show 0 ≤ _; omega) HSa4.out.fresh
  have hse2 := hse.mono fun e w' h => h.ok endM_may
  rw [push_lk0] at hse2
  have HSe := Lib.hid (show Calls Tryd.prog 39 #[.pointer (some ⟨L1, 0, none⟩), .agg #[.int .i64 11, .int .i64 0, .int .i64 0, .int .i64 1, .int .i64 0, .int .i64 0, .string ⟨#[]⟩, .string ⟨#[]⟩, .float .f64 0, .slice none 0 0]] w4 _ from hse2)
  clear hse hse2
  go_wp2_with fail
  refine HSe.out.mono ?_
  rintro e w5 ⟨A5, c5, va5, wa5, rfl, sa5, hch5, hbb5, hr5⟩
  have hz5 := hch5.size
  have HSa5 := Lib.hid (Own.next hzw4 HSa4.out.dom sa5)
  have HSb5 := Lib.hid (HSb4.out.beside hch5 (fun k hk hd => by
    have h1 := (HSa4.out.sub k hk).1
    have h4 := h1.2
    rcases h1.1 with h2 | h2 <;> rcases hd.1 with h3 | h3 <;> omega))
  have HB5 := Lib.hid (HSa4.out.below hch5 HB4.out hzw4)
  have hzw5 : w.heap.size ≤ w5.heap.size := by omega
  clear sa5 hch5 hbb5 hr5
  obtain ⟨w6, hw6⟩ : ∃ W, W = w5.alloc (Obj.cells (frCs (endF 1 1) A5 c5) 33) := ⟨_, rfl⟩
  have hb6 : Below w5.heap.size w5 w6 := by rw [hw6]; exact below_box _ _
  have hz6 := hb6.size
  have HSa6 := Lib.hid (HSa5.out.on hb6)
  have HSb6 := Lib.hid (HSb5.out.on hb6)
  have HB6 := Lib.hid (below_on HB5.out hb6)
  have HW6 := Lib.hid hw6.symm
  simp only [frCs, endF, Fr.of, noS, List.length_nil] at HW6
  have hpl := sizeF_in endM_check
  unfold sizeF at hpl
  obtain ⟨P, hP⟩ : ∃ P, P = putF (endF 1 1) := ⟨_, rfl⟩
  have HPe := Lib.hid hP
  rw [← hP] at hpl
  have hwi := wire_any (Fresh _ w6) w6 L1 G1 I1 va5 wa5 lk1 1000 P.length (by show _ = min (max 1000 0) (((putF (endF 1 1)).length : Nat) : Int); rw [← hP]; omega) HSa6.out.open (by show (putF (endF 1 1)).length ≤ _; rw [← hP]; omega) HSa6.out.fresh
  have HWi := Lib.hid hwi
  clear hb6 hw6 hP hwi
  unfold frV
  rw [show lk0.o.as (endF 0 1) = endF 1 1 from rfl]
  simp only [endF, Fr.of, noS, List.length_nil]
  go_wp2_with (rw [HW6.out])
  refine HWi.out.mono ?_
  rintro e w7 ⟨A7, c7, va7, wa7, rfl, sa7, hch7, hbb7, hr7, hkc7⟩
  have hz7 := hch7.size
  have hzw6 : w.heap.size ≤ w6.heap.size := by omega
  have HSa7 := Lib.hid (Own.next hzw6 HSa6.out.dom sa7)
  have HSb7 := Lib.hid (HSb6.out.beside hch7 (fun k hk hd => by
    have h1 := (HSa6.out.sub k hk).1
    have h4 := h1.2
    rcases h1.1 with h2 | h2
    · have h5 := h2.2
      rcases h2.1 with h6 | h6 <;> rcases hd.1 with h3 | h3 <;> omega
    · have h7 := hd.2
      omega))
  have HB7 := Lib.hid (HSa6.out.below hch7 HB6.out hzw6)
  have hrp : RdC (· < w7.heap.size) w7 A7 (bvs P) := by
    have h1 := hr7.mono (ok' := (· < w7.heap.size)) (fun j hj => hj.2.1)
    have h2 : lk1.wire.take P.length = P := by rw [HPe.out]; exact List.take_length
    rwa [h2] at h1
  have hsp := split_any es w7 A7 c7 P ((HE.out.step HB7.out).g) hrp (by omega)
  have hsc : scanB P = ([endF 1 1], P.length, false) := by rw [HPe.out]; exact scan_end
  unfold SplitP at hsp
  rw [hsc] at hsp
  have HSp := Lib.hid hsp
  clear sa7 hch7 hbb7 hr7 hrp hsp hsc
  go_wp2_with fail
  refine HSp.out.mono ?_
  rintro e w8 ⟨hb8, A8, c8, rfl, hc8, hrl⟩
  have HSa8 := Lib.hid (HSa7.out.on hb8)
  have HSb8 := Lib.hid (HSb7.out.on hb8)
  have HB8 := Lib.hid (below_on HB7.out hb8)
  have hz8 := hb8.size
  have hzw8 : w.heap.size ≤ w8.heap.size := by omega
  obtain ⟨ad, A9, c9, rfl, hadb, hfr, hr9⟩ := hrl.at 0 (by simp)
  rw [show ad.add (0 * 10) = ad by unfold Addr.add; simp] at hfr
  simp only [List.getElem_cons_zero] at hfr hr9
  have htk := ltake_row es (Fresh _ w8) w8 L2 G2 I2 _ _ lk0 (endF 1 1) A9 c9 (HE.out.r.step HB8.out) HSb8.out.open fine0 (endM_lens _ _) hr9 rfl (by decide) HSb8.out.fresh
  rw [got_lk0, show lk0.got = 0 from rfl, endM_take] at htk
  have HTk := Lib.hid (show Calls Tryd.prog 38 #[.pointer (some ⟨L2, 0, none⟩), .agg #[.int .i64 11, .int .i64 1, .int .i64 0, .int .i64 1, .int .i64 0, .int .i64 0, .string ⟨#[]⟩, .string ⟨#[]⟩, .float .f64 0, .slice A9 0 c9]] w8 (fun e w' => e = .returned (.tuple #[.bool true, .nilIface]) ∧ _) from htk)
  obtain ⟨f0, f1, f2, f3, f4, f5, f6, f7, f8, f9⟩ := hfr
  simp only [endF, Fr.of, noS, List.length_nil] at f0 f1 f2 f3 f4 f5 f6 f7 f8 f9
  clear hb8 hrl hr9 htk
  simp only [List.length_singleton, List.length_cons, List.length_nil]
  go_wp2_with fail
  refine HTk.out.mono ?_
  rintro e w9 ⟨rfl, vb9, wb9, sb9, hch9, hbb9⟩
  have hz9 := hch9.size
  have HSb9 := Lib.hid (Own.next hzw8 HSb8.out.dom sb9)
  have HSa9 := Lib.hid (HSa8.out.beside hch9 (fun k hk hd => by
    have h1 := (HSb8.out.sub k hk).1
    have h4 := h1.2
    have h7 := hd.2
    have h8 : k < w7.heap.size := h7
    rcases hd.1 with h2 | h2
    · have h5 := h2.2
      rcases h2.1 with h6 | h6
      · have h9 := h6.2
        rcases h6.1 with h10 | h10 <;> rcases h1.1 with h3 | h3 <;> omega
      · omega
    · omega))
  have HB9 := Lib.hid (HSb8.out.below hch9 HB8.out hzw8)
  have hzw9 : w.heap.size ≤ w9.heap.size := by omega
  have hte := tell_any es _ w9 L2 G2 I2 _ _ lk2 w HE.out.r HB9.out (HSb9.out.low hzw9) HSb9.out.open fine2l HSb9.out.fresh
  have HTe := Lib.hid hte
  clear sb9 hch9 hbb9 hte f0 f1 f2 f3 f4 f5 f6 f7 f8 f9
  go_wp2_with fail
  refine HTe.out.mono ?_
  rintro e w10 ⟨rfl, vb10, wb10, sb10, hch10, hbb10⟩
  have HSa10 := Lib.hid (HSa9.out.beside hch10 (fun k hk hd => by
    have h1 := (HSb9.out.sub k hk).1
    have h7 := hd.2
    have h8 : k < w7.heap.size := h7
    rcases h1.1 with h0 | h0
    · have h4 := h0.2
      rcases hd.1 with h2 | h2
      · have h5 := h2.2
        rcases h2.1 with h6 | h6
        · have h9 := h6.2
          rcases h6.1 with h10 | h10 <;> rcases h0.1 with h3 | h3 <;> omega
        · omega
      · omega
    · omega))
  have HSb10 := Lib.hid sb10
  have HB10 := Lib.hid (HSb9.out.below hch10 HB9.out hzw9)
  have hpe := pending_any _ w10 L2 G2 I2 _ _ lk2.tell sb10
  rw [tell_lk2.1] at hpe
  have HPe := Lib.hid hpe
  clear sb10 hch10 hbb10 hpe
  go_wp2_with fail
  refine HPe.out.mono ?_
  rintro e w11 hv11
  obtain ⟨rfl, hb11⟩ := hv11.below
  have hgo := lgot_any _ w11 L2 G2 I2 _ _ lk2.tell (HSb10.out.on hb11)
  rw [tell_lk2.2] at hgo
  have HGo := Lib.hid hgo
  have HSa11 := Lib.hid (HSa10.out.on hb11)
  have HB11 := Lib.hid (below_on HB10.out hb11)
  clear hv11 hb11 hgo
  go_wp2_with fail
  refine HGo.out.mono ?_
  rintro e w12 hv12
  obtain ⟨rfl, hb12⟩ := hv12.below
  have sa12 := HSa11.out.at_.on hb12
  have g0 := sa12.c0
  have hla := last_any _ w12 G1 _ _ sa12.out (show (⟨[endF 1 1], 0⟩ : Ro).fine from Ro.fine.new.push endM_may)
  have HLa := Lib.hid (show Calls Tryd.prog 22 #[.pointer (some ⟨G1, 0, none⟩)] w12 (ValP w12 (.int .i64 1)) from hla)
  have HB12 := Lib.hid (below_on HB11.out hb12)
  clear hv12 hb12 sa12 hla
  go_wp2_with fail
  refine HLa.out.mono ?_
  rintro e w13 hv13
  obtain ⟨rfl, hb13⟩ := hv13.below
  go_wp2_with fail
  go_ret
  exact ⟨rfl, below_on HB12.out hb13⟩
def longL (f : Fr) : Bool := decide (2000 < f.bytes.length) || (decide (2000 < f.name.size) || decide (2000 < f.who.size))
set_option maxHeartbeats 1600000 in
theorem llong_any (f : Fr) (A : Option Addr) (c : Nat) (w : World) (hl : f.lens) : Calls Tryd.prog 37 #[frV f A c] w (BoolP (longL f) w) := by
  obtain ⟨w1, hw1, hb1, hs1, hf1⟩ := box_world w f A c
  have HB1 := Lib.hid hb1
  have HW1 := Lib.hid hw1.symm
  have h1 := hl.who
  have h2 := hl.name
  have h3 := hl.bytes
  obtain ⟨c0, c1, c2, c3, c4, c5, c6, c7, c8, c9⟩ := hf1
  have HV := Lib.hid (show longL f = (decide (2000 < f.bytes.length) || (decide (2000 < f.name.size) || decide (2000 < f.who.size))) from rfl)
  clear hw1 hb1 hs1
  unfold frV
  simp only [frCs] at HW1
  go_enter Tryd.func37, Tryd.ntmps37
  by_cases k1 : 2000 < f.bytes.length
  · have m1 : (2000 : Int) < (f.bytes.length : Int) := by omega
    have HL := Lib.hid (show longL f = true by rw [HV.out, decide_eq_true k1]; rfl)
    clear k1
    go_wp2_with (rw [HW1.out])
    go_ret
    exact ⟨by rw [HL.out]; rfl, HB1.out⟩
  · have m1 : ¬ (2000 : Int) < (f.bytes.length : Int) := by omega
    by_cases k2 : 2000 < f.name.size
    · have m2 : (2000 : Int) < (f.name.size : Int) := by omega
      have HL := Lib.hid (show longL f = true by rw [HV.out, decide_eq_true k2, decide_eq_false k1]; rfl)
      clear k1 k2
      go_wp2_with (rw [HW1.out])
      go_ret
      exact ⟨by rw [HL.out]; rfl, HB1.out⟩
    · have m2 : ¬ (2000 : Int) < (f.name.size : Int) := by omega
      by_cases k3 : 2000 < f.who.size
      · have m3 : (2000 : Int) < (f.who.size : Int) := by omega
        have HL := Lib.hid (show longL f = true by rw [HV.out, decide_eq_true k3, decide_eq_false k1, decide_eq_false k2]; rfl)
        clear k1 k2 k3
        go_wp2_with (rw [HW1.out])
        go_ret
        exact ⟨by rw [HL.out]; rfl, HB1.out⟩
      · have m3 : ¬ (2000 : Int) < (f.who.size : Int) := by omega
        have HL := Lib.hid (show longL f = false by rw [HV.out, decide_eq_false k3, decide_eq_false k1, decide_eq_false k2]; rfl)
        clear k1 k2 k3
        go_wp2_with (rw [HW1.out])
        go_ret
        exact ⟨by rw [HL.out]; rfl, HB1.out⟩
theorem longL_no {f : Fr} (h : longL f = false) : f.bytes.length ≤ 2000 := by
  unfold longL at h
  simp at h
  omega
end Go.Proofs.YtipgimmgjdgdeaaDoor
