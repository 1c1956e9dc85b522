/- Walks of package proof, tenth part: Open. -/
import Derived.Test.YtnnokbipcenbgaaDoorPi
set_option linter.unusedVariables false
set_option linter.unusedSimpArgs false
set_option linter.unnecessarySimpa false
namespace Go.Proofs.YtnnokbipcenbgaaDoor
open Go.RowKit
attribute [local go_sem] run_store_flt

set_option maxRecDepth 8000 in
set_option maxHeartbeats 800000 in
theorem openC_no (es : Er → Addr) (w : World) (p q r : Addr) (K T : Option Addr) (kc tc : Nat) (key t : Bs) (who : ByteArray) (hE : PEnv w es) 
    (hp : w.cell? p = some (.slice K key.length kc)) (hpb : p.block < w.heap.size) (hq : w.cell? q = some (.string who)) (hqb : q.block < w.heap.size) (hr : w.cell? r = some (.slice T t.length tc)) (hrb : r.block < w.heap.size)
    (h : secretOk key = false ∨ whoOk who.data.toList = false) :
    Calls Tryd.prog 29 #[.agg #[], .pointer (some p), .pointer (some q), .pointer (some r)] w (NoP w (es .range)) := by
  have hb0 := below_box w (Obj.cells #[] 52)
  have HE := Lib.hid hE
  have HB0 := Lib.hid hb0
  have HP := Lib.hid hp
  have HQ := Lib.hid hq
  have HR := Lib.hid hr
  have HH := Lib.hid h
  clear hE hb0 hp hq hr h
  cases hc0 : secretOk key with
  | false =>
    have HC0 := Lib.hid hc0
    clear hc0
    have c1 := cell_on HP.out hpb HB0.out
    go_enter Tryd.func29, Tryd.ntmps29
    go_wp2_with fail
    refine (secret_no es _ K kc key (HE.out.step HB0.out) HC0.out).mono ?_
    rintro e w1 ⟨rfl, hb1⟩
    exact ⟨rfl, rfl, below_on HB0.out hb1⟩
  | true =>
    have HC0 := Lib.hid hc0
    clear hc0
    have hc1 : whoOk who.data.toList = false := (HH.out).resolve_left (by rw [HC0.out]; simp)
    have HC1 := Lib.hid hc1
    clear hc1
    have c1 := cell_on HP.out hpb HB0.out
    go_enter Tryd.func29, Tryd.ntmps29
    go_wp2_with fail
    refine (secret_yes es _ K kc key (HE.out.step HB0.out) HC0.out).mono ?_
    rintro e w1 ⟨rfl, hb1⟩
    have HB1 := Lib.hid (below_on HB0.out hb1)
    clear hb1 c1
    have c2 := cell_on HQ.out hqb HB1.out
    go_wp2_with fail
    refine (who_no es _ who (HE.out.step HB1.out) HC1.out).mono ?_
    rintro e w2 ⟨rfl, hb2⟩
    exact ⟨rfl, rfl, below_on HB1.out hb2⟩
set_option maxRecDepth 8000 in
set_option maxHeartbeats 800000 in
theorem openC_len (es : Er → Addr) (w : World) (p q r : Addr) (K T : Option Addr) (kc tc : Nat) (key t : Bs) (who : ByteArray) (hE : PEnv w es)
    (hp : w.cell? p = some (.slice K key.length kc)) (hpb : p.block < w.heap.size) (hq : w.cell? q = some (.string who)) (hqb : q.block < w.heap.size) (hr : w.cell? r = some (.slice T t.length tc)) (hrb : r.block < w.heap.size)
    (hs : secretOk key = true) (hw : whoOk who.data.toList = true) (h32 : t.length ≠ 32) :
    Calls Tryd.prog 29 #[.agg #[], .pointer (some p), .pointer (some q), .pointer (some r)] w (NoP w (es .proof)) := by
  have hb0 := below_box w (Obj.cells #[] 52)
  have c1 := cell_on hp hpb hb0
  have t32 : ((t.length : Int) == 32) = false := by rw [beq_eq_false_iff_ne]; omega
  have HE := Lib.hid hE
  have HB := Lib.hid hb0
  have HQ := Lib.hid hq
  have HR := Lib.hid hr
  have HS := Lib.hid hs
  have HW := Lib.hid hw
  clear hE hb0 hp hq hr hs hw h32
  go_enter Tryd.func29, Tryd.ntmps29
  go_wp2_with fail
  refine (secret_yes es _ K kc key (HE.out.step HB.out) HS.out).mono ?_
  rintro e w1 ⟨rfl, hb1⟩
  have HB1 := Lib.hid (below_on HB.out hb1)
  have c2 := cell_on HQ.out hqb HB1.out
  clear hb1 c1
  go_wp2_with fail
  refine (who_yes es _ who (HE.out.step HB1.out) HW.out).mono ?_
  rintro e w2 ⟨rfl, hb2⟩
  have HB2 := Lib.hid (below_on HB1.out hb2)
  clear c2 hb2
  have c3 := cell_on HR.out hrb HB2.out
  have g3 := (HE.out.step HB2.out).proof.cell
  go_wp2_with fail
  refine (need_no _ (es .proof)).mono ?_
  rintro e w3 ⟨rfl, hb3⟩
  exact ⟨rfl, rfl, below_on HB2.out hb3⟩
/-- A call that answers a number, or an error. -/
def OrErrI (w : World) (es : Er → Addr) (r : Except Er Nat) (e : Ending) (w' : World) : Prop :=
  Below w.heap.size w w' ∧ match r with
  | .ok u => e = .returned (.tuple #[.int .i64 (u : Int), .nilIface])
  | .error er => e = .returned (.tuple #[.int .i64 0, errV (es er)])
set_option maxRecDepth 8000 in
set_option maxHeartbeats 800000 in
theorem Open_any (es : Er → Addr) (w : World) (K T : Option Addr) (kc tc : Nat) (key t : Bs) (who : ByteArray) (hE : PEnv w es) (hK : RdC (· < w.heap.size) w K (bvs key)) (hkc : key.length ≤ kc) (hT : RdC (· < w.heap.size) w T (bvs t)) (htc : t.length ≤ tc) :
    Calls Tryd.prog 10 #[.slice K key.length kc, .string who, .slice T t.length tc] w (OrErrI w es (openR key who.data.toList t)) := by
  have hcf : ∀ (args : Array Value) (w : World), (callFunc 29 args).run Tryd.prog w = .ok (.enter 29 args) w := run_enter Tryd.func29 (by kernel_rfl) (by kernel_rfl)
  have hb2 := box3_below w (.slice K key.length kc) (.string who) (.slice T t.length tc) 22 9 22
  have hs2 := box3_size w (.slice K key.length kc) (.string who) (.slice T t.length tc) 22 9 22
  obtain ⟨hp, hq, hr3⟩ := box3_cells w (.slice K key.length kc) (.string who) (.slice T t.length tc) 22 9 22
  have hb3 := below_on hb2 (askWI_below _)
  have hsz := askWI_size (box3 w (.slice K key.length kc) (.string who) (.slice T t.length tc) 22 9 22)
  have hp3 := cell_on hp (by rw [hs2]; show w.heap.size < _; omega) (askWI_below _)
  have hq3 := cell_on hq (by rw [hs2]; show w.heap.size + 1 < _; omega) (askWI_below _)
  have hr4 := cell_on hr3 (by rw [hs2]; show w.heap.size + 2 < _; omega) (askWI_below _)
  have hmf := makeFunc_run
  have hE3 := hE.step hb3
  have hK3 := hK.step hb3
  have hT3 := hT.step hb3
  rw [hs2] at hsz
  have pb : (⟨w.heap.size, 0, none⟩ : Addr).block < (askWI (box3 w (.slice K key.length kc) (.string who) (.slice T t.length tc) 22 9 22)).heap.size := by rw [hsz]; show w.heap.size < _; omega
  have qb : (⟨w.heap.size + 1, 0, none⟩ : Addr).block < (askWI (box3 w (.slice K key.length kc) (.string who) (.slice T t.length tc) 22 9 22)).heap.size := by rw [hsz]; show w.heap.size + 1 < _; omega
  have rb : (⟨w.heap.size + 2, 0, none⟩ : Addr).block < (askWI (box3 w (.slice K key.length kc) (.string who) (.slice T t.length tc) 22 9 22)).heap.size := by rw [hsz]; show w.heap.size + 2 < _; omega
  have key1 : (∃ u, openR key who.data.toList t = .ok u ∧ Calls Tryd.prog 29 (#[.agg #[]] ++ #[.pointer (some ⟨w.heap.size, 0, none⟩), .pointer (some ⟨w.heap.size + 1, 0, none⟩), .pointer (some ⟨w.heap.size + 2, 0, none⟩)]) (askWI (box3 w (.slice K key.length kc) (.string who) (.slice T t.length tc) 22 9 22))
        (NumP (askWI (box3 w (.slice K key.length kc) (.string who) (.slice T t.length tc) 22 9 22)) (u : Int)))
      ∨ ∃ er, openR key who.data.toList t = .error er ∧ Calls Tryd.prog 29 (#[.agg #[]] ++ #[.pointer (some ⟨w.heap.size, 0, none⟩), .pointer (some ⟨w.heap.size + 1, 0, none⟩), .pointer (some ⟨w.heap.size + 2, 0, none⟩)]) (askWI (box3 w (.slice K key.length kc) (.string who) (.slice T t.length tc) 22 9 22))
        (NoP (askWI (box3 w (.slice K key.length kc) (.string who) (.slice T t.length tc) 22 9 22)) (es er)) := by
    by_cases hok : secretOk key = true ∧ whoOk who.data.toList = true
    · by_cases h32 : t.length = 32
      · have hc := openC_yes es _ ⟨w.heap.size, 0, none⟩ ⟨w.heap.size + 1, 0, none⟩ ⟨w.heap.size + 2, 0, none⟩ K T kc tc key t who hE3 hK3 hkc hT3 htc hp3 pb hq3 qb hr4 rb hok.1 hok.2 h32
        cases ho : openOk key who.data.toList t with
        | true =>
          have ho2 := of_decide_eq_true ho
          refine .inl ⟨num (t.take 8), by unfold openR; rw [if_pos hok, if_pos ⟨h32, ho2.1, ho2.2⟩], hc.mono fun e w' h => ?_⟩
          unfold OpenC at h
          rw [if_pos ho] at h
          exact h
        | false =>
          have ho2 := of_decide_eq_false ho
          refine .inr ⟨.proof, by unfold openR; rw [if_pos hok, if_neg fun h => ho2 ⟨h.2.1, h.2.2⟩], hc.mono fun e w' h => ?_⟩
          unfold OpenC at h
          rw [if_neg (by rw [ho]; simp)] at h
          exact h
      · exact .inr ⟨.proof, by unfold openR; rw [if_pos hok, if_neg fun h => h32 h.1], openC_len es _ ⟨w.heap.size, 0, none⟩ ⟨w.heap.size + 1, 0, none⟩ ⟨w.heap.size + 2, 0, none⟩ K T kc tc key t who hE3 hp3 pb hq3 qb hr4 rb hok.1 hok.2 h32⟩
    · refine .inr ⟨.range, by unfold openR; rw [if_neg hok], openC_no es _ ⟨w.heap.size, 0, none⟩ ⟨w.heap.size + 1, 0, none⟩ ⟨w.heap.size + 2, 0, none⟩ K T kc tc key t who hE3 hp3 pb hq3 qb hr4 rb ?_⟩
      cases h1 : secretOk key with
      | false => exact .inl rfl
      | true =>
        cases h2 : whoOk who.data.toList with
        | false => exact .inr rfl
        | true => exact absurd ⟨h1, h2⟩ hok
  rcases key1 with ⟨u, hr, hc⟩ | ⟨er, hr, hc⟩
  · have hdo := askedI_yes _ 29 #[.pointer (some ⟨w.heap.size, 0, none⟩), .pointer (some ⟨w.heap.size + 1, 0, none⟩), .pointer (some ⟨w.heap.size + 2, 0, none⟩)] (fun v _ => v = .int .i64 (u : Int)) hcf (fun v w h => ⟨_, h⟩)
      (hc.mono fun e w' h => ⟨_, h.1, rfl, h.2⟩)
    rw [hr]
    unfold box3 at hdo hb2
    have HD := Lib.hid hdo
    have HB2 := Lib.hid hb2
    clear hcf hb2 hb3 hsz hs2 hp hq hr3 hp3 hq3 hr4 hE3 hK3 hT3 hdo hr hE hK hT pb qb rb hc
    go_enter Tryd.func10, Tryd.ntmps10
    go_wp2_with fail
    refine HD.out.mono ?_
    rintro e w4 ⟨v, w3, rfl, rfl, hb4, _, _⟩
    have HB4 := Lib.hid (below_on HB2.out hb4)
    clear hb4
    go_wp2_with fail
    go_ret2
    exact ⟨HB4.out, rfl⟩
  · have hdo := askedI_no _ 29 #[.pointer (some ⟨w.heap.size, 0, none⟩), .pointer (some ⟨w.heap.size + 1, 0, none⟩), .pointer (some ⟨w.heap.size + 2, 0, none⟩)] (es er) hcf hc
    rw [hr]
    unfold box3 at hdo hb2
    have HD := Lib.hid hdo
    have HB2 := Lib.hid hb2
    clear hcf hb2 hb3 hsz hs2 hp hq hr3 hp3 hq3 hr4 hE3 hK3 hT3 hdo hr hE hK hT pb qb rb hc
    go_enter Tryd.func10, Tryd.ntmps10
    go_wp2_with fail
    refine HD.out.mono ?_
    rintro e w4 ⟨rfl, hb4⟩
    have HB4 := Lib.hid (below_on HB2.out hb4)
    clear hb4
    unfold errV
    go_wp2_with fail
    go_ret2
    exact ⟨HB4.out, rfl⟩
end Go.Proofs.YtnnokbipcenbgaaDoor
