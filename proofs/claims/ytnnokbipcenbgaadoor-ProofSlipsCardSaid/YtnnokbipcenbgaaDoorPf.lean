/- Walks of package proof, sixth part: Prove. -/
import Derived.Test.YtnnokbipcenbgaaDoorPe
set_option linter.unusedVariables false
set_option linter.unusedSimpArgs false
set_option linter.unnecessarySimpa false
namespace Go.Proofs.YtnnokbipcenbgaaDoor
open Go.RowKit
attribute [local go_sem] run_store_flt

theorem cost_two (a b : ByteArray) : cost [⟨0, 0, a⟩, ⟨0, 0, b⟩] = 8 + a.size + (8 + b.size) := by simp [cost]
theorem mk_list (b : Bs) : (⟨b.toArray⟩ : ByteArray).data.toList = b := rfl
theorem mk_size (b : Bs) : (⟨b.toArray⟩ : ByteArray).size = b.length := by simp [ByteArray.size]
theorem str_size (s : ByteArray) : s.data.toList.length = s.size := Array.length_toList
set_option maxRecDepth 8000 in
set_option maxHeartbeats 800000 in
theorem proveC_yes (es : Er → Addr) (w : World) (p q r : Addr) (K N : Option Addr) (kc nc : Nat) (key nonce : Bs) (who : ByteArray) (hE : PEnv w es) (hK : RdC (· < w.heap.size) w K (bvs key)) (hkc : key.length ≤ kc) (hN : RdC (· < w.heap.size) w N (bvs nonce))
    (hp : w.cell? p = some (.slice K key.length kc)) (hpb : p.block < w.heap.size) (hq : w.cell? q = some (.slice N nonce.length nc)) (hqb : q.block < w.heap.size) (hr : w.cell? r = some (.string who)) (hrb : r.block < w.heap.size)
    (hs : secretOk key = true) (h16 : nonce.length = 16) (hw : whoOk who.data.toList = true) :
    Calls Tryd.prog 32 #[.agg #[], .pointer (some p), .pointer (some q), .pointer (some r)] w (ArrP w 32 (proveB key nonce who.data.toList)) := by
  have hs2 := of_decide_eq_true hs
  have hw2 := of_decide_eq_true hw
  have hws := str_size who
  have henc := enc_rt ⟨nonce.toArray⟩ who (by rw [mk_size]; omega) (by omega)
  rw [mk_list, mk_size] at henc
  have hel : ((be nonce.length 2 ++ nonce) ++ (be who.size 1 ++ who.data.toList)).length ≤ 1000000 := by
    simp only [List.length_append, be_length]
    omega
  have hcl : cost [⟨0, 0, ⟨nonce.toArray⟩⟩, ⟨0, 0, who⟩] ≤ 140737488355328 := by rw [cost_two, mk_size]; omega
  have t16 : ((nonce.length : Int) == 16) = true := by rw [h16]; rfl
  have hb0 := below_box w (Obj.cells #[] 52)
  have c1 := cell_on hp hpb hb0
  unfold proveB
  rw [hws]
  have hkl : key.length ≤ 1099511627776 := by omega
  have HE := Lib.hid hE
  have HK := Lib.hid hK
  have HN := Lib.hid hN
  have HB := Lib.hid hb0
  have HP := Lib.hid hp
  have HQ := Lib.hid hq
  have HR := Lib.hid hr
  have HS := Lib.hid hs
  have HW := Lib.hid hw
  have HEn := Lib.hid henc
  have HEl := Lib.hid hel
  have HCl := Lib.hid hcl
  clear hE hK hN hb0 hp hq hr hs hw henc hel hcl hws h16 hs2 hw2
  go_enter Tryd.func32, Tryd.ntmps32
  go_wp2_with fail
  refine (secret_yes es _ K kc key (HE.out.step HB.out) HS.out).mono ?_
  rintro e w1 ⟨rfl, hb1⟩
  have HB1 := Lib.hid (below_on HB.out hb1)
  have c2 := cell_on HQ.out hqb HB1.out
  have g2 := (HE.out.step HB1.out).e3.range.cell
  clear hb1 c1
  go_wp2_with fail
  refine (need_yes _ (es .range)).mono ?_
  rintro e w2 ⟨rfl, hb2⟩
  have HB2 := Lib.hid (below_on HB1.out hb2)
  clear c2 g2 hb2
  have c3 := cell_on HR.out hrb HB2.out
  go_wp2_with fail
  refine (who_yes es _ who (HE.out.step HB2.out) HW.out).mono ?_
  rintro e w3 ⟨rfl, hb3⟩
  have HB3 := Lib.hid (below_on HB2.out hb3)
  clear c3 hb3
  have c4 := cell_on HP.out hpb HB3.out
  have c5 := cell_on HQ.out hqb HB3.out
  have c6 := cell_on HR.out hrb HB3.out
  have hcv : (convert 22 9 (.slice N nonce.length nc)).run Tryd.prog w3 = .ok (.string ⟨nonce.toArray⟩) w3 := run_str_of Tryd.underlying22 Tryd.underlying5 Tryd.underlying9 rfl (HN.out.step HB3.out)
  go_wp2_with fail
  refine (sum_new es w3 K kc key 112 112 _ [⟨0, 0, ⟨nonce.toArray⟩⟩, ⟨0, 0, who⟩] _ 2 _ rfl (HE.out.step HB3.out) (HK.out.step HB3.out) hkc hkl rfl rfl (by decide) (by simp) HCl.out (by simp) HEn.out HEl.out).mono ?_
  rintro e w4 ⟨g, rfl, hg, ha, hb4⟩
  have HA := Lib.hid ha
  have HB4 := Lib.hid (below_on HB3.out hb4)
  have HG := Lib.hid (Nat.le_trans HB3.out.size hg)
  clear ha hb4 c4 c5 c6 hcv
  go_wp2_with fail
  go_ret
  exact ⟨g, rfl, HG.out, HA.out, HB4.out⟩
set_option maxRecDepth 8000 in
set_option maxHeartbeats 800000 in
theorem proveC_no (es : Er → Addr) (w : World) (p q r : Addr) (K N : Option Addr) (kc nc : Nat) (key nonce : Bs) (who : ByteArray) (hE : PEnv w es) 
    (hp : w.cell? p = some (.slice K key.length kc)) (hpb : p.block < w.heap.size) (hq : w.cell? q = some (.slice N nonce.length nc)) (hqb : q.block < w.heap.size) (hr : w.cell? r = some (.string who)) (hrb : r.block < w.heap.size)
    (h : secretOk key = false ∨ decide (nonce.length = 16) = false ∨ whoOk who.data.toList = false) :
    Calls Tryd.prog 32 #[.agg #[], .pointer (some p), .pointer (some q), .pointer (some r)] w (NoP w (es .range)) := by
  have hb0 := below_box w (Obj.cells #[] 52)
  have HE := Lib.hid hE
  have HB0 := Lib.hid hb0
  have HP := Lib.hid hp
  have HQ := Lib.hid hq
  have HR := Lib.hid hr
  have HH := Lib.hid h
  clear hE hb0 hp hq hr h
  cases hc0 : secretOk key with
  | false =>
    have HC0 := Lib.hid hc0
    clear hc0
    have c1 := cell_on HP.out hpb HB0.out
    go_enter Tryd.func32, Tryd.ntmps32
    go_wp2_with fail
    refine (secret_no es _ K kc key (HE.out.step HB0.out) HC0.out).mono ?_
    rintro e w1 ⟨rfl, hb1⟩
    exact ⟨rfl, rfl, below_on HB0.out hb1⟩
  | true =>
    have HC0 := Lib.hid hc0
    clear hc0
    cases hc1 : decide (nonce.length = 16) with
    | false =>
      have HC1 := Lib.hid hc1
      have t1 : ((nonce.length : Int) == 16) = false := by have := of_decide_eq_false hc1; rw [beq_eq_false_iff_ne]; omega
      clear hc1
      have c1 := cell_on HP.out hpb HB0.out
      go_enter Tryd.func32, Tryd.ntmps32
      go_wp2_with fail
      refine (secret_yes es _ K kc key (HE.out.step HB0.out) HC0.out).mono ?_
      rintro e w1 ⟨rfl, hb1⟩
      have HB1 := Lib.hid (below_on HB0.out hb1)
      clear hb1 c1
      have c2 := cell_on HQ.out hqb HB1.out
      have g2 := (HE.out.step HB1.out).e3.range.cell
      go_wp2_with fail
      refine (need_no _ (es .range)).mono ?_
      rintro e w2 ⟨rfl, hb2⟩
      exact ⟨rfl, rfl, below_on HB1.out hb2⟩
    | true =>
      have HC1 := Lib.hid hc1
      have t1 : ((nonce.length : Int) == 16) = true := by have := of_decide_eq_true hc1; rw [this]; rfl
      clear hc1
      have hc2 : whoOk who.data.toList = false := ((HH.out).resolve_left (by rw [HC0.out]; simp)).resolve_left (by rw [HC1.out]; simp)
      have HC2 := Lib.hid hc2
      clear hc2
      have c1 := cell_on HP.out hpb HB0.out
      go_enter Tryd.func32, Tryd.ntmps32
      go_wp2_with fail
      refine (secret_yes es _ K kc key (HE.out.step HB0.out) HC0.out).mono ?_
      rintro e w1 ⟨rfl, hb1⟩
      have HB1 := Lib.hid (below_on HB0.out hb1)
      clear hb1 c1
      have c2 := cell_on HQ.out hqb HB1.out
      have g2 := (HE.out.step HB1.out).e3.range.cell
      go_wp2_with fail
      refine (need_yes _ (es .range)).mono ?_
      rintro e w2 ⟨rfl, hb2⟩
      have HB2 := Lib.hid (below_on HB1.out hb2)
      clear hb2 c2 g2
      have c3 := cell_on HR.out hrb HB2.out
      go_wp2_with fail
      refine (who_no es _ who (HE.out.step HB2.out) HC2.out).mono ?_
      rintro e w3 ⟨rfl, hb3⟩
      exact ⟨rfl, rfl, below_on HB2.out hb3⟩
/-- Three boxes, and the two results of asked behind them. -/
def box3 (w : World) (a b c : Value) (ta tb tc : TypeId) : World := ((w.alloc (.cells #[a] ta)).alloc (.cells #[b] tb)).alloc (.cells #[c] tc)
theorem box3_below (w : World) (a b c : Value) (ta tb tc : TypeId) : Below w.heap.size w (box3 w a b c ta tb tc) := below_on (below_on (below_box w _) (below_box _ _)) (below_box _ _)
theorem box3_size (w : World) (a b c : Value) (ta tb tc : TypeId) : (box3 w a b c ta tb tc).heap.size = w.heap.size + 3 := by simp [box3]
theorem box3_cells (w : World) (a b c : Value) (ta tb tc : TypeId) : (box3 w a b c ta tb tc).cell? ⟨w.heap.size, 0, none⟩ = some a ∧ (box3 w a b c ta tb tc).cell? ⟨w.heap.size + 1, 0, none⟩ = some b ∧ (box3 w a b c ta tb tc).cell? ⟨w.heap.size + 2, 0, none⟩ = some c := by
  refine ⟨cell_on (cell_on (box_cell w a ta) (by simp) (below_box _ (Obj.cells #[b] tb))) (by simp; omega) (below_box _ _), ?_, ?_⟩
  · have := cell_on (box_cell (w.alloc (.cells #[a] ta)) b tb) (by simp) (below_box _ (Obj.cells #[c] tc))
    simp only [size_alloc1] at this
    exact this
  · have := box_cell ((w.alloc (.cells #[a] ta)).alloc (.cells #[b] tb)) c tc
    simp only [size_alloc1] at this
    exact this
set_option maxRecDepth 8000 in
set_option maxHeartbeats 800000 in
theorem prove_any (es : Er → Addr) (w : World) (K N : Option Addr) (kc nc : Nat) (key nonce : Bs) (who : ByteArray) (hE : PEnv w es) (hK : RdC (· < w.heap.size) w K (bvs key)) (hkc : key.length ≤ kc) (hN : RdC (· < w.heap.size) w N (bvs nonce)) :
    Calls Tryd.prog 11 #[.slice K key.length kc, .slice N nonce.length nc, .string who] w (OrErr w es (proveR key nonce who.data.toList) (IsArr 32)) := by
  have hcf : ∀ (args : Array Value) (w : World), (callFunc 32 args).run Tryd.prog w = .ok (.enter 32 args) w := run_enter Tryd.func32 (by kernel_rfl) (by kernel_rfl)
  have hb2 := box3_below w (.slice K key.length kc) (.slice N nonce.length nc) (.string who) 22 22 9
  have hs2 := box3_size w (.slice K key.length kc) (.slice N nonce.length nc) (.string who) 22 22 9
  obtain ⟨hp, hq, hr3⟩ := box3_cells w (.slice K key.length kc) (.slice N nonce.length nc) (.string who) 22 22 9
  have hb3 := below_on hb2 (askWB_below _)
  have hsz := askWB_size (box3 w (.slice K key.length kc) (.slice N nonce.length nc) (.string who) 22 22 9)
  have hp3 := cell_on hp (by rw [hs2]; show w.heap.size < _; omega) (askWB_below _)
  have hq3 := cell_on hq (by rw [hs2]; show w.heap.size + 1 < _; omega) (askWB_below _)
  have hr4 := cell_on hr3 (by rw [hs2]; show w.heap.size + 2 < _; omega) (askWB_below _)
  have hmf := makeFunc_run
  have hE3 := hE.step hb3
  have hK3 := hK.step hb3
  have hN3 := hN.step hb3
  rw [hs2] at hsz
  by_cases hok : secretOk key = true ∧ nonce.length = 16 ∧ whoOk who.data.toList = true
  · have hr : proveR key nonce who.data.toList = .ok (proveB key nonce who.data.toList) := by unfold proveR; rw [if_pos hok]
    have hdo := askedB_yes _ 32 #[.pointer (some ⟨w.heap.size, 0, none⟩), .pointer (some ⟨w.heap.size + 1, 0, none⟩), .pointer (some ⟨w.heap.size + 2, 0, none⟩)] (ArrQ (w.heap.size + 5) 32 (proveB key nonce who.data.toList)) hcf (fun v w h => by obtain ⟨g, rfl, _⟩ := h; exact ⟨_, _, _, rfl⟩)
      ((proveC_yes es _ ⟨w.heap.size, 0, none⟩ ⟨w.heap.size + 1, 0, none⟩ ⟨w.heap.size + 2, 0, none⟩ K N kc nc key nonce who hE3 hK3 hkc hN3 hp3 (by rw [hsz]; show w.heap.size < _; omega) hq3 (by rw [hsz]; show w.heap.size + 1 < _; omega) hr4 (by rw [hsz]; show w.heap.size + 2 < _; omega) hok.1 hok.2.1 hok.2.2).mono fun e w' h => by have := h.q; rw [hsz] at this; rw [hsz]; exact this)
    rw [hr]
    have HDl := Lib.hid (show (proveB key nonce who.data.toList).length = 32 from keyed_len key _)
    generalize proveB key nonce who.data.toList = D at *
    unfold box3 at hdo hb2 hs2
    have HD := Lib.hid hdo
    have HB2 := Lib.hid hb2
    have HS2 := Lib.hid hs2
    clear hcf hb2 hb3 hsz hs2 hp hq hr3 hp3 hq3 hr4 hE3 hK3 hN3 hdo hr hok hE hK hN
    go_enter Tryd.func11, Tryd.ntmps11
    go_wp2_with fail
    refine HD.out.mono ?_
    rintro e w4 ⟨v, w3, rfl, ⟨g, rfl, hg, ha⟩, hb4, _, hblk⟩
    have HA := Lib.hid (ha.move (hblk g (by rw [HS2.out]; omega)))
    have HB4 := Lib.hid (below_on HB2.out hb4)
    clear ha hb4 hblk
    go_wp2_with fail
    go_ret2
    exact ⟨HB4.out, _, rfl, g, _, rfl, by omega, HA.out, HDl.out, by rw [List.take_of_length_le (by rw [HDl.out]; omega)]⟩
  · have hr : proveR key nonce who.data.toList = .error .range := by unfold proveR; rw [if_neg hok]
    have hor : secretOk key = false ∨ decide (nonce.length = 16) = false ∨ whoOk who.data.toList = false := by
      cases h1 : secretOk key with
      | false => exact .inl rfl
      | true =>
        by_cases h2 : nonce.length = 16
        · cases h3 : whoOk who.data.toList with
          | false => exact .inr (.inr rfl)
          | true => exact absurd ⟨h1, h2, h3⟩ hok
        · exact .inr (.inl (decide_eq_false h2))
    have hdo := askedB_no _ 32 #[.pointer (some ⟨w.heap.size, 0, none⟩), .pointer (some ⟨w.heap.size + 1, 0, none⟩), .pointer (some ⟨w.heap.size + 2, 0, none⟩)] (es .range) hcf
      (proveC_no es _ ⟨w.heap.size, 0, none⟩ ⟨w.heap.size + 1, 0, none⟩ ⟨w.heap.size + 2, 0, none⟩ K N kc nc key nonce who hE3 hp3 (by rw [hsz]; show w.heap.size < _; omega) hq3 (by rw [hsz]; show w.heap.size + 1 < _; omega) hr4 (by rw [hsz]; show w.heap.size + 2 < _; omega) hor)
    rw [hr]
    unfold box3 at hdo hb2
    have HD := Lib.hid hdo
    have HB2 := Lib.hid hb2
    clear hcf hb2 hb3 hsz hs2 hp hq hr3 hp3 hq3 hr4 hE3 hK3 hN3 hdo hr hok hE hK hN hor
    go_enter Tryd.func11, Tryd.ntmps11
    go_wp2_with fail
    refine HD.out.mono ?_
    rintro e w4 ⟨rfl, hb4⟩
    have HB4 := Lib.hid (below_on HB2.out hb4)
    clear hb4
    unfold errV
    go_wp2_with fail
    go_ret2
    exact ⟨HB4.out, rfl⟩
end Go.Proofs.YtnnokbipcenbgaaDoor
