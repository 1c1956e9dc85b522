/- Walks of package frame, sixth part: Put. -/
import Derived.Test.YtipgimmgjdgdeaaDoorVb
import Derived.Test.YtipgimmgjdgdeaaDoorHa
set_option linter.unusedVariables false
set_option linter.unusedSimpArgs false
set_option linter.unnecessarySimpa false
namespace Go.Proofs.YtipgimmgjdgdeaaDoor
open Go.RowKit
attribute [local go_sem] run_store_flt

def PutP (es : Er → Addr) (f : Fr) (w : World) (e : Ending) (w' : World) : Prop :=
  Below w.heap.size w w' ∧ match checkF f with
  | true => ∃ v', e = .returned (.tuple #[v', .nilIface]) ∧ w'.ownsRow w.heap.size 5 1 v' (putF f).length (bvs (putF f))
  | false => e = .returned (.tuple #[.slice none 0 0, errV (es .frame)])
theorem PutP.no {es : Er → Addr} {f : Fr} {w w' : World} (h : checkF f = false) (hb : Below w.heap.size w w') : PutP es f w (.returned (.tuple #[.slice none 0 0, errV (es .frame)])) w' := ⟨hb, by rw [h]⟩
theorem PutP.yes {es : Er → Addr} {f : Fr} {w w' : World} {v : Value} (h : checkF f = true) (hb : Below w.heap.size w w') (ho : w'.ownsRow w.heap.size 5 1 v (putF f).length (bvs (putF f))) : PutP es f w (.returned (.tuple #[v, .nilIface])) w' := ⟨hb, by rw [h]; exact ⟨v, rfl, ho⟩⟩
theorem box_world (w : World) (f : Fr) (A : Option Addr) (c : Nat) : ∃ W, W = w.alloc (Obj.cells (frCs f A c) 33) ∧ Below w.heap.size w W ∧ W.heap.size = w.heap.size + 1 ∧ FrC W w.heap.size f A c :=
  ⟨_, rfl, below_box _ _, by simp, FrC.box w f A c _⟩
set_option maxRecDepth 8000 in
set_option maxHeartbeats 3200000 in
theorem putF_no (es : Er → Addr) (f : Fr) (A : Option Addr) (c : Nat) (w : World) (hE : FEnv w es) (hl : f.lens) (hA : RdC (· < w.heap.size) w A (bvs f.bytes)) (hck : checkF f = false) :
    Calls Tryd.prog 62 #[frV f A c] w (PutP es f w) := by
  obtain ⟨w1, hw1, hb1, hs1, hf1⟩ := box_world w f A c
  have hch : Calls Tryd.prog 53 #[frV f A c] (w.alloc (Obj.cells (frCs f A c) 33)) (fun e w' => e = .returned (errV (es .frame)) ∧ Below w1.heap.size w1 w') := by
    rw [← hw1]
    refine (checkF_any es f A c w1 (hE.step hb1) hl (hA.step hb1)).mono fun e w' h => ⟨?_, h.2⟩
    have := h.1
    rw [if_neg (by rw [hck]; simp)] at this
    exact this
  have HCh := Lib.hid hch
  have HCk := Lib.hid hck
  have HB1 := Lib.hid hb1
  obtain ⟨c0, c1, c2, c3, c4, c5, c6, c7, c8, c9⟩ := hf1
  clear hw1 hb1 hch hck hE hA
  unfold frV at HCh
  unfold frV
  go_enter Tryd.func62, Tryd.ntmps62
  go_wp2_with fail
  refine HCh.out.mono ?_
  rintro e w2 ⟨rfl, hb2⟩
  have HB2 := Lib.hid (below_on HB1.out hb2)
  clear hb2
  unfold errV
  go_wp2_with fail
  go_ret2
  exact PutP.no HCk.out HB2.out
theorem strOf_list (b : Bs) : (strOf b).data.toList = b := by simp [strOf]
theorem strOf_size (b : Bs) : (strOf b).size = b.length := by simp [strOf, ByteArray.size]
theorem strOf_cons (x : UInt8) (b : Bs) : ((⟨#[x]⟩ : ByteArray) ++ strOf b).data.toList = x :: b := by
  rw [ByteArray.data_append]
  simp [strOf]
theorem size_append (a b : ByteArray) : (a ++ b).size = a.size + b.size := by
  show (a ++ b).data.size = a.data.size + b.data.size
  rw [ByteArray.data_append, Array.size_append]
theorem enc_front (b : Bs) (h : b.length ≤ 65535) : encode [114] [⟨0, 0, strOf b⟩] = .ok (be b.length 2 ++ b) := by
  have hc : encCell 114 ⟨0, 0, strOf b⟩ = .ok (be b.length 2 ++ b) := by
    have := enc_txt 114 (strOf b) (by decide) (by decide) (by rw [show (256 ^ width 114 - 1 : Nat) = 65535 by decide, strOf_size]; exact h)
    rw [strOf_size, strOf_list, show width 114 = 2 by decide] at this
    exact this
  unfold encode
  rw [if_neg (by rw [show known [114] = true by decide]; simp)]
  simp only [encAll, hc, Except.bind, Except.map, List.append_nil]
theorem four {l : Bs} (h : l.length = 4) : ∃ a b c d, l = [a, b, c, d] := by
  match l, h with
  | [a, b, c, d], _ => exact ⟨a, b, c, d, rfl⟩
/-- The cells that are put: the kind, the fields. -/
def putCs (f : Fr) : List Cell := ⟨f.kind, 0, noS⟩ :: cellsF f
theorem good_n (f : Fr) (x : Nat) (hx : x < 9) (hg : goodF f x = true) : (cellF f x).n ≤ 1099511627776 ∧ (cellF f x).s.size ≤ 512 := by
  match x, hx with
  | 0, _ => have h := (within_iff _ _ _).1 hg; exact ⟨h.2, by simp [cellF, noS, ByteArray.size]⟩
  | 1, _ => have h := (within_iff _ _ _).1 hg; exact ⟨h.2, by simp [cellF, noS, ByteArray.size]⟩
  | 2, _ => have h := (within_iff _ _ _).1 hg; exact ⟨by simp only [cellF]; omega, by simp [cellF, noS, ByteArray.size]⟩
  | 3, _ => have h := (within_iff _ _ _).1 hg; exact ⟨by simp only [cellF]; omega, by simp [cellF, noS, ByteArray.size]⟩
  | 4, _ => have h := (within_iff _ _ _).1 hg; exact ⟨by simp only [cellF]; omega, by simp [cellF, noS, ByteArray.size]⟩
  | 5, _ => have h := (within_iff _ _ _).1 hg; exact ⟨by simp [cellF], by simp only [cellF]; omega⟩
  | 6, _ => have h := (within_iff _ _ _).1 hg; exact ⟨by simp [cellF], by simp only [cellF]; omega⟩
  | 7, _ => exact ⟨by simp [cellF], by simp [cellF, noS, ByteArray.size]⟩
  | 8, _ => have h := bytes_le hg; exact ⟨by simp [cellF], by simp only [cellF]; rw [toArray_size]; omega⟩
theorem cost_cons (c : Cell) (cs : List Cell) : cost (c :: cs) = 8 + c.s.size + cost cs := by simp [cost]
theorem cost_le : ∀ cs : List Cell, (∀ c ∈ cs, c.s.size ≤ 512) → cost cs ≤ 520 * cs.length
  | [], _ => by simp [cost]
  | c :: cs, h => by
    have h1 := cost_le cs (fun d hd => h d (by simp [hd]))
    have h2 := h c (by simp)
    rw [cost_cons, List.length_cons]
    omega
theorem put_cost {f : Fr} (h : checkF f = true) : cost (putCs f) ≤ 140737488355328 ∧ ∀ c ∈ putCs f, c.n ≤ 9223372036854775807 := by
  obtain ⟨h1, h2, _⟩ := (check_iff f).1 h
  have hk := shape_kind h1
  have hall : ∀ c ∈ putCs f, c.n ≤ 1099511627776 ∧ c.s.size ≤ 512 := by
    intro c hc
    unfold putCs at hc
    rcases List.mem_cons.1 hc with rfl | hc
    · exact ⟨by simp only; omega, by simp [noS, ByteArray.size]⟩
    · obtain ⟨x, hx, rfl⟩ := List.mem_map.1 hc
      exact good_n f x (shape_lt _ x hx) (h2 x hx)
  have hl : (putCs f).length ≤ 4 := by
    have := layout_len f.kind
    simp [putCs, cellsF]
    simpa [layoutF] using this
  have := cost_le (putCs f) (fun c hc => (hall c hc).2)
  exact ⟨by omega, fun c hc => by have := (hall c hc).1; omega⟩
def PutRel (f : Fr) (l : List Nat) (B : Nat) (w4 : World) (v0 v i : Value) (wr : World) : Prop :=
  ∃ k : Nat, k ≤ l.length ∧ i = .int .i64 k ∧ wr.ownsRow B 121 3 v (k + 1) (((putCs f).take (k + 1)).flatMap cellVs) ∧ Grew w4 v0 wr v
set_option maxRecDepth 8000 in
set_option maxHeartbeats 6400000 in
theorem putF_yes (es : Er → Addr) (f : Fr) (A : Option Addr) (c : Nat) (w : World) (hE : FEnv w es) (hl : f.lens) (hA : RdC (· < w.heap.size) w A (bvs f.bytes)) (hck : checkF f = true) :
    Calls Tryd.prog 62 #[frV f A c] w (PutP es f w) := by
  obtain ⟨w1, hw1, hb1, hs1, hf1⟩ := box_world w f A c
  have hch : Calls Tryd.prog 53 #[frV f A c] (w.alloc (Obj.cells (frCs f A c) 33)) (fun e w' => e = .returned .nilIface ∧ Below w1.heap.size w1 w') := by
    rw [← hw1]
    refine (checkF_any es f A c w1 (hE.step hb1) hl (hA.step hb1)).mono fun e w' h => ⟨?_, h.2⟩
    have := h.1
    rw [if_pos hck] at this
    exact this
  obtain ⟨l, hlk⟩ : ∃ l, l = shapeF f.kind := ⟨_, rfl⟩
  have hnil : l ≠ [] := by rw [hlk]; exact ((check_iff f).1 hck).1
  have H9 := Lib.hid (show ∀ x ∈ l, x < 9 from by rw [hlk]; exact shape_lt f.kind)
  have hl3 : l.length ≤ 3 := by rw [hlk]; have := layout_len f.kind; simpa [layoutF] using this
  have hcs : cellsF f = l.map (cellF f) := by rw [hlk]; rfl
  have HCsl := Lib.hid (show (putCs f).length = l.length + 1 by unfold putCs; rw [List.length_cons, hcs, List.length_map])
  have HCsg := Lib.hid (show ∀ k (h : k < l.length), (putCs f).take (k + 1 + 1) = (putCs f).take (k + 1) ++ [cellF f l[k]] from fun k h => by
    unfold putCs
    rw [hcs, List.take_succ_cons, List.take_succ_cons, List.take_succ_eq_append_getElem (by simpa using h)]
    simp)
  obtain ⟨i0, hi, hz0, hz1, hz2⟩ := info_parts infoCell
  obtain ⟨j0, hj, jz0, jz1, jz2⟩ := info_parts infoU8
  have HCh := Lib.hid hch
  have HCk := Lib.hid hck
  have HB1 := Lib.hid hb1
  have HS1 := Lib.hid hs1
  have HF1 := Lib.hid hf1
  have HE := Lib.hid hE
  have HA := Lib.hid hA
  have HLn := Lib.hid hl
  have HNil := Lib.hid hnil
  have HLk := Lib.hid hlk
  obtain ⟨c0, c1, c2, c3, c4, c5, c6, c7, c8, c9⟩ := hf1
  clear hw1 hb1 hch hck hE hA hl hnil hcs hs1 hlk
  unfold frV at HCh
  unfold frV
  go_enter Tryd.func62, Tryd.ntmps62
  go_wp2_with fail
  refine HCh.out.mono ?_
  rintro e w2 ⟨rfl, hb2⟩
  have HB2 := Lib.hid (below_on HB1.out hb2)
  have hz2' : w.heap.size + 1 ≤ w2.heap.size := by rw [← HS1.out]; exact hb2.size
  have HF2 := Lib.hid (HF1.out.on (by rw [HS1.out]; omega) hb2)
  clear hb2 c0 c1 c2 c3 c4 c5 c6 c7 c8 c9
  have c0 := HF2.out.c0
  obtain ⟨w3, hw3⟩ : ∃ W, W = w2.alloc (Obj.cells (cellVs ⟨f.kind, 0, noS⟩).toArray 121) := ⟨_, rfl⟩
  have hb23 : Below w2.heap.size w2 w3 := by rw [hw3]; exact below_box _ _
  have hown3 : w3.ownsRow w.heap.size 121 3 (.slice (some ⟨w2.heap.size, 0, none⟩) 1 1) 1 (cellVs ⟨f.kind, 0, noS⟩) := by
    rw [hw3]; exact World.ownsRow_lit w2 (cellVs ⟨f.kind, 0, noS⟩).toArray 1 (by omega) (by unfold maxLen; omega) rfl
  have hs3 : w3.heap.size = w2.heap.size + 1 := by rw [hw3]; simp
  have hsh : Calls Tryd.prog 64 #[.int .i64 f.kind] (w2.alloc (Obj.cells #[.int .i64 f.kind, .float .f64 0, .string ⟨#[]⟩] 121)) (ShapeP w3 l) := by
    rw [hw3, HLk.out]; exact shape_any f.kind _
  have HS := Lib.hid hsh
  have HB23 := Lib.hid hb23
  have HOwn3 := Lib.hid hown3
  have HS3 := Lib.hid hs3
  have hc03 : (w2.alloc (Obj.cells #[.int .i64 f.kind, .float .f64 0, .string ⟨#[]⟩] 121)).cell? ⟨w.heap.size, 0, none⟩ = some (.int .i64 f.kind) := by
    have := (HF2.out.on (by omega) (below_box w2 (Obj.cells #[.int .i64 f.kind, .float .f64 0, .string ⟨#[]⟩] 121))).c0
    exact this
  clear hw3 hb23 hown3 hsh hs3
  go_wp2_with fail
  refine HS.out.mono ?_
  rintro e w4 ⟨hb4, AL, rfl, _, hn1, hRL⟩
  have hAL := hn1 HNil.out
  subst hAL
  have HB34 := Lib.hid hb4
  have HB4 := Lib.hid (below_then (below_then HB2.out (by omega) HB23.out) (by have := HB23.out.size; omega) hb4)
  have HF4 := Lib.hid ((HF2.out.on (by omega) HB23.out).on (by rw [HS3.out]; omega) hb4)
  have HRL := Lib.hid hRL
  have HOwn4 := Lib.hid (own_below HOwn3.out hb4)
  have hz4 : w2.heap.size + 1 ≤ w4.heap.size := by have := hb4.size; have := HS3.out; omega
  have HS34 := Lib.hid (show w3.heap.size = w2.heap.size + 1 from HS3.out)
  clear hb4 hn1 hRL HS c0 hc03
  go_wp2_with fail
  go_loopw [5, 25] (fun v i wr => PutRel f l w.heap.size w4 (.slice (some ⟨w2.heap.size, 0, none⟩) 1 1) v i wr) (fun _ i _ => l.length - (intOf i).toNat)
  case atStart => exact ⟨0, Nat.zero_le _, rfl, by simpa [putCs] using HOwn4.out, Grew.refl _ _⟩
  case round =>
    obtain ⟨k, hk, rfl, hown, hg⟩ := hrel
    have HG := Lib.hid hg
    have HOwn := Lib.hid hown
    have HBr := Lib.hid (hg.below HB4.out HB4.out.size (fun k hk => by have h1 : w2.heap.size = k := Option.some.inj hk; omega))
    have HFr := Lib.hid (HF4.out.move (hg.by_.block w.heap.size (by omega) (fun e => by have h1 : w.heap.size = w2.heap.size := Option.some.inj e; omega)))
    have hrl := (HRL.out.move (fun b hb => hg.by_.block b hb.2 (fun e => by have h1 : b = w2.heap.size := Option.some.inj e; have := HS34.out; have := hb.1; omega)))
    have HRLr := Lib.hid hrl
    have hzr : w4.heap.size ≤ wr.heap.size := hg.by_.size
    clear hg hown hrl
    obtain ⟨c0, c1, c2, c3, c4, c5, c6, c7, c8, c9⟩ := HFr.out
    by_cases hlt : k < l.length
    · obtain ⟨ad, had, hbk, hc⟩ := HRLr.out (by intro e; rw [List.map_eq_nil_iff] at e; rw [e] at hlt; simp at hlt)
      injection had with had
      subst had
      have hcell := hc k (natV l[k]) (by simp [hlt])
      rw [addr0] at hcell
      have hx9 := H9.out l[k] (List.getElem_mem hlt)
      have HT := Lib.hid (HCsg.out k hlt)
      clear hc
      unfold natV at hcell
      generalize l[k] = x at *
      have i0' : (0 : Int) ≤ (k : Int) := by omega
      have i1 : (k : Int) < (l.length : Int) := by omega
      have hcl := cellF_any f A c x hx9 wr ((HA.out.below HBr.out).mono (fun b hb => by have := HBr.out.size; omega))
      unfold CellRP at hcl
      generalize cellF f x = cx at *
      have HCl := Lib.hid hcl
      clear hcl
      go_wp2_with fail
      refine HCl.out.mono ?_
      rintro e w5 ⟨rfl, hb5⟩
      have HB5 := Lib.hid hb5
      have hz5 := hb5.size
      have HO5 := Lib.hid (own_below HOwn.out hb5)
      clear hb5 c0 c1 c2 c3 c4 c5 c6 c7 c8 c9
      unfold cellV
      go_wp2_with (at_builtin; refine wpList_appN w.heap.size _ _ 128 121 _ _ 3 32 rfl (by rfl) Tryd.underlying128 hi hz0 hz1 hz2 rfl (by omega) (by omega) _ (k + 1) (((putCs f).take (k + 1)).flatMap cellVs) (cellVs cx) (by rfl) w5.heap.size rfl (by rfl) HO5.out rfl (by simp [cellVs, Value.oneCell']) (by omega) (by have h0 := HBr.out.size; omega) ?_; intro v' w6 hown6 hg6)
      have HO6 := Lib.hid (show w6.ownsRow w.heap.size 121 3 v' (k + 1 + 1) (((putCs f).take (k + 1 + 1)).flatMap cellVs) by rw [HT.out, List.flatMap_append]; simpa using hown6)
      have HG6 := Lib.hid (HG.out.trans (Grew.of_below HB5.out hg6))
      clear hown6 hg6
      go_wp2_with fail
      go_roundw
      case rel => exact ⟨k + 1, by omega, by go_num, HO6.out, HG6.out⟩
      case measure => simp [intOf]; omega
    · obtain rfl : k = l.length := by omega
      have HO := Lib.hid (show wr.ownsRow w.heap.size 121 3 _ (putCs f).length ((putCs f).flatMap cellVs) by
        have h := HOwn.out
        rw [List.take_of_length_le (by rw [HCsl.out]; omega), ← HCsl.out] at h
        exact h)
      have hly := layout_any f.kind wr
      have HLy := Lib.hid hly
      clear hly HOwn
      go_wp2_with fail
      refine HLy.out.mono ?_
      rintro e w5 ⟨rfl, hb5⟩
      have HB5 := Lib.hid (below_then HBr.out (by have := HBr.out.size; omega) hb5)
      have HO5 := Lib.hid (own_below HO.out hb5)
      have HF5 := Lib.hid (HFr.out.on (by omega) hb5)
      clear hb5 c0 c1 c2 c3 c4 c5 c6 c7 c8 c9
      have hll := layout_len f.kind
      obtain ⟨L, hLd⟩ : ∃ L, L = layoutF f.kind := ⟨_, rfl⟩
      rw [← hLd] at hll ⊢
      have hsz : (strOf L).size ≤ 3 := by rw [strOf_size]; exact hll
      obtain ⟨r, hr, hrl, hbd, hen, hk1, hk17⟩ := body_ok HCk.out
      have hencl := body_len HCk.out
      obtain ⟨A5, cp5, hv5, hcp5, _⟩ := own_slice HO5.out
      subst hv5
      have hcs4 : (putCs f).length ≤ 4 := by rw [HCsl.out]; omega
      obtain ⟨hcost, hnum⟩ := put_cost HCk.out
      have hgood := ((check_iff f).1 HCk.out).2.1
      have HLd := Lib.hid hLd
      have h98 : (⟨#[98]⟩ : ByteArray).size = 1 := rfl
      have hsz2 : ((⟨#[98]⟩ : ByteArray) ++ strOf L).size ≤ maxLen := by
        unfold maxLen
        rw [size_append, h98]
        omega
      have hRd5 := (RdC.of_own HO5.out).mono (fun b hb => hb.2)
      have hEn5 : Calls Tryd.prog 72 #[.string ((⟨#[98]⟩ : ByteArray) ++ strOf L), .slice A5 (putCs f).length cp5] w5 (EncPost es w5 (.ok (bodyF f))) := by
        have h := encode_any es w5 ((⟨#[98]⟩ : ByteArray) ++ strOf L) A5 (putCs f).length cp5 (putCs f) rfl (HE.out.step HB5.out).e3 hRd5 hsz2 (by unfold maxLen; omega) hcost hnum
        have he : encode (98 :: L) (putCs f) = .ok (bodyF f) := by
          rw [hLd]
          unfold encode
          rw [if_neg]
          · exact hen
          · rintro (h | h)
            · rw [show known (98 :: layoutF f.kind) = (knownL 98 && known (layoutF f.kind)) from rfl, known_layout] at h
              exact absurd h (by decide)
            · apply h
              rw [HCsl.out, List.length_cons, HLk.out]
              simp [layoutF]
        rw [strOf_cons, he] at h
        exact h
      have HEn5 := Lib.hid hEn5
      clear hEn5 hcost hnum hRd5 hsz2 h98 hLd hr hbd hen hgood
      have HBd := Lib.hid hencl
      have hbl := hencl.2
      clear hencl
      obtain ⟨F, hF⟩ : ∃ F, F = frontF f := ⟨_, rfl⟩
      have hpf : putF f = F ++ (sha F).take 4 := by rw [hF, putF]
      have hFe : F = be (bodyF f).length 2 ++ bodyF f := by rw [hF, frontF]
      generalize bodyF f = bd at *
      have hfl : F.length = 2 + bd.length := by rw [hFe, List.length_append, be_length]
      have HFl := Lib.hid hfl
      have HFe := Lib.hid hFe
      have HPf := Lib.hid hpf
      clear hF hFe hfl hpf
      go_wp2_with fail
      refine HEn5.out.mono ?_
      rintro e w6 ⟨hb6, vb, rfl, hob⟩
      have HB6 := Lib.hid (below_then HB5.out HB5.out.size hb6)
      have HO6 := Lib.hid hob
      obtain ⟨Ab, cb, hvb, hcb, _⟩ := own_slice hob
      subst hvb
      have hcv : (convert 31 9 (.slice Ab bd.length cb)).run Tryd.prog w6 = .ok (.string (strOf bd)) w6 := run_str_of Tryd.underlying31 Tryd.underlying5 Tryd.underlying9 rfl (RdC.of_own hob)
      obtain ⟨w7, hw7⟩ : ∃ W, W = w6.alloc (Obj.cells (cellVs ⟨0, 0, strOf bd⟩).toArray 121) := ⟨_, rfl⟩
      have hb67 : Below w6.heap.size w6 w7 := by rw [hw7]; exact below_box _ _
      have hrd7 : RdC (· < w7.heap.size) w7 (some ⟨w6.heap.size, 0, none⟩) (([⟨0, 0, strOf bd⟩] : List Cell).flatMap cellVs) := by
        rw [hw7]
        exact (RdC.new w6 (cellVs ⟨0, 0, strOf bd⟩).toArray 121).mono fun b hb => by simp; omega
      have HB7 := Lib.hid (below_then HB6.out HB6.out.size hb67)
      have hEn7 : Calls Tryd.prog 72 #[.string ⟨#[114]⟩, .slice (some ⟨w6.heap.size, 0, none⟩) 1 1] (w6.alloc (Obj.cells #[.int .i64 0, .float .f64 0, .string (strOf bd)] 121)) (EncPost es w7 (.ok F)) := by
        have h := encode_any es w7 ⟨#[114]⟩ (some ⟨w6.heap.size, 0, none⟩) 1 1 [⟨0, 0, strOf bd⟩] rfl (HE.out.step HB7.out).e3 hrd7 (by decide) (by show 1 ≤ maxLen; decide) (by rw [cost_cons, strOf_size, show cost ([] : List Cell) = 0 from rfl]; omega) (by simp)
        rw [show (⟨#[114]⟩ : ByteArray).data.toList = [114] from rfl, enc_front bd (by omega), ← HFe.out] at h
        rw [hw7] at h ⊢
        exact h
      have HEn7 := Lib.hid hEn7
      clear hEn7 hrd7 hb67 hw7 hob hb6 HEn5
      go_wp2_with fail
      refine HEn7.out.mono ?_
      rintro e w8 ⟨hb8, vf, rfl, hof⟩
      have HB8 := Lib.hid (below_then HB7.out HB7.out.size hb8)
      have HO8 := Lib.hid (own_lower hof HB7.out.size)
      obtain ⟨Af, cf, hvf, hcf, _⟩ := own_slice hof
      subst hvf
      have hrf := (RdC.of_own hof).mono (fun b hb => hb.2)
      have hrw := rows_new (rows_one hrf hcf rfl)
      obtain ⟨w9, hw9⟩ : ∃ W, W = w8.alloc (Obj.cells ([.slice Af F.length cf] : List Value).toArray 31) := ⟨_, rfl⟩
      have hb89 : Below w8.heap.size w8 w9 := by rw [hw9]; exact below_box _ _
      have HB9 := Lib.hid (below_then HB8.out HB8.out.size hb89)
      have HB89 := Lib.hid hb89
      have hchk : Calls Tryd.prog 74 #[.slice (some ⟨w8.heap.size, 0, none⟩) 1 1] (w8.alloc (Obj.cells #[.slice Af F.length cf] 31)) (CheckP w9 F) := by
        rw [← hw9] at hrw
        have h := check_any w9 (some ⟨w8.heap.size, 0, none⟩) 1 [.slice Af F.length cf] [F] (HE.out.step HB9.out).round hrw.1 hrw.2 (by simp) (by simp; have := HFl.out; omega)
        rw [show [F].flatten = F by simp] at h
        rw [hw9] at h ⊢
        exact h
      have HChk := Lib.hid hchk
      clear hchk hrw hb89 hw9 hof hb8 HEn7 hrf hcv
      go_wp2_with fail
      refine HChk.out.mono ?_
      rintro e wa ⟨rfl, hba⟩
      obtain ⟨y0, y1, y2, y3, hy⟩ := four (sha4_len F)
      have HBa := Lib.hid (below_then HB9.out HB9.out.size hba)
      have HOa := Lib.hid (own_below HO8.out (HB89.out.trans (hba.mono HB89.out.size)))
      have HY := Lib.hid hy
      rw [hy]
      clear hba hy HChk
      unfold bvs bv
      simp only [List.map_cons, List.map_nil]
      have hrda : RdC (fun b => b = wa.heap.size) (wa.alloc (Obj.cells #[.int .u8 y0.toNat, .int .u8 y1.toNat, .int .u8 y2.toNat, .int .u8 y3.toNat] 131)) (some ⟨wa.heap.size, 0, none⟩) (bvs [y0, y1, y2, y3]) := RdC.new wa #[.int .u8 y0.toNat, .int .u8 y1.toNat, .int .u8 y2.toNat, .int .u8 y3.toNat] 131
      have HRda := Lib.hid hrda
      clear hrda
      have hfl := HFl.out
      have HFl2 := Lib.hid hfl
      have hf6 : F.length + 4 ≤ 1000 := by omega
      clear hfl
      go_wp2_with (at_builtin; refine wpList_appS _ w.heap.size (.tmp 62) (.tmp 63) 31 5 j0 (.int .u8 0) 1 1 rfl (by rfl) Tryd.underlying31 hj jz0 jz1 jz2 rfl (by omega) (by omega) _ F.length (bvs F) (by rfl) (HOa.out.alloc _) (some ⟨wa.heap.size, 0, none⟩) 4 4 (bvs [y0, y1, y2, y3]) (by rfl) (by rfl) HRda.out (bvs_one _) (by omega) (by have h0 := HBa.out.size; simp; omega) ?_; intro v' wb hownb hgb)
      have HBb := Lib.hid (hgb.below (HBa.out.alloc HBa.out.size _) (by have h0 := HBa.out.size; simp; omega) (own_base HOa.out))
      have HOb := Lib.hid (show wb.ownsRow w.heap.size 5 1 v' (putF f).length (bvs (putF f)) by
        rw [HPf.out, HY.out, bvs_append, List.length_append]
        exact hownb)
      clear hownb hgb
      go_wp2_with fail
      go_ret2
      exact PutP.yes HCk.out HBb.out HOb.out
/-- Put of every frame. -/
theorem putF_any (es : Er → Addr) (f : Fr) (A : Option Addr) (c : Nat) (w : World) (hE : FEnv w es) (hl : f.lens) (hA : RdC (· < w.heap.size) w A (bvs f.bytes)) :
    Calls Tryd.prog 62 #[frV f A c] w (PutP es f w) := by
  cases h : checkF f with
  | true => exact putF_yes es f A c w hE hl hA h
  | false => exact putF_no es f A c w hE hl hA h
end Go.Proofs.YtipgimmgjdgdeaaDoor
