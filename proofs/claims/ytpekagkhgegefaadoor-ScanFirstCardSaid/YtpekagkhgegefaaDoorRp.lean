/- Walk of the reference of layer 5: Put. -/
import Derived.Test.YtpekagkhgegefaaDoorRia
import Derived.Test.YtpekagkhgegefaaDoorMc
import Derived.Test.YtpekagkhgegefaaDoorRg
import Derived.Test.YtpekagkhgegefaaDoorVg
set_option linter.unusedVariables false
set_option linter.unusedSimpArgs false
set_option linter.unnecessarySimpa false
namespace Go.Proofs.YtpekagkhgegefaaDoor
open Go.RowKit

theorem TableAt.on {base : Nat} {w w' : World} {H : Nat} {va vb : Value} (h : TableAt base w H va vb) (hb : Below w.heap.size w w') : TableAt base w' H va vb :=
  ⟨(hb.block _ (Array.getElem?_eq_some_iff.1 h.head).1).trans h.head, own_below h.first hb, own_below h.round hb, h.le⟩
def RPutP (f : Fr) (w : World) (e : Ending) (w' : World) : Prop :=
  Below w.heap.size w w' ∧ match checkF f with
  | true => ∃ v', e = .returned (.tuple #[v', .bool true]) ∧ w'.ownsRow w.heap.size 5 1 v' (putF f).length (bvs (putF f))
  | false => e = .returned (.tuple #[.slice none 0 0, .bool false])
theorem RPutP.no {f : Fr} {w w' : World} (h : checkF f = false) (hb : Below w.heap.size w w') : RPutP f w (.returned (.tuple #[.slice none 0 0, .bool false])) w' := ⟨hb, by rw [h]⟩
theorem RPutP.yes {f : Fr} {w w' : World} {v : Value} (h : checkF f = true) (hb : Below w.heap.size w w') (ho : w'.ownsRow w.heap.size 5 1 v (putF f).length (bvs (putF f))) : RPutP f w (.returned (.tuple #[v, .bool true])) w' := ⟨hb, by rw [h]; exact ⟨v, rfl, ho⟩⟩
theorem RPutP.ok {f : Fr} {w : World} {e : Ending} {w' : World} (h : RPutP f w e w') (hc : checkF f = true) : Below w.heap.size w w' ∧ ∃ A c, e = .returned (.tuple #[.slice A (putF f).length c, .bool true]) ∧ (putF f).length ≤ c ∧ w'.ownsRow w.heap.size 5 1 (.slice A (putF f).length c) (putF f).length (bvs (putF f)) := by
  obtain ⟨hb, hm⟩ := h
  rw [hc] at hm
  obtain ⟨v, rfl, ho⟩ := hm
  obtain ⟨A, c, rfl, h1, _⟩ := own_slice ho
  exact ⟨hb, A, c, rfl, h1, ho⟩
theorem RPutP.er {f : Fr} {w : World} {e : Ending} {w' : World} (h : RPutP f w e w') (hc : checkF f = false) : e = .returned (.tuple #[.slice none 0 0, .bool false]) ∧ Below w.heap.size w w' := by
  obtain ⟨hb, hm⟩ := h
  rw [hc] at hm
  exact ⟨hm, hb⟩
theorem RefPost.ok {w : World} {bs : Bs} {e : Ending} {w' : World} (h : RefPost w (.ok bs) e w') : Below w.heap.size w w' ∧ ∃ A c, e = .returned (.tuple #[.slice A bs.length c, .int .i64 0]) ∧ bs.length ≤ c ∧ w'.ownsRow w.heap.size 5 1 (.slice A bs.length c) bs.length (bvs bs) := by
  obtain ⟨hb, v, rfl, ho⟩ := h
  obtain ⟨A, c, rfl, h1, _⟩ := own_slice ho
  exact ⟨hb, A, c, rfl, h1, ho⟩
theorem rcellVs_len (cs : List Cell) : (cs.flatMap rcellVs).length = cs.length * 3 := by
  induction cs with
  | nil => rfl
  | cons c cs ih => simp [rcellVs] at ih ⊢; omega
theorem rcellVs_one (cs : List Cell) (u : Value) (h : u ∈ cs.flatMap rcellVs) : u.oneCell' = true := by
  obtain ⟨c, _, hu⟩ := List.mem_flatMap.1 h
  simp only [rcellVs, List.mem_cons, List.not_mem_nil, or_false] at hu
  rcases hu with rfl | rfl | rfl <;> rfl
theorem infoRCellP : (Tryd.prog.info? 112).map (fun i => (i.zero, i.size, i.bytes)) = some (some (.agg #[.int .i64 0, .int .u64 0, .string ⟨#[]⟩]), 3, 32) := by kernel_rfl
theorem put_f {f : Fr} (hf : f.weight < 18446744073709551616) : ∀ c ∈ putCs f, c.f < 18446744073709551616 := by
  intro c hc
  unfold putCs at hc
  rcases List.mem_cons.1 hc with rfl | hc
  · show (0 : Nat) < _; omega
  · obtain ⟨x, hx, rfl⟩ := List.mem_map.1 hc
    rcases nine (shape_lt _ x hx) with h | h | h | h | h | h | h | h | h <;> subst h <;> first | (show (0 : Nat) < _; omega) | exact hf
theorem encode_put {f : Fr} (hck : checkF f = true) : encode (98 :: layoutF f.kind) (putCs f) = .ok (bodyF f) := by
  obtain ⟨r, hr, hrl, hbd, hen, hk1, hk17⟩ := body_ok hck
  unfold encode
  rw [if_neg]
  · exact hen
  · rintro (h | h)
    · rw [show known (98 :: layoutF f.kind) = (knownL 98 && known (layoutF f.kind)) from rfl, known_layout] at h
      exact absurd h (by decide)
    · apply h
      simp [putCs, cellsF, layoutF]
set_option maxRecDepth 8000 in
set_option maxHeartbeats 3200000 in
theorem rput_no (f : Fr) (A : Option Addr) (c : Nat) (w : World) (H : Value) (hl : f.lens) (hA : RdC (· < w.heap.size) w A (bvs f.bytes)) (hck : checkF f = false) :
    Calls Tryd.prog 36 #[H, frV f A c] w (RPutP f w) := by
  obtain ⟨w1, hw1, hb1, hs1, hf1⟩ := box_world w f A c
  have hch : Calls Tryd.prog 52 #[frV f A c] (w.alloc (Obj.cells (frCs f A c) 25)) (BoolP false w1) := by
    rw [← hw1, ← hck]
    exact rinform_any f A c w1 hl (hA.step hb1)
  have HCh := Lib.hid hch
  have HCk := Lib.hid hck
  have HB1 := Lib.hid hb1
  obtain ⟨c0, c1, c2, c3, c4, c5, c6, c7, c8, c9⟩ := hf1
  clear hw1 hb1 hch hck hA
  unfold frV at HCh
  unfold frV
  go_enter Tryd.func36, Tryd.ntmps36
  go_wp2_with fail
  refine HCh.out.mono ?_
  rintro e w2 ⟨rfl, hb2⟩
  have HB2 := Lib.hid (below_on HB1.out hb2)
  clear hb2 c0 c1 c2 c3 c4 c5 c6 c7 c8 c9
  go_wp2_with fail
  go_ret2
  exact RPutP.no HCk.out HB2.out
set_option maxRecDepth 8000 in
set_option maxHeartbeats 6400000 in
theorem rput_yes (f : Fr) (A : Option Addr) (c : Nat) (w : World) (H base : Nat) (va vb : Value) (hT : TableAt base w H va vb) (hl : f.lens) (hw : f.weight < 18446744073709551616) (hA : RdC (· < w.heap.size) w A (bvs f.bytes)) (hck : checkF f = true) :
    Calls Tryd.prog 36 #[.pointer (some ⟨H, 0, none⟩), frV f A c] w (RPutP f w) := by
  obtain ⟨w1, hw1, hb1, hs1, hf1⟩ := box_world w f A c
  have hch : Calls Tryd.prog 52 #[frV f A c] (w.alloc (Obj.cells (frCs f A c) 25)) (BoolP true w1) := by
    rw [← hw1, ← hck]
    exact rinform_any f A c w1 hl (hA.step hb1)
  obtain ⟨i0, hi, hz0, hz1, hz2⟩ := info_parts infoRCellP
  obtain ⟨j0, hj, jz0, jz1, jz2⟩ := info_parts infoU8
  have HCh := Lib.hid hch
  have HCk := Lib.hid hck
  have HB1 := Lib.hid hb1
  have HS1 := Lib.hid hs1
  have HF1 := Lib.hid hf1
  have HT := Lib.hid hT
  have HA := Lib.hid hA
  have HW := Lib.hid hw
  obtain ⟨c0, c1, c2, c3, c4, c5, c6, c7, c8, c9⟩ := hf1
  clear hw1 hb1 hch hck hA hT hs1 hw
  unfold frV at HCh
  unfold frV
  go_enter Tryd.func36, Tryd.ntmps36
  go_wp2_with fail
  refine HCh.out.mono ?_
  rintro e w2 ⟨rfl, hb2⟩
  have HB2 := Lib.hid (below_on HB1.out hb2)
  have HF2 := Lib.hid (HF1.out.on (by rw [HS1.out]; omega) hb2)
  have hz2' : w.heap.size + 1 ≤ w2.heap.size := by rw [← HS1.out]; exact hb2.size
  clear hb2 c0 c1 c2 c3 c4 c5 c6 c7 c8 c9 HCh
  obtain ⟨c0, c1, c2, c3, c4, c5, c6, c7, c8, c9⟩ := HF2.out
  have hce : Calls Tryd.prog 37 #[frV f A c] w2 (CellsP w2 (layoutF f.kind) (cellsF f)) := rcells_any f A c w2 (HA.out.step HB2.out)
  have HCe := Lib.hid hce
  clear hce
  unfold frV at HCe
  go_wp2_with fail
  refine HCe.out.mono ?_
  rintro e w3 ⟨hb3, B, d, rfl, hd, hd3, hrd⟩
  have HB3 := Lib.hid (below_then HB2.out (by omega) hb3)
  have hz3 : w2.heap.size ≤ w3.heap.size := hb3.size
  have HF3 := Lib.hid (HF2.out.on (by omega) hb3)
  have HRd := Lib.hid hrd
  have hcl : (cellsF f).length ≤ 3 := by have := layout_len f.kind; simpa [layoutF, cellsF] using this
  have HPl := Lib.hid (show putCs f = [⟨f.kind, 0, noS⟩] ++ cellsF f from rfl)
  have HPn := Lib.hid (show (putCs f).length = 1 + (cellsF f).length by unfold putCs; rw [List.length_cons]; omega)
  obtain ⟨hcost, hnum⟩ := put_cost HCk.out
  have HEnc := Lib.hid (encode_put HCk.out)
  have HCost := Lib.hid hcost
  have HNum := Lib.hid (fun c hc => And.intro (put_f HW.out c hc) (hnum c hc))
  have hll : (layoutF f.kind).length ≤ 3 := layout_len f.kind
  have HCs := Lib.hid (rcellVs_len (cellsF f))
  have HC1 := Lib.hid (fun u hu => rcellVs_one (cellsF f) u hu)
  generalize hcs : cellsF f = cs at *
  generalize hLL : layoutF f.kind = LL at *
  clear hcs hLL
  have hown3 : (w3.alloc (Obj.cells #[.int .i64 f.kind, .int .u64 0, .string ⟨#[]⟩] 112)).ownsRow w3.heap.size 112 3 (.slice (some ⟨w3.heap.size, 0, none⟩) 1 1) 1 (rcellVs ⟨f.kind, 0, noS⟩) :=
    World.ownsRow_lit w3 (rcellVs ⟨f.kind, 0, noS⟩).toArray 1 (by omega) (by unfold maxLen; omega) rfl
  have HOwn3 := Lib.hid hown3
  have HRd3 := Lib.hid ((HRd.out.mono (fun b hb => hb.2)).step (below_box w3 (Obj.cells #[.int .i64 f.kind, .int .u64 0, .string ⟨#[]⟩] 112)))
  clear hb3 hrd c0 c1 c2 c3 c4 c5 c6 c7 c8 c9 HCe hcost hnum hown3
  obtain ⟨c0, c1, c2, c3, c4, c5, c6, c7, c8, c9⟩ := HF3.out
  go_wp2_with (at_builtin; refine wpList_appS (ok := fun b => b < (w3.alloc (Obj.cells #[.int .i64 f.kind, .int .u64 0, .string ⟨#[]⟩] 112)).heap.size) _ w3.heap.size (.tmp 25) (.tmp 26) 67 112 i0 (.agg #[.int .i64 0, .int .u64 0, .string ⟨#[]⟩]) 3 32 rfl (by rfl) Tryd.underlying67 hi hz0 hz1 hz2 rfl (by omega) (by omega) _ 1 (rcellVs ⟨f.kind, 0, noS⟩) (by rfl) HOwn3.out B cs.length d (cs.flatMap rcellVs) (by rfl) HCs.out HRd3.out HC1.out (by omega) (by simp) ?_; intro v4 w4 hown4 hg4)
  obtain ⟨A4, d4, rfl, hd4, _⟩ := own_slice hown4
  have hb34 : Below w3.heap.size w3 w4 := hg4.below (below_box w3 _) (below_box w3 (Obj.cells #[.int .i64 f.kind, .int .u64 0, .string ⟨#[]⟩] 112)).size (own_base HOwn3.out)
  have HB4 := Lib.hid (below_then HB3.out HB3.out.size hb34)
  have hen : Calls Tryd.prog 56 #[.string ((⟨#[98]⟩ : ByteArray) ++ ⟨LL.toArray⟩), .slice A4 (1 + cs.length) d4] w4 (RefPost w4 (.ok (bodyF f))) := by
    have h := rencode_any w4 ((⟨#[98]⟩ : ByteArray) ++ ⟨LL.toArray⟩) A4 (1 + cs.length) d4 (putCs f) HPn.out.symm (by rw [HPl.out, List.flatMap_append]; exact (RdC.of_own hown4).mono (fun b hb => hb.2)) (by rw [size_append]; simp [ByteArray.size, maxLen]; omega) (by rw [HPn.out]; unfold maxLen; omega) HCost.out HNum.out
    rw [show (((⟨#[98]⟩ : ByteArray) ++ ⟨LL.toArray⟩).data.toList) = 98 :: LL from strOf_cons 98 LL, HEnc.out] at h
    exact h
  have HEn := Lib.hid (hen.mono fun e w' h => h.ok)
  have hbl := body_len HCk.out
  obtain ⟨F, hF⟩ : ∃ F, F = frontF f := ⟨_, rfl⟩
  have hpf : putF f = F ++ (sha F).take 4 := by rw [hF, putF]
  have hFe : F = be (bodyF f).length 2 ++ bodyF f := by rw [hF, frontF]
  clear hF
  generalize bodyF f = bd at *
  have HFe := Lib.hid hFe
  have HPf := Lib.hid hpf
  have hfl : F.length = 2 + bd.length := by rw [hFe, List.length_append, be_length]
  have HFl := Lib.hid hfl
  clear hown4 hg4 hen hb34 hFe hpf HEnc HCost HNum HPl HPn HRd3 HOwn3 HC1 HCs hfl
  refine HEn.out.mono ?_
  rintro e w5 ⟨hb5, A5, d5, rfl, hd5, ho5⟩
  have HB5 := Lib.hid (below_then HB4.out HB4.out.size hb5)
  have HRd5 := Lib.hid (RdC.of_own ho5)
  have hz5 : w4.heap.size ≤ w5.heap.size := hb5.size
  have hu : bd.length < 18446744073709551616 := by omega
  have hnm := (number_w bd.length 2 (by omega) hu w5)
  have HNm := Lib.hid hnm
  clear hb5 ho5 HEn hnm c0 c1 c2 c3 c4 c5 c6 c7 c8 c9
  go_wp2_with fail
  refine HNm.out.mono ?_
  rintro e w6 ⟨hb6, v6, rfl, ho6⟩
  rw [be_length] at ho6
  have HB6 := Lib.hid (below_then HB5.out HB5.out.size hb6)
  have HO6 := Lib.hid ho6
  have HRd6 := Lib.hid ((HRd5.out.mono (fun b hb => hb.2)).step hb6)
  have hz6 : w5.heap.size ≤ w6.heap.size := hb6.size
  clear hb6 ho6 HNm hu
  go_wp2_with (at_builtin; refine wpList_appS (ok := fun b => b < w6.heap.size) _ w5.heap.size (.tmp 34) (.tmp 35) 23 5 j0 (.int .u8 0) 1 1 rfl (by rfl) Tryd.underlying23 hj jz0 jz1 jz2 rfl (by omega) (by omega) _ 2 (bvs (be bd.length 2)) (by rfl) HO6.out A5 bd.length d5 (bvs bd) (by rfl) (by simp) HRd6.out (bvs_one _) (by omega) hz6 ?_; intro v7 w7 ho7 hg7)
  have hb57 := hg7.below HB6.out HB6.out.size (fun k hk => Nat.le_trans HB5.out.size (own_base HO6.out k hk))
  have HB7 := Lib.hid hb57
  have ho7' : w7.ownsRow w5.heap.size 5 1 v7 F.length (bvs F) := by
    rw [HFl.out, HFe.out, bvs_append]
    exact ho7
  obtain ⟨A7, d7, rfl, hd7, _⟩ := own_slice ho7'
  have HO7 := Lib.hid (own_lower ho7' HB5.out.size)
  have hdg := rdigest_any w7 H va vb base A7 d7 F (HT.out.on HB7.out) ((RdC.of_own ho7').mono (fun b hb => hb.2)) (by have := HFl.out; omega)
  have HDg := Lib.hid hdg
  have hz7 : w.heap.size ≤ w7.heap.size := HB7.out.size
  clear ho7 hg7 hb57 ho7' hdg HRd6 HRd5
  refine HDg.out.mono ?_
  rintro e w8 ⟨v8, rfl, ho8, hb8⟩
  obtain ⟨A8, d8, rfl, hd8, _⟩ := own_slice ho8
  have HB8 := Lib.hid (below_then HB7.out HB7.out.size hb8)
  have HO8 := Lib.hid (own_below HO7.out hb8)
  have h4 : (bvs ((sha F).take 4)).length = 4 * 1 := by rw [bvs_length, sha4_len]
  have HRd8 := Lib.hid (show RdC (· < w8.heap.size) w8 A8 (bvs ((sha F).take 4)) by rw [bvs_take]; exact ((RdC.of_own ho8).take 4).mono (fun b hb => hb.2))
  have H4 := Lib.hid h4
  have hz8 : w.heap.size ≤ w8.heap.size := HB8.out.size
  have hq8 : (4 : Int) ≤ (d8 : Int) := by omega
  have HFl2 := Lib.hid HFl.out
  have hf6 : F.length + 4 ≤ 1000 := by have := HFl.out; omega
  clear ho8 hb8 HDg h4
  go_wp2_with (at_builtin; refine wpList_appS (ok := fun b => b < w8.heap.size) _ w.heap.size (.tmp 37) (.tmp 41) 23 5 j0 (.int .u8 0) 1 1 rfl (by rfl) Tryd.underlying23 hj jz0 jz1 jz2 rfl (by omega) (by omega) _ F.length (bvs F) (by rfl) HO8.out A8 4 d8 (bvs ((sha F).take 4)) (by rfl) H4.out HRd8.out (bvs_one _) (by omega) hz8 ?_; intro v9 w9 ho9 hg9)
  have HB9 := Lib.hid (hg9.below HB8.out HB8.out.size (own_base HO8.out))
  have HO9 := Lib.hid (show w9.ownsRow w.heap.size 5 1 v9 (putF f).length (bvs (putF f)) by
    rw [HPf.out, bvs_append, List.length_append, sha4_len]
    exact ho9)
  clear ho9 hg9
  go_wp2_with fail
  go_ret2
  exact RPutP.yes HCk.out HB9.out HO9.out
/-- The reference's Put of every frame. -/
theorem rput_any (f : Fr) (A : Option Addr) (c : Nat) (w : World) (H base : Nat) (va vb : Value) (hT : TableAt base w H va vb) (hl : f.lens) (hw : f.weight < 18446744073709551616) (hA : RdC (· < w.heap.size) w A (bvs f.bytes)) :
    Calls Tryd.prog 36 #[.pointer (some ⟨H, 0, none⟩), frV f A c] w (RPutP f w) := by
  cases h : checkF f with
  | true => exact rput_yes f A c w H base va vb hT hl hw hA h
  | false => exact rput_no f A c w _ hl hA h
end Go.Proofs.YtpekagkhgegefaaDoor
