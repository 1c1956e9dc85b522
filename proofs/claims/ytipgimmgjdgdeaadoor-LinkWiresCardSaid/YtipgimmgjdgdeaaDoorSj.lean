/- Walk of package scan: Split. -/
import Derived.Test.YtipgimmgjdgdeaaDoorSh
import Derived.Test.YtipgimmgjdgdeaaDoorVg
set_option linter.unusedVariables false
set_option linter.unusedSimpArgs false
set_option linter.unnecessarySimpa false
namespace Go.Proofs.YtipgimmgjdgdeaaDoor
open Go.RowKit
attribute [local go_sem] run_store_flt

def SplitP (es : Er → Addr) (w : World) (b : Bs) (e : Ending) (w' : World) : Prop :=
  Below w.heap.size w w' ∧ ∃ A c, e = .returned (.tuple #[.slice A (scanB b).1.length c, .int .i64 ((scanB b).2.1 : Nat), if (scanB b).2.2 = true then errV (es .frame) else .nilIface]) ∧ (scanB b).1.length ≤ c ∧ RdFs w' A (scanB b).1
def putLen (l : List Fr) : Nat := (l.map fun f => (putF f).length).sum
theorem putLen_flat (l : List Fr) : (l.flatMap putF).length = putLen l := by simp [putLen, List.length_flatMap]
theorem putLen_snoc (l : List Fr) (f : Fr) : putLen (l ++ [f]) = putLen l + (putF f).length := by simp [putLen]
theorem check_lens' {f : Fr} (h : checkF f = true) : f.lens := by
  obtain ⟨_, h1, h2⟩ := (check_iff f).1 h
  refine ⟨?_, ?_, ?_⟩
  · by_cases hm : 5 ∈ shapeF f.kind
    · have := ((within_iff _ _ _).1 (h1 5 hm)).2
      omega
    · have h3 : f.who = noS := h2 5 (by omega) hm
      rw [h3]
      decide
  · by_cases hm : 6 ∈ shapeF f.kind
    · have := ((within_iff _ _ _).1 (h1 6 hm)).2
      omega
    · have h3 : f.name = noS := h2 6 (by omega) hm
      rw [h3]
      decide
  · by_cases hm : 8 ∈ shapeF f.kind
    · have := bytes_le (h1 8 hm)
      omega
    · have h3 : f.bytes = [] := h2 8 (by omega) hm
      rw [h3]
      decide
set_option maxRecDepth 8000 in
set_option maxHeartbeats 6400000 in
theorem split_any (es : Er → Addr) (w : World) (B : Option Addr) (cb : Nat) (b : Bs) (hE : GEnv w es) (hR : RdC (· < w.heap.size) w B (bvs b)) (hl : b.length ≤ 100000000000) :
    Calls Tryd.prog 58 #[.slice B b.length cb] w (SplitP es w b) := by
  have HNw := Lib.hid (snew_any w)
  have HE := Lib.hid hE
  have HR := Lib.hid hR
  clear hE hR
  go_enter Tryd.func58, Tryd.ntmps58
  go_wp2_with fail
  refine HNw.out.mono ?_
  rintro e w1 ⟨rfl, hb1, hs1, hh1⟩
  have hsc : ScanAt w.heap.size w1 w.heap.size (.slice none 0 0) [] false := ⟨hh1, ⟨rfl, .inl ⟨rfl, rfl⟩⟩, Nat.le_refl _, by simp [Value.ownBlock]⟩
  have hfe := feed_any es w.heap.size w1 w.heap.size _ [] b B cb w HE.out hb1 (Nat.le_refl _) hsc (HR.out.step hb1) (by simp; omega)
  have HFe := Lib.hid hfe
  have HB1 := Lib.hid hb1
  clear hb1 hs1 hh1 hsc hfe HNw
  go_wp2_with fail
  refine HFe.out.mono ?_
  rintro e w2 ⟨L, cs, hown, hfr, hch, hres⟩
  simp only [List.nil_append] at hown hfr hres
  obtain ⟨AL, cL, rfl, hcL, _⟩ := own_slice hown
  obtain ⟨⟨fs, n, er⟩, hsb⟩ : ∃ r, r = scanB b := ⟨_, rfl⟩
  have HSb := Lib.hid hsb
  have htk := (scan_took hsb.symm).1
  obtain ⟨hput, hck⟩ := htk.puts
  have hpl : putLen fs = n := by
    rw [← putLen_flat, ← hput, List.length_take]
    have := htk.le.1
    omega
  have hnb := htk.le
  rw [← hsb] at hown hfr hres hcL
  simp only at hown hfr hres hcL
  have hev : e = .returned (.tuple #[.slice AL fs.length cL, if er = true then errV (es .frame) else .nilIface]) := by
    rcases hres with ⟨h1, h2, _⟩ | ⟨h1, h2, _⟩
    · rw [h2, h1]; rfl
    · rw [h2, h1]; rfl
  have hb2 : Below w.heap.size w w2 := HB1.out.trans (hch.below HB1.out.size (fun i hi e => by
    rcases e with rfl | e
    · exact Nat.le_refl _
    · cases e))
  have hrd : RdFs w2 AL fs := ⟨cs, (RdC.of_own hown).mono (fun k hk => hk.2), hfr.mono (fun k hk => hk.2)⟩
  have HB2 := Lib.hid hb2
  have HRd := Lib.hid hrd
  have HCk := Lib.hid hck
  have HPl := Lib.hid hpl
  subst hev
  generalize hevv : (if er = true then errV (es .frame) else .nilIface) = ev
  have HEvv := Lib.hid hevv
  clear hres hown hfr hch hsb htk hput hck hpl hb2 hrd hevv
  go_wp2_with fail
  go_loopw [8, 22] (fun nn i wr => ∃ k : Nat, k ≤ fs.length ∧ i = .int .i64 k ∧ nn = .int .i64 (putLen (fs.take k) : Nat) ∧ Below w2.heap.size w2 wr) (fun _ i _ => fs.length - (intOf i).toNat)
  case atStart => exact ⟨0, Nat.zero_le _, rfl, rfl, Below.refl _ _⟩
  case round =>
    obtain ⟨k, hk, rfl, rfl, hbel⟩ := hrel
    have HBel := Lib.hid hbel
    by_cases hlt : k < fs.length
    · obtain ⟨ad, A1, c1, rfl, hadb, hfr, hr⟩ := (HRd.out.step hbel).at k hlt
      obtain ⟨f, hf⟩ : ∃ f, f = fs[k] := ⟨_, rfl⟩
      have hckf : checkF f = true := by rw [hf]; exact HCk.out _ (List.getElem_mem hlt)
      have hpk : putLen (fs.take (k + 1)) = putLen (fs.take k) + (putF f).length := by rw [List.take_succ_eq_append_getElem hlt, putLen_snoc, ← hf]
      have hple : putLen (fs.take (k + 1)) ≤ n := by
        rw [← HPl.out]
        have h1 := putLen_flat (fs.take (k + 1) ++ fs.drop (k + 1))
        rw [List.flatMap_append, List.length_append, putLen_flat, putLen_flat, List.take_append_drop] at h1
        omega
      rw [← hf] at hfr hr
      obtain ⟨w3, hw3⟩ : ∃ W, W = wr.alloc (Obj.cells #[.int .i64 f.kind, .int .i64 f.seq, .int .i64 f.got, .int .i64 f.stream, .int .i64 f.amount, .int .i64 f.code, .string f.who, .string f.name, .float .f64 f.weight, .slice A1 f.bytes.length c1] 33) := ⟨_, rfl⟩
      have hb3 : Below wr.heap.size wr w3 := by rw [hw3]; exact below_box _ _
      have hf3 : FrC w3 wr.heap.size f A1 c1 := by rw [hw3]; exact FrC.box wr f A1 c1 _
      have hs3 : w3.heap.size = wr.heap.size + 1 := by rw [hw3]; simp
      have hput := (putF_any es f A1 c1 w3 ((HE.out.step ((HB2.out.trans (hbel.mono HB2.out.size)).trans (hb3.mono (HB2.out.trans (hbel.mono HB2.out.size)).size))).fenv) (check_lens' hckf) (hr.step hb3)).mono fun e w' h => h.ok hckf
      have hpl6 : (putF f).length ≤ 607 := by have := put_len f; have := body_len hckf; omega
      generalize (putF f).length = pl at *
      have HPut := Lib.hid hput
      have HPk := Lib.hid hpk
      have HB3 := Lib.hid hb3
      have HW3 := Lib.hid hw3.symm
      obtain ⟨a0, a1, a2, a3, a4, a5, a6, a7, a8, a9⟩ := hfr
      obtain ⟨d0, d1, d2, d3, d4, d5, d6, d7, d8, d9⟩ := hf3
      have j0 : (0 : Int) ≤ (k : Int) := by omega
      have j1 : (k : Int) < (fs.length : Int) := by omega
      have j3 : IntKind.i64.wrap ((k : Int) + 1) = (k : Int) + 1 := IntWalk.i64_in _ (by omega)
      have j4 : IntKind.i64.wrap ((putLen (fs.take k) : Int) + (pl : Int)) = (putLen (fs.take k) : Int) + (pl : Int) := IntWalk.i64_in _ (by omega)
      have hcb1 : (ad.add (k * 10)).block < wr.heap.size := by rw [add_block]; exact hadb
      have hlt3 : wr.heap.size < w3.heap.size := by omega
      clear hf hckf hpk hb3 hw3 hs3 hput hr hbel
      unfold frV at HPut
      go_wp2_with (rw [HW3.out])
      refine HPut.out.mono ?_
      rintro e w4 ⟨hb4, PA, cp, rfl, hcp, hop⟩
      have HB4 := Lib.hid ((HBel.out.trans (HB3.out.mono HBel.out.size)).trans (hb4.mono (Nat.le_trans HBel.out.size HB3.out.size)))
      clear hb4 hop a0 a1 a2 a3 a4 a5 a6 a7 a8 a9 d0 d1 d2 d3 d4 d5 d6 d7 d8 d9
      go_wp2_with fail
      go_roundw
      case rel => exact ⟨k + 1, by omega, by go_num, by rw [HPk.out]; exact congrArg (Value.int .i64) (by omega), HB4.out⟩
      case measure => simp [intOf]; omega
    · have j1 : ¬ (k : Int) < (fs.length : Int) := by omega
      have hkk : k = fs.length := by omega
      have HV := Lib.hid (show putLen (fs.take k) = n by rw [hkk, List.take_length]; exact HPl.out)
      clear hbel hkk
      go_wp2_with fail
      refine bodyPost_ret (v := .tuple #[.slice AL fs.length cL, .int .i64 (putLen (fs.take k) : Nat), ev]) (by simp [results, Tryd.results58, go_sem]) rfl ?_
      refine ⟨HB2.out.trans (HBel.out.mono HB2.out.size), AL, cL, ?_, ?_, ?_⟩
      · rw [← HSb.out, HV.out, HEvv.out]
      · rw [← HSb.out]; exact hcL
      · rw [← HSb.out]; exact HRd.out.step HBel.out
end Go.Proofs.YtipgimmgjdgdeaaDoor
