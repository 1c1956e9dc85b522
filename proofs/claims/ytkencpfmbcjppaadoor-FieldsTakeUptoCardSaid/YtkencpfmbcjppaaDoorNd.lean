/- plain; FieldsMake's walk. -/
import Derived.Test.YtkencpfmbcjppaaDoorNc
set_option linter.unusedVariables false
set_option linter.unusedSimpArgs false
set_option linter.unnecessarySimpa false
namespace Go.Proofs.YtkencpfmbcjppaaDoor
open Go.RowKit
attribute [local go_sem] run_store_flt cellV errV

theorem step_f64bits {w : World} {ops : Array Oper} {o : Oper} {a : Act} {K : Act → World → Prop} {Q : Exit → Act → World → Prop} {E : Prop} (x : Operand) (ty : TypeId) (b : Nat) (hgd : o.guard = none)
    (ho : o.op = .call { callee := .value (.func 14), args := #[x], argTypes := #[ty] }) (hx : a.eval x = .float .f64 b) (h : K (a.put o.dst (.int .u64 b)) w) :
    if Region.wanted o (yielded ops a.tmps) = true then Oper.wp Tryd.prog o a w K Q else E := by
  rw [if_pos (by simp [Region.wanted, hgd])]
  have hf : a.eval (.func 14) = .func (.func 14) #[] #[] := rfl
  unfold Oper.wp execOp
  simp [ho, resolve, invoke, Sem.run_bind, Sem.run_pure, Result.andThen_ok, hx, hf, Deferred.ofValue, run_f64bits]
  exact h
theorem infoRCell : (Tryd.prog.info? 66).map (fun i => (i.zero, i.size, i.bytes)) = some (some (.agg #[.int .i64 0, .int .u64 0, .string ⟨#[]⟩]), 3, 32) := by kernel_rfl
def PlainPost (w : World) (cells : List Cell) (e : Ending) (w' : World) : Prop :=
  Below w.heap.size w w' ∧ ∃ v', e = .returned v' ∧ w'.ownsRow w.heap.size 66 3 v' cells.length (cells.flatMap rcellVs)
set_option maxHeartbeats 1000000 in
theorem plain_any (w : World) (A : Option Addr) (n cap : Nat) (cells : List Cell) (hn : n = cells.length) (hR : RdC (· < w.heap.size) w A (cells.flatMap cellVs)) (hcl : cells.length ≤ 4000000000000) :
    Calls Tryd.prog 18 #[.slice A n cap] w (PlainPost w cells) := by
  subst hn
  obtain ⟨t0, hi, hz0, hz1, hz2⟩ := info_parts infoRCell
  have hfb := run_f64bits
  go_enter Tryd.func18, Tryd.ntmps18
  go_wp2_with fail
  have hz := World.ownsRow_lit (base := w.heap.size) (e := 66) (size := 3) w #[] 0 (Nat.le_refl _) (by simp [maxLen]) (by simp)
  have HZ := Lib.hid hz
  have hA : Below w.heap.size w (w.alloc (.cells #[] 66)) := (Below.refl _ _).alloc (Nat.le_refl _) _
  have HAl := Lib.hid hA
  clear hz hA
  generalize w.alloc (.cells #[] 66) = w0 at *
  go_loopw [3, 9] (fun b i wr => ∃ (k : Nat), k ≤ cells.length ∧ i = .int .i64 k ∧ wr.ownsRow w.heap.size 66 3 b k ((cells.take k).flatMap rcellVs) ∧ Below w.heap.size w wr) (fun _ i _ => cells.length - (intOf i).toNat)
  case atStart => exact ⟨0, Nat.zero_le _, rfl, by simpa using HZ.out, HAl.out⟩
  case round =>
    obtain ⟨k, hk1, rfl, hown, hbel⟩ := hrel
    by_cases hlt : k < cells.length
    · obtain ⟨ad, rfl, hadb, h0, h1, h2⟩ := cells_at hR k hlt
      have htk : cells.take (k + 1) = cells.take k ++ [cells[k]] := List.take_succ_eq_append_getElem hlt
      generalize hck : cells[k] = c at h0 h1 h2 htk
      have HT := Lib.hid htk
      have hz := hbel.size
      have g0 := (hbel.cell (p := ad.add (k * 3)) (by rw [add_block]; exact hadb)).trans h0
      have g1 := (hbel.cell (p := ⟨(ad.add (k * 3)).block, (ad.add (k * 3)).off + 1, none⟩) (by show (ad.add (k * 3)).block < _; rw [add_block]; exact hadb)).trans h1
      have g2 := (hbel.cell (p := ⟨(ad.add (k * 3)).block, (ad.add (k * 3)).off + 2, none⟩) (by show (ad.add (k * 3)).block < _; rw [add_block]; exact hadb)).trans h2
      have hcb : (ad.add (k * 3)).block < wr.heap.size := by rw [add_block]; omega
      clear h0 h1 h2 hck htk
      have j0 : (0 : Int) ≤ (k : Int) := by omega
      have j1 : (k : Int) < (cells.length : Int) := by omega
      have j2 : IntKind.i64.wrap ((k : Int) + 1) = (k : Int) + 1 := IntWalk.i64_in _ (by omega)
      have hnb := own_lt hown
      have hbx : Below wr.heap.size wr (wr.alloc (.cells #[.int .i64 c.n, .float .f64 c.f, .string c.s] 33)) := (Below.refl _ _).alloc (Nat.le_refl _) _
      have HBel := Lib.hid hbel
      have HOwn := Lib.hid hown
      have HBx := Lib.hid hbx
      clear hbel hown hbx
      obtain ⟨cn, cf, cs⟩ := c
      simp only at *
      have hbx2 : Below wr.heap.size wr (((wr.alloc (.cells #[.int .i64 cn, .float .f64 cf, .string cs] 33)).alloc (.cells #[.int .i64 cn, .int .u64 cf, .string cs] 66)).drew) := (HBx.out.alloc HBx.out.size _).drew
      have hrn : RdC (· = wr.heap.size + 1) (((wr.alloc (.cells #[.int .i64 cn, .float .f64 cf, .string cs] 33)).alloc (.cells #[.int .i64 cn, .int .u64 cf, .string cs] 66)).drew) (some ⟨wr.heap.size + 1, 0, none⟩) (rcellVs ⟨cn, cf, cs⟩) := by
        have := RdC.new (wr.alloc (.cells #[.int .i64 cn, .float .f64 cf, .string cs] 33)) #[.int .i64 cn, .int .u64 cf, .string cs] 66
        simp only [World.size_alloc] at this
        exact this
      have HBx2 := Lib.hid hbx2
      have HRn := Lib.hid hrn
      clear hbx2 hrn
      go_wp2_with fail
      go_region_held3 (fun w' => w'.cell? ⟨wr.heap.size, 0, none⟩ = some (.int .i64 cn) ∧ w'.cell? ⟨wr.heap.size, 1, none⟩ = some (.float .f64 cf) ∧ w'.cell? ⟨wr.heap.size, 2, none⟩ = some (.string cs))
        (first
          | go_keep
          | exact ⟨hg3.cell (by simp) hnb, hg3.cell (by simp) hnb, hg3.cell (by simp) hnb⟩)
        (first
          | (refine step_f64bits _ _ cf (by rfl) (by rfl) (by rfl) ?_)
          | (refine step_appS _ w.heap.size _ _ 45 66 t0 (.agg #[.int .i64 0, .int .u64 0, .string ⟨#[]⟩]) 3 32 (by rfl) (by rfl) Tryd.underlying45 hi hz0 hz1 hz2 rfl (by omega) (by omega) _ k _ (by rfl) (own_below HOwn.out HBx2.out) (some ⟨wr.heap.size + 1, 0, none⟩) 1 1 (rcellVs ⟨cn, cf, cs⟩) (by rfl) (by rfl)
              HRn.out (by simp [rcellVs, Value.oneCell']) (by omega) (by have := HBx2.out.size; omega) ?_; intro v3 w3 hown3 hg3))
      have hbel2 : Below w.heap.size w w3 := hg3.below (below_then HBel.out hz HBx2.out) (by have := HBx2.out.size; omega) (own_base HOwn.out)
      have HO3 := Lib.hid hown3
      clear hg3 hown3
      go_wp2
      go_roundw
      case rel => exact ⟨k + 1, by omega, by go_num, by rw [HT.out, List.flatMap_append]; simpa using HO3.out, hbel2⟩
      case measure => simp [intOf]; omega
    · go_wp2
      go_ret
      refine ⟨hbel, _, rfl, ?_⟩
      rw [List.take_of_length_le (by omega), show k = cells.length by omega] at hown
      exact hown

/-- What a call of Encode answers, as the reference tells it. -/
def wants (r : Except Er Bs) : Bs := match r with | .ok bs => bs | .error _ => []
set_option maxRecDepth 4000 in
set_option maxHeartbeats 1000000 in
theorem make_walk (es : Er → Addr) (w : World) (s : ByteArray) (A : Option Addr) (n c : Nat) (cells : List Cell) (hE : E18 w.heap.size w es) (hs : s.size ≤ 2000000) (hn : n = cells.length) (hcl : cells.length ≤ 2000000)
    (hcost : cost cells ≤ 100000000) (hnum : ∀ c ∈ cells, c.f < 18446744073709551616 ∧ c.n ≤ 9223372036854775807) (hR : RdC (· < w.heap.size) w A (cells.flatMap cellVs)) :
    Calls Tryd.prog 6 #[.string s, .slice A n c] w (OkPost w) := by
  subst hn
  have HM := Lib.hid hnum
  clear hnum
  go_enter Tryd.func6, Tryd.ntmps6
  go_wp2_with fail
  refine (alive_any es w hE.five).mono ?_
  rintro e w0 ⟨rfl, hb0⟩
  have HE0 := Lib.hid (hE.step hb0)
  have HB0 := Lib.hid hb0
  have HR0 := Lib.hid (hR.step hb0)
  clear hb0 hE hR
  cases hr : encode s.data.toList cells with
  | ok bs =>
    have H1 := Lib.hid hr
    clear hr
    go_wp2_with fail
    have hen := encode_any es w0 s A cells.length c cells rfl HE0.out.five HR0.out (by unfold maxLen; omega) (by unfold maxLen; omega) (by omega) (fun c hc => (HM.out c hc).2)
    rw [H1.out] at hen
    refine hen.mono ?_
    rintro e w1 ⟨hb1, v1, rfl, hown1⟩
    obtain ⟨A1, c1, rfl, hc1, _⟩ := own_slice hown1
    have HE1 := Lib.hid (HE0.out.step hb1)
    have HB1 := Lib.hid (show Below w.heap.size w w1 from HB0.out.trans (hb1.mono HB0.out.size))
    have HR1 := Lib.hid (HR0.out.step hb1)
    have HO1 := Lib.hid hown1
    have hsz := size_any es w1 s A cells.length c cells rfl HE1.out.five HR1.out (by unfold maxLen; omega) (by unfold maxLen; omega) (by omega) (fun c hc => (HM.out c hc).2)
    rw [H1.out] at hsz
    have HSz := Lib.hid hsz
    clear hb1 hen hown1 hsz HE0 HB0 HR0
    go_wp2_with fail
    refine HSz.out.mono ?_
    rintro e w2 ⟨hb2, rfl⟩
    have HE2 := Lib.hid (HE1.out.step hb2)
    have HB2 := Lib.hid (show Below w.heap.size w w2 from HB1.out.trans (hb2.mono HB1.out.size))
    have HR2 := Lib.hid (HR1.out.step hb2)
    have HO2 := Lib.hid (own_below HO1.out hb2)
    have HPl := Lib.hid (plain_any w2 A cells.length c cells rfl HR2.out (by omega))
    clear hb2 HE1 HB1 HR1 HSz HO1
    go_wp2_with fail
    refine HPl.out.mono ?_
    rintro e w3 ⟨hb3, v3, rfl, hown3⟩
    obtain ⟨A3, c3, rfl, hc3, _⟩ := own_slice hown3
    have HE3 := Lib.hid (HE2.out.step hb3)
    have HB3 := Lib.hid (show Below w.heap.size w w3 from HB2.out.trans (hb3.mono HB2.out.size))
    have HO3 := Lib.hid (own_below HO2.out hb3)
    have hrd3 : RdC (· < w3.heap.size) w3 A3 (cells.flatMap rcellVs) := (RdC.of_own hown3).mono (fun _ h => h.2)
    have hre := rencode_any w3 s A3 cells.length c3 cells rfl hrd3 (by unfold maxLen; omega) (by unfold maxLen; omega) (by omega) HM.out
    rw [H1.out] at hre
    have HRe := Lib.hid hre
    clear hb3 hown3 hrd3 hre HE2 HB2 HR2 HO2 HPl
    go_wp2_with fail
    refine HRe.out.mono ?_
    rintro e w4 ⟨hb4, v4, rfl, hown4⟩
    obtain ⟨A4, c4, rfl, hc4, _⟩ := own_slice hown4
    have HB4 := Lib.hid (show Below w.heap.size w w4 from HB3.out.trans (hb4.mono HB3.out.size))
    have hs1 := run_str_of (P := Tryd.prog) (src := 23) (dst := 9) Tryd.underlying23 Tryd.underlying5 Tryd.underlying9 (c := c1) rfl (RdC.of_own (own_below HO3.out hb4))
    have hs2 := run_str_of (P := Tryd.prog) (src := 23) (dst := 9) Tryd.underlying23 Tryd.underlying5 Tryd.underlying9 (c := c4) rfl (RdC.of_own hown4)
    clear hb4 hown4
    go_wp2_with (go_at_call 19; refine (num_nil _).mono ?_; rintro e w' ⟨rfl, rfl⟩)
    go_ret
    exact ⟨rfl, HB4.out⟩
  | error er =>
    have H1 := Lib.hid hr
    clear hr
    go_wp2_with fail
    have hen := encode_any es w0 s A cells.length c cells rfl HE0.out.five HR0.out (by unfold maxLen; omega) (by unfold maxLen; omega) (by omega) (fun c hc => (HM.out c hc).2)
    rw [H1.out] at hen
    refine hen.mono ?_
    rintro e w1 ⟨hb1, rfl⟩
    have HE1 := Lib.hid (HE0.out.step hb1)
    have HB1 := Lib.hid (show Below w.heap.size w w1 from HB0.out.trans (hb1.mono HB0.out.size))
    have HR1 := Lib.hid (HR0.out.step hb1)
    have hsz := size_any es w1 s A cells.length c cells rfl HE1.out.five HR1.out (by unfold maxLen; omega) (by unfold maxLen; omega) (by omega) (fun c hc => (HM.out c hc).2)
    rw [H1.out] at hsz
    have HSz := Lib.hid hsz
    clear hb1 hen hsz HE0 HB0 HR0
    go_wp2_with fail
    refine HSz.out.mono ?_
    rintro e w2 ⟨hb2, rfl⟩
    have HE2 := Lib.hid (HE1.out.step hb2)
    have HB2 := Lib.hid (show Below w.heap.size w w2 from HB1.out.trans (hb2.mono HB1.out.size))
    have HR2 := Lib.hid (HR1.out.step hb2)
    have HPl := Lib.hid (plain_any w2 A cells.length c cells rfl HR2.out (by omega))
    clear hb2 HE1 HB1 HR1 HSz
    go_wp2_with fail
    refine HPl.out.mono ?_
    rintro e w3 ⟨hb3, v3, rfl, hown3⟩
    obtain ⟨A3, c3, rfl, hc3, _⟩ := own_slice hown3
    have HE3 := Lib.hid (HE2.out.step hb3)
    have HB3 := Lib.hid (show Below w.heap.size w w3 from HB2.out.trans (hb3.mono HB2.out.size))
    have hrd3 : RdC (· < w3.heap.size) w3 A3 (cells.flatMap rcellVs) := (RdC.of_own hown3).mono (fun _ h => h.2)
    have hre := rencode_any w3 s A3 cells.length c3 cells rfl hrd3 (by unfold maxLen; omega) (by unfold maxLen; omega) (by omega) HM.out
    rw [H1.out] at hre
    have HRe := Lib.hid hre
    clear hb3 hown3 hrd3 hre HE2 HB2 HR2 HPl
    go_wp2_with fail
    refine HRe.out.mono ?_
    rintro e w4 ⟨hb4, rfl⟩
    have HB4 := Lib.hid (show Below w.heap.size w w4 from HB3.out.trans (hb4.mono HB3.out.size))
    have HE4 := Lib.hid (HE3.out.step hb4)
    have hs1 := run_str_of (P := Tryd.prog) (src := 23) (dst := 9) Tryd.underlying23 Tryd.underlying5 Tryd.underlying9 (A := none) (n := 0) (c := 0) (bs := []) rfl (RdC.nil (fun _ => True) w4 none)
    clear hb4
    go_wp2_with (first
      | (go_at_call 19; refine (num_err es w4 er HE4.out).mono ?_; rintro e w5 ⟨rfl, hb5⟩; have HE5 := Lib.hid (HE4.out.step hb5); have HB5 := Lib.hid (show Below w.heap.size w w5 from HB4.out.trans (hb5.mono HB4.out.size)); clear hb5)
      | (go_at_call 19; refine (num_err es w5 er HE5.out).mono ?_; rintro e w6 ⟨rfl, hb6⟩; have HB6 := Lib.hid (show Below w.heap.size w w6 from HB5.out.trans (hb6.mono HB5.out.size)); clear hb6))
    go_ret
    exact ⟨by simp, HB6.out⟩
end Go.Proofs.YtkencpfmbcjppaaDoor
