/- Walk of the reference of layer 5: Kind, the kinds with bytes; Kind of every kind (printed by gen_ryb.py). -/
import Derived.Test.YtpekagkhgegefaaDoorVo
import Derived.Test.YtpekagkhgegefaaDoorVl
import Derived.Test.YtpekagkhgegefaaDoorMg
import Derived.RegionTactic
set_option linter.unusedVariables false
set_option linter.unusedSimpArgs false
set_option linter.unnecessarySimpa false
namespace Go.Proofs.YtpekagkhgegefaaDoor
open Go.RowKit
attribute [local go_sem] run_store_flt

/-- A frame; its bytes are new. -/
def KindP (w : World) (f : Fr) (e : Ending) (w' : World) : Prop :=
  Below w.heap.size w w' ∧ ∃ (A : Option Addr) (c : Nat), e = .returned (frV f A c) ∧ RdC (fun b => w.heap.size ≤ b ∧ b < w'.heap.size) w' A (bvs f.bytes)
theorem below_two (w : World) (X Y : Obj) : Below w.heap.size w ((w.alloc X).alloc Y) := (below_box w X).trans ((below_box _ Y).mono (below_box w X).size)
set_option maxRecDepth 8000 in
set_option maxHeartbeats 4000000 in
theorem rkind_5 (w : World) (A : Option Addr) (cap : Nat) (x : Cell) (hc : 1 ≤ cap) (hR : RdC (· < w.heap.size) w A ([x].flatMap rcellVs)) :
    Calls Tryd.prog 51 #[.int .i64 5, .slice A 1 cap] w (KindP w (setAll (Fr.of 5) (shapeF 5) [x])) := by
  obtain ⟨ad, rfl, hb, hat⟩ := hR (by simp [rcellVs])
  have v0 : w.cell? ad = some (.int .i64 x.n) := hat 0 _ rfl
  clear hat
  have hff := run_f64from
  go_enter Tryd.func51, Tryd.ntmps51
  go_wp2_with fail
  exact bodyPost_ret (v := .agg #[.int .i64 5, .int .i64 0, .int .i64 0, .int .i64 0, .int .i64 0, .int .i64 x.n, .string ⟨#[]⟩, .string ⟨#[]⟩, .float .f64 0, .slice none 0 0]) (by simp [results, Tryd.results51, go_sem]) rfl ⟨below_two w _ _, none, 0, rfl, RdC.nil _ _ _⟩
set_option maxRecDepth 8000 in
set_option maxHeartbeats 4000000 in
theorem rkind_6 (w : World) (A : Option Addr) (cap : Nat) (x : Cell) (hc : 1 ≤ cap) (hR : RdC (· < w.heap.size) w A ([x].flatMap rcellVs)) :
    Calls Tryd.prog 51 #[.int .i64 6, .slice A 1 cap] w (KindP w (setAll (Fr.of 6) (shapeF 6) [x])) := by
  obtain ⟨ad, rfl, hb, hat⟩ := hR (by simp [rcellVs])
  have v0 : w.cell? ad = some (.int .i64 x.n) := hat 0 _ rfl
  clear hat
  have hff := run_f64from
  go_enter Tryd.func51, Tryd.ntmps51
  go_wp2_with fail
  exact bodyPost_ret (v := .agg #[.int .i64 6, .int .i64 0, .int .i64 x.n, .int .i64 0, .int .i64 0, .int .i64 0, .string ⟨#[]⟩, .string ⟨#[]⟩, .float .f64 0, .slice none 0 0]) (by simp [results, Tryd.results51, go_sem]) rfl ⟨below_two w _ _, none, 0, rfl, RdC.nil _ _ _⟩
set_option maxRecDepth 8000 in
set_option maxHeartbeats 4000000 in
theorem rkind_7 (w : World) (A : Option Addr) (cap : Nat) (x y z : Cell) (hc : 3 ≤ cap) (hR : RdC (· < w.heap.size) w A ([x, y, z].flatMap rcellVs)) :
    Calls Tryd.prog 51 #[.int .i64 7, .slice A 3 cap] w (KindP w (setAll (Fr.of 7) (shapeF 7) [x, y, z])) := by
  obtain ⟨ad, rfl, hb, hat⟩ := hR (by simp [rcellVs])
  have v0 : w.cell? ad = some (.int .i64 x.n) := hat 0 _ rfl
  have v1 : w.cell? ⟨ad.block, ad.off + 3, none⟩ = some (.int .i64 y.n) := hat 3 _ rfl
  have v2 : w.cell? ⟨ad.block, ad.off + 8, none⟩ = some (.string z.s) := hat 8 _ rfl
  clear hat
  have hff := run_f64from
  go_enter Tryd.func51, Tryd.ntmps51
  go_wp2_with fail
  go_region
  all_goals
    go_wp2_with fail
    exact bodyPost_ret (v := .agg #[.int .i64 7, .int .i64 x.n, .int .i64 0, .int .i64 y.n, .int .i64 0, .int .i64 0, .string ⟨#[]⟩, .string z.s, .float .f64 0, .slice none 0 0]) (by simp [results, Tryd.results51, go_sem]) rfl ⟨(below_two w _ _).drew, none, 0, rfl, RdC.nil _ _ _⟩
set_option maxRecDepth 8000 in
set_option maxHeartbeats 4000000 in
theorem rkind_8 (w : World) (A : Option Addr) (cap : Nat) (x y : Cell) (hc : 2 ≤ cap) (hR : RdC (· < w.heap.size) w A ([x, y].flatMap rcellVs)) :
    Calls Tryd.prog 51 #[.int .i64 8, .slice A 2 cap] w (KindP w (setAll (Fr.of 8) (shapeF 8) [x, y])) := by
  obtain ⟨ad, rfl, hb, hat⟩ := hR (by simp [rcellVs])
  have v0 : w.cell? ad = some (.int .i64 x.n) := hat 0 _ rfl
  have v1 : w.cell? ⟨ad.block, ad.off + 3, none⟩ = some (.int .i64 y.n) := hat 3 _ rfl
  clear hat
  have hff := run_f64from
  go_enter Tryd.func51, Tryd.ntmps51
  go_wp2_with fail
  go_region
  all_goals
    go_wp2_with fail
    exact bodyPost_ret (v := .agg #[.int .i64 8, .int .i64 x.n, .int .i64 0, .int .i64 y.n, .int .i64 0, .int .i64 0, .string ⟨#[]⟩, .string ⟨#[]⟩, .float .f64 0, .slice none 0 0]) (by simp [results, Tryd.results51, go_sem]) rfl ⟨(below_two w _ _).drew, none, 0, rfl, RdC.nil _ _ _⟩
set_option maxRecDepth 8000 in
set_option maxHeartbeats 4000000 in
theorem rkind_10 (w : World) (A : Option Addr) (cap : Nat) (x y z : Cell) (hc : 3 ≤ cap) (hR : RdC (· < w.heap.size) w A ([x, y, z].flatMap rcellVs)) :
    Calls Tryd.prog 51 #[.int .i64 10, .slice A 3 cap] w (KindP w (setAll (Fr.of 10) (shapeF 10) [x, y, z])) := by
  obtain ⟨ad, rfl, hb, hat⟩ := hR (by simp [rcellVs])
  have v0 : w.cell? ad = some (.int .i64 x.n) := hat 0 _ rfl
  have v1 : w.cell? ⟨ad.block, ad.off + 3, none⟩ = some (.int .i64 y.n) := hat 3 _ rfl
  have v2 : w.cell? ⟨ad.block, ad.off + 6, none⟩ = some (.int .i64 z.n) := hat 6 _ rfl
  clear hat
  have hff := run_f64from
  go_enter Tryd.func51, Tryd.ntmps51
  go_wp2_with fail
  go_region
  all_goals
    go_wp2_with fail
    exact bodyPost_ret (v := .agg #[.int .i64 10, .int .i64 x.n, .int .i64 0, .int .i64 y.n, .int .i64 z.n, .int .i64 0, .string ⟨#[]⟩, .string ⟨#[]⟩, .float .f64 0, .slice none 0 0]) (by simp [results, Tryd.results51, go_sem]) rfl ⟨(below_two w _ _).drew, none, 0, rfl, RdC.nil _ _ _⟩
set_option maxRecDepth 8000 in
set_option maxHeartbeats 4000000 in
theorem rkind_11 (w : World) (A : Option Addr) (cap : Nat) (x y : Cell) (hc : 2 ≤ cap) (hR : RdC (· < w.heap.size) w A ([x, y].flatMap rcellVs)) :
    Calls Tryd.prog 51 #[.int .i64 11, .slice A 2 cap] w (KindP w (setAll (Fr.of 11) (shapeF 11) [x, y])) := by
  obtain ⟨ad, rfl, hb, hat⟩ := hR (by simp [rcellVs])
  have v0 : w.cell? ad = some (.int .i64 x.n) := hat 0 _ rfl
  have v1 : w.cell? ⟨ad.block, ad.off + 3, none⟩ = some (.int .i64 y.n) := hat 3 _ rfl
  clear hat
  have hff := run_f64from
  go_enter Tryd.func51, Tryd.ntmps51
  go_wp2_with fail
  go_region
  all_goals
    go_wp2_with fail
    exact bodyPost_ret (v := .agg #[.int .i64 11, .int .i64 x.n, .int .i64 0, .int .i64 y.n, .int .i64 0, .int .i64 0, .string ⟨#[]⟩, .string ⟨#[]⟩, .float .f64 0, .slice none 0 0]) (by simp [results, Tryd.results51, go_sem]) rfl ⟨(below_two w _ _).drew, none, 0, rfl, RdC.nil _ _ _⟩
set_option maxRecDepth 8000 in
set_option maxHeartbeats 4000000 in
theorem rkind_12 (w : World) (A : Option Addr) (cap : Nat) (x y z : Cell) (hc : 3 ≤ cap) (hR : RdC (· < w.heap.size) w A ([x, y, z].flatMap rcellVs)) :
    Calls Tryd.prog 51 #[.int .i64 12, .slice A 3 cap] w (KindP w (setAll (Fr.of 12) (shapeF 12) [x, y, z])) := by
  obtain ⟨ad, rfl, hb, hat⟩ := hR (by simp [rcellVs])
  have v0 : w.cell? ad = some (.int .i64 x.n) := hat 0 _ rfl
  have v1 : w.cell? ⟨ad.block, ad.off + 3, none⟩ = some (.int .i64 y.n) := hat 3 _ rfl
  have v2 : w.cell? ⟨ad.block, ad.off + 6, none⟩ = some (.int .i64 z.n) := hat 6 _ rfl
  clear hat
  have hff := run_f64from
  go_enter Tryd.func51, Tryd.ntmps51
  go_wp2_with fail
  go_region
  all_goals
    go_wp2_with fail
    exact bodyPost_ret (v := .agg #[.int .i64 12, .int .i64 x.n, .int .i64 0, .int .i64 y.n, .int .i64 0, .int .i64 z.n, .string ⟨#[]⟩, .string ⟨#[]⟩, .float .f64 0, .slice none 0 0]) (by simp [results, Tryd.results51, go_sem]) rfl ⟨(below_two w _ _).drew, none, 0, rfl, RdC.nil _ _ _⟩
set_option maxRecDepth 8000 in
set_option maxHeartbeats 4000000 in
theorem rkind_13 (w : World) (A : Option Addr) (cap : Nat) (x y z : Cell) (hc : 3 ≤ cap) (hR : RdC (· < w.heap.size) w A ([x, y, z].flatMap rcellVs)) :
    Calls Tryd.prog 51 #[.int .i64 13, .slice A 3 cap] w (KindP w (setAll (Fr.of 13) (shapeF 13) [x, y, z])) := by
  obtain ⟨ad, rfl, hb, hat⟩ := hR (by simp [rcellVs])
  have v0 : w.cell? ad = some (.int .i64 x.n) := hat 0 _ rfl
  have v1 : w.cell? ⟨ad.block, ad.off + 5, none⟩ = some (.string y.s) := hat 5 _ rfl
  have v2 : w.cell? ⟨ad.block, ad.off + 7, none⟩ = some (.int .u64 z.f) := hat 7 _ rfl
  clear hat
  have hff := run_f64from
  go_enter Tryd.func51, Tryd.ntmps51
  go_wp2_with fail
  go_region
  all_goals
    go_wp2_with fail
    exact bodyPost_ret (v := .agg #[.int .i64 13, .int .i64 x.n, .int .i64 0, .int .i64 0, .int .i64 0, .int .i64 0, .string ⟨#[]⟩, .string y.s, .float .f64 z.f, .slice none 0 0]) (by simp [results, Tryd.results51, go_sem]) rfl ⟨(below_two w _ _).drew, none, 0, rfl, RdC.nil _ _ _⟩
set_option maxRecDepth 8000 in
set_option maxHeartbeats 4000000 in
theorem rkind_14 (w : World) (A : Option Addr) (cap : Nat) (x y : Cell) (hc : 2 ≤ cap) (hR : RdC (· < w.heap.size) w A ([x, y].flatMap rcellVs)) :
    Calls Tryd.prog 51 #[.int .i64 14, .slice A 2 cap] w (KindP w (setAll (Fr.of 14) (shapeF 14) [x, y])) := by
  obtain ⟨ad, rfl, hb, hat⟩ := hR (by simp [rcellVs])
  have v0 : w.cell? ad = some (.int .i64 x.n) := hat 0 _ rfl
  have v1 : w.cell? ⟨ad.block, ad.off + 5, none⟩ = some (.string y.s) := hat 5 _ rfl
  clear hat
  have hff := run_f64from
  go_enter Tryd.func51, Tryd.ntmps51
  go_wp2_with fail
  go_region
  all_goals
    go_wp2_with fail
    exact bodyPost_ret (v := .agg #[.int .i64 14, .int .i64 x.n, .int .i64 0, .int .i64 0, .int .i64 0, .int .i64 0, .string ⟨#[]⟩, .string y.s, .float .f64 0, .slice none 0 0]) (by simp [results, Tryd.results51, go_sem]) rfl ⟨(below_two w _ _).drew, none, 0, rfl, RdC.nil _ _ _⟩
set_option maxRecDepth 8000 in
set_option maxHeartbeats 4000000 in
theorem rkind_15 (w : World) (A : Option Addr) (cap : Nat) (x y z : Cell) (hc : 3 ≤ cap) (hR : RdC (· < w.heap.size) w A ([x, y, z].flatMap rcellVs)) :
    Calls Tryd.prog 51 #[.int .i64 15, .slice A 3 cap] w (KindP w (setAll (Fr.of 15) (shapeF 15) [x, y, z])) := by
  obtain ⟨ad, rfl, hb, hat⟩ := hR (by simp [rcellVs])
  have v0 : w.cell? ad = some (.int .i64 x.n) := hat 0 _ rfl
  have v1 : w.cell? ⟨ad.block, ad.off + 5, none⟩ = some (.string y.s) := hat 5 _ rfl
  have v2 : w.cell? ⟨ad.block, ad.off + 8, none⟩ = some (.string z.s) := hat 8 _ rfl
  clear hat
  have hff := run_f64from
  go_enter Tryd.func51, Tryd.ntmps51
  go_wp2_with fail
  go_region
  all_goals
    go_wp2_with fail
    exact bodyPost_ret (v := .agg #[.int .i64 15, .int .i64 x.n, .int .i64 0, .int .i64 0, .int .i64 0, .int .i64 0, .string y.s, .string z.s, .float .f64 0, .slice none 0 0]) (by simp [results, Tryd.results51, go_sem]) rfl ⟨(below_two w _ _).drew, none, 0, rfl, RdC.nil _ _ _⟩
set_option maxRecDepth 8000 in
set_option maxHeartbeats 4000000 in
theorem rkind_16 (w : World) (A : Option Addr) (cap : Nat) (x y z : Cell) (hc : 3 ≤ cap) (hR : RdC (· < w.heap.size) w A ([x, y, z].flatMap rcellVs)) :
    Calls Tryd.prog 51 #[.int .i64 16, .slice A 3 cap] w (KindP w (setAll (Fr.of 16) (shapeF 16) [x, y, z])) := by
  obtain ⟨ad, rfl, hb, hat⟩ := hR (by simp [rcellVs])
  have v0 : w.cell? ad = some (.int .i64 x.n) := hat 0 _ rfl
  have v1 : w.cell? ⟨ad.block, ad.off + 5, none⟩ = some (.string y.s) := hat 5 _ rfl
  have v2 : w.cell? ⟨ad.block, ad.off + 8, none⟩ = some (.string z.s) := hat 8 _ rfl
  clear hat
  have hff := run_f64from
  go_enter Tryd.func51, Tryd.ntmps51
  go_wp2_with fail
  go_region
  all_goals
    go_wp2_with fail
    exact bodyPost_ret (v := .agg #[.int .i64 16, .int .i64 x.n, .int .i64 0, .int .i64 0, .int .i64 0, .int .i64 0, .string y.s, .string z.s, .float .f64 0, .slice none 0 0]) (by simp [results, Tryd.results51, go_sem]) rfl ⟨(below_two w _ _).drew, none, 0, rfl, RdC.nil _ _ _⟩
set_option maxRecDepth 8000 in
set_option maxHeartbeats 4000000 in
theorem rkind_17 (w : World) (A : Option Addr) (cap : Nat) (x y z : Cell) (hc : 3 ≤ cap) (hR : RdC (· < w.heap.size) w A ([x, y, z].flatMap rcellVs)) :
    Calls Tryd.prog 51 #[.int .i64 17, .slice A 3 cap] w (KindP w (setAll (Fr.of 17) (shapeF 17) [x, y, z])) := by
  obtain ⟨ad, rfl, hb, hat⟩ := hR (by simp [rcellVs])
  have v0 : w.cell? ad = some (.int .i64 x.n) := hat 0 _ rfl
  have v1 : w.cell? ⟨ad.block, ad.off + 3, none⟩ = some (.int .i64 y.n) := hat 3 _ rfl
  have v2 : w.cell? ⟨ad.block, ad.off + 8, none⟩ = some (.string z.s) := hat 8 _ rfl
  clear hat
  have hff := run_f64from
  go_enter Tryd.func51, Tryd.ntmps51
  go_wp2_with fail
  go_region
  all_goals
    go_wp2_with fail
    exact bodyPost_ret (v := .agg #[.int .i64 17, .int .i64 x.n, .int .i64 0, .int .i64 0, .int .i64 0, .int .i64 y.n, .string ⟨#[]⟩, .string z.s, .float .f64 0, .slice none 0 0]) (by simp [results, Tryd.results51, go_sem]) rfl ⟨(below_two w _ _).drew, none, 0, rfl, RdC.nil _ _ _⟩
end Go.Proofs.YtpekagkhgegefaaDoor
/- Walk of the reference of layer 5: Kind (printed by gen_ry.py; kinds with bytes not yet). -/
set_option linter.unusedVariables false
set_option linter.unusedSimpArgs false
set_option linter.unnecessarySimpa false
namespace Go.Proofs.YtpekagkhgegefaaDoor
open Go.RowKit
attribute [local go_sem] run_store_flt

theorem bytes_world {w : World} (T : TypeId) (W : World) (s : ByteArray) :
    ∃ (W2 : World) (K : Nat), Lib.bytesWorld W T s = W2 ∧ grownCap W s.size 0 T = K ∧ s.size ≤ K ∧ Below W.heap.size W W2 ∧ W.heap.size < W2.heap.size ∧ RdC (fun b => b = W.heap.size) W2 (some ⟨W.heap.size, 0, none⟩) (bvs s.data.toList) := by
  refine ⟨_, _, rfl, rfl, grownCap_ge _ _ _ _, ⟨rfl, rfl, rfl, ?_, fun k hk => Lib.bytesWorld_at_old W T s k hk⟩, ?_, ?_⟩
  · rw [Lib.bytesWorld_size]; omega
  · rw [Lib.bytesWorld_size]; omega
  · refine fun _ => ⟨_, rfl, rfl, fun j u hj => ?_⟩
    have hnew := Lib.bytesWorld_cell W T s
    have hll : s.data.toList.length = s.size := Array.length_toList
    generalize s.data.toList = l at hj hnew hll
    have hjl : j < l.length := by
      have := (List.getElem?_eq_some_iff.1 hj).1
      rw [bvs_length] at this
      exact this
    have hj2 := hnew j (by rw [← hll]; exact hjl)
    have hu : u = .int .u8 (l.getD j 0).toNat := by
      rw [bvs_get _ _ hjl] at hj
      rw [← Option.some.inj hj, List.getD_eq_getElem?_getD, List.getElem?_eq_getElem hjl]
      rfl
    rw [addr0, hu]
    exact hj2
/-- Where Kind's result is read. -/
theorem kind_post {w W3 : World} {g : Fr} {A : Option Addr} {c : Nat} (hb : Below w.heap.size w W3) (hA : RdC (fun b => w.heap.size + 1 < b ∧ b < W3.heap.size) W3 A (bvs g.bytes)) :
    KindP w g (.returned (frV g A c)) (frPut W3 w.heap.size g A c) := by
  refine ⟨frPut_below hb (Nat.le_refl _), A, c, rfl, ?_⟩
  refine (hA.move (fun b hb' => frPut_other _ _ _ _ (by omega))).mono (fun b hb' => ?_)
  rw [frPut_size]
  omega
/-- The two boxes of Kind, and the bytes behind them. -/
theorem kind_core (w W1 : World) (g0 : Fr) (s : ByteArray) (h0 : W1.heap[w.heap.size]? = some (.cells (frCs (Fr.of 0) none 0) 25 (0, 0))) (h1 : W1.heap[w.heap.size + 1]? = some (.cells (frCs g0 none 0) 25 (0, 0)))
    (hs : W1.heap.size = w.heap.size + 1 + 1) (hb : Below w.heap.size w W1) :
    ∃ (W2 : World) (K : Nat), (convert 9 23 (.string s)).run Tryd.prog W1 = .ok (.slice (some ⟨w.heap.size + 1 + 1, 0, none⟩) s.size K) W2 ∧ Below w.heap.size w W2 ∧ (∀ b, b < w.heap.size → W2.heap[b]? = w.heap[b]?) ∧ w.heap.size + 1 + 1 < W2.heap.size ∧
      W2.heap[w.heap.size]? = some (.cells (frCs (Fr.of 0) none 0) 25 (0, 0)) ∧ W2.heap[w.heap.size + 1]? = some (.cells (frCs g0 none 0) 25 (0, 0)) ∧
      RdC (fun b => b = w.heap.size + 1 + 1) W2 (some ⟨w.heap.size + 1 + 1, 0, none⟩) (bvs s.data.toList) := by
  have hcv := Lib.run_convert_string_bytes (P := Tryd.prog) W1 9 23 5 s Tryd.underlying9 Tryd.underlying23 Tryd.underlying5
  obtain ⟨W2, K, hW2, hK, hsK, hbW, hlt, hrd⟩ := bytes_world (w := w) 5 W1 s
  rw [hW2, hK, hs] at hcv
  rw [hs] at hbW hlt hrd
  have hb2 : Below w.heap.size w W2 := hb.trans (hbW.mono (by omega))
  exact ⟨W2, K, hcv, hb2, fun b hb => hb2.block b hb, hlt, (hbW.block _ (by omega)).trans h0, (hbW.block _ (by omega)).trans h1, hrd⟩
theorem two_boxes (w : World) (a b : Array Value) (T : TypeId) : ((w.alloc (.cells a T)).alloc (.cells b T)).heap[w.heap.size]? = some (.cells a T (0, 0)) ∧ ((w.alloc (.cells a T)).alloc (.cells b T)).heap[w.heap.size + 1]? = some (.cells b T (0, 0)) := by
  constructor
  · rw [heap_alloc_old _ _ (by simp)]
    exact heap_alloc_new _ _
  · have := heap_alloc_new (w.alloc (.cells a T)) (.cells b T)
    rw [show (w.alloc (.cells a T)).heap.size = w.heap.size + 1 by simp] at this
    exact this
theorem cell_old {w W : World} (h : ∀ b, b < w.heap.size → W.heap[b]? = w.heap[b]?) {q : Addr} {v : Value} (hq : q.block < w.heap.size) (hc : w.cell? q = some v) : W.cell? q = some v := (World.cell?_of_block (h _ hq)).trans hc
theorem below_bytes {w W : World} {B : Nat} (T : TypeId) (s : ByteArray) (h : Below B w W) (hB : B ≤ W.heap.size) : Below B w (Lib.bytesWorld W T s) :=
  ⟨h.os, h.tape, h.output, by rw [Lib.bytesWorld_size]; have := h.size; omega, fun k hk => (Lib.bytesWorld_at_old W T s k (by omega)).trans (h.block k hk)⟩
theorem bytes_rd (W : World) (T : TypeId) (s : ByteArray) (P : Nat) (hP : W.heap.size = P) : RdC (fun b => b = P) (Lib.bytesWorld W T s) (some ⟨P, 0, none⟩) (bvs s.data.toList) := by
  subst hP
  obtain ⟨W2, K, hW2, _, _, _, _, hrd⟩ := bytes_world (w := W) T W s
  rw [hW2]
  exact hrd
theorem bytes_heap (W : World) (T : TypeId) (s : ByteArray) {k : Nat} {o : Obj} (hk : k < W.heap.size) (h : W.heap[k]? = some o) : (Lib.bytesWorld W T s).heap[k]? = some o := (Lib.bytesWorld_at_old W T s k hk).trans h
theorem set_other {W : World} {p : Addr} {v : Value} {k : Nat} {o : Obj} (hk : k ≠ p.block) (h : W.heap[k]? = some o) : (W.setCell p v).heap[k]? = some o := (heap_setCell_other _ _ _ _ hk).trans h
theorem rd_set {W : World} {p : Addr} {v : Value} {b : Nat} {A : Option Addr} {cs : List Value} (hk : p.block ≠ b) (h : RdC (fun x => x = b) W A cs) : RdC (fun x => x = b) (W.setCell p v) A cs := h.move fun x hx => by
  subst hx
  exact heap_setCell_other _ _ _ _ (Ne.symm hk)
theorem kind_ret {w W3 : World} {g : Fr} {A : Option Addr} {K : Nat} {tmps : Array Value} (h0 : W3.heap[w.heap.size]? = some (.cells (frCs (Fr.of 0) none 0) 25 (0, 0))) (hb : Below w.heap.size w W3)
    (hA : RdC (fun b => b = w.heap.size + 1 + 1) W3 A (bvs g.bytes)) (hs : w.heap.size + 1 + 1 < W3.heap.size) (ht : tmps[4]? = some (.pointer (some ⟨w.heap.size, 0, none⟩))) :
    bodyPost Tryd.prog Tryd.f51 (KindP w g) .ret { tmps := tmps, defers := [] } (frPut W3 w.heap.size g A K) := by
  have hfin : ∀ i : Nat, (frPut W3 w.heap.size g A K).cell? ⟨w.heap.size, i, none⟩ = (frCs g A K)[i]? := fun i =>
    cell_of_row _ _ _ _ _ _ (frPut_heap (f := Fr.of 0) (A0 := none) (c0 := 0) h0)
  have d0 := (hfin 0).trans (show _ = some (.int .i64 g.kind) from rfl)
  have d1 := (hfin 1).trans (show _ = some (.int .i64 g.seq) from rfl)
  have d2 := (hfin 2).trans (show _ = some (.int .i64 g.got) from rfl)
  have d3 := (hfin 3).trans (show _ = some (.int .i64 g.stream) from rfl)
  have d4 := (hfin 4).trans (show _ = some (.int .i64 g.amount) from rfl)
  have d5 := (hfin 5).trans (show _ = some (.int .i64 g.code) from rfl)
  have d6 := (hfin 6).trans (show _ = some (.string g.who) from rfl)
  have d7 := (hfin 7).trans (show _ = some (.string g.name) from rfl)
  have d8 := (hfin 8).trans (show _ = some (.float .f64 g.weight) from rfl)
  have d9 := (hfin 9).trans (show _ = some (.slice A g.bytes.length K) from rfl)
  clear hfin
  refine bodyPost_ret (v := frV g A K) ?_ rfl (kind_post hb (hA.mono fun b hb' => by omega))
  simp [results, Tryd.results51, go_sem, ht, d0, d1, d2, d3, d4, d5, d6, d7, d8, d9, frV]
set_option maxRecDepth 8000 in
set_option maxHeartbeats 8000000 in
theorem rkind_1 (w : World) (A : Option Addr) (cap : Nat) (x y z : Cell) (hc : 3 ≤ cap) (hR : RdC (· < w.heap.size) w A ([x, y, z].flatMap rcellVs)) :
    Calls Tryd.prog 51 #[.int .i64 1, .slice A 3 cap] w (KindP w (setAll (Fr.of 1) (shapeF 1) [x, y, z])) := by
  obtain ⟨ad, rfl, hb, hat⟩ := hR (by simp [rcellVs])
  have v0 : w.cell? ⟨ad.block, ad.off + 2, none⟩ = some (.string x.s) := hat 2 _ rfl
  have v1 : w.cell? ⟨ad.block, ad.off + 3, none⟩ = some (.int .i64 y.n) := hat 3 _ rfl
  have v2 : w.cell? ⟨ad.block, ad.off + 8, none⟩ = some (.string z.s) := hat 8 _ rfl
  clear hat
  have hb2 : ad.block < w.heap.size + 1 + 1 := by omega
  have hcv := fun W s => Lib.run_convert_string_bytes (P := Tryd.prog) W 9 23 5 s Tryd.underlying9 Tryd.underlying23 Tryd.underlying5
  have hold : ∀ (W : World) (s : ByteArray) (q : Addr), q.block < W.heap.size → (Lib.bytesWorld W 5 s).cell? q = W.cell? q := fun W s q hq => World.cell?_of_block (Lib.bytesWorld_at_old W 5 s _ hq)
  have hfz : ∀ (W : World) (s : ByteArray) (q : Addr), q.block < W.heap.size → (Lib.bytesWorld W 5 s).frozen? q = W.frozen? q := fun W s q hq => World.frozen?_of_block (Lib.bytesWorld_at_old W 5 s _ hq)
  go_enter Tryd.func51, Tryd.ntmps51
  go_wp2_with fail
  go_region
  all_goals
    go_wp2_with fail
    clear hcv hold hfz
    refine kind_ret (g := (setAll (Fr.of 1) (shapeF 1) [x, y, z])) (A := (some ⟨w.heap.size + 1 + 1, 0, none⟩)) ?_ ?_ ?_ ?_ rfl
    · repeat (refine set_other (by simp) ?_)
      refine bytes_heap _ _ _ (by simp only [World.size_alloc, World.size_drew, World.size_setCell]; omega) ?_
      exact (two_boxes w _ _ _).1
    · repeat (refine Below.setCell ?_ (by simp) _)
      refine below_bytes _ _ ?_ (by simp; omega)
      first | exact (below_two w _ _).drew | exact below_two w _ _
    · repeat (refine rd_set (by simp) ?_)
      exact bytes_rd _ _ _ _ (by simp)
    · simp only [World.size_setCell, Lib.bytesWorld_size]; simp
set_option maxRecDepth 8000 in
set_option maxHeartbeats 8000000 in
theorem rkind_2 (w : World) (A : Option Addr) (cap : Nat) (x : Cell) (hc : 1 ≤ cap) (hR : RdC (· < w.heap.size) w A ([x].flatMap rcellVs)) :
    Calls Tryd.prog 51 #[.int .i64 2, .slice A 1 cap] w (KindP w (setAll (Fr.of 2) (shapeF 2) [x])) := by
  obtain ⟨ad, rfl, hb, hat⟩ := hR (by simp [rcellVs])
  have v0 : w.cell? ⟨ad.block, ad.off + 2, none⟩ = some (.string x.s) := hat 2 _ rfl
  clear hat
  obtain ⟨q0, q1⟩ := two_boxes w #[.int .i64 0, .int .i64 0, .int .i64 0, .int .i64 0, .int .i64 0, .int .i64 0, .string ⟨#[]⟩, .string ⟨#[]⟩, .float .f64 0, .slice none 0 0] #[.int .i64 2, .int .i64 0, .int .i64 0, .int .i64 0, .int .i64 0, .int .i64 0, .string ⟨#[]⟩, .string ⟨#[]⟩, .float .f64 0, .slice none 0 0] 25
  obtain ⟨W2, K, hcv, HB, hold, hlt, hh0, hh1, hrd⟩ := kind_core w ((w.alloc (.cells #[.int .i64 0, .int .i64 0, .int .i64 0, .int .i64 0, .int .i64 0, .int .i64 0, .string ⟨#[]⟩, .string ⟨#[]⟩, .float .f64 0, .slice none 0 0] 25)).alloc (.cells #[.int .i64 2, .int .i64 0, .int .i64 0, .int .i64 0, .int .i64 0, .int .i64 0, .string ⟨#[]⟩, .string ⟨#[]⟩, .float .f64 0, .slice none 0 0] 25)) (Fr.of 2) x.s q0 q1 (by simp) (below_two w _ _)
  have hpost : KindP w (setAll (Fr.of 2) (shapeF 2) [x]) (.returned (frV (setAll (Fr.of 2) (shapeF 2) [x]) (some ⟨w.heap.size + 1 + 1, 0, none⟩) K)) (frPut (W2.setCell ⟨w.heap.size + 1, 9, none⟩ (.slice (some ⟨w.heap.size + 1 + 1, 0, none⟩) x.s.size K)) w.heap.size (setAll (Fr.of 2) (shapeF 2) [x]) (some ⟨w.heap.size + 1 + 1, 0, none⟩) K) := by
    refine kind_post (HB.setCell (by simp) _) ?_
    refine (hrd.move (fun b hb => ?_)).mono (fun b hb => by simp only [World.size_setCell]; omega)
    subst hb
    rw [heap_setCell_other _ _ _ _ (by simp)]
  have hfin : ∀ i : Nat, (frPut (W2.setCell ⟨w.heap.size + 1, 9, none⟩ (.slice (some ⟨w.heap.size + 1 + 1, 0, none⟩) x.s.size K)) w.heap.size (setAll (Fr.of 2) (shapeF 2) [x]) (some ⟨w.heap.size + 1 + 1, 0, none⟩) K).cell? ⟨w.heap.size, i, none⟩ = (frCs (setAll (Fr.of 2) (shapeF 2) [x]) (some ⟨w.heap.size + 1 + 1, 0, none⟩) K)[i]? := fun i =>
    cell_of_row _ _ _ _ _ _ (frPut_heap (f := Fr.of 0) (A0 := none) (c0 := 0) (by rw [heap_setCell_other _ _ _ _ (by simp)]; exact hh0))
  have d0 := (hfin 0).trans (show _ = some (.int .i64 2) from rfl)
  have d1 := (hfin 1).trans (show _ = some (.int .i64 0) from rfl)
  have d2 := (hfin 2).trans (show _ = some (.int .i64 0) from rfl)
  have d3 := (hfin 3).trans (show _ = some (.int .i64 0) from rfl)
  have d4 := (hfin 4).trans (show _ = some (.int .i64 0) from rfl)
  have d5 := (hfin 5).trans (show _ = some (.int .i64 0) from rfl)
  have d6 := (hfin 6).trans (show _ = some (.string ⟨#[]⟩) from rfl)
  have d7 := (hfin 7).trans (show _ = some (.string ⟨#[]⟩) from rfl)
  have d8 := (hfin 8).trans (show _ = some (.float .f64 0) from rfl)
  have d9 := (hfin 9).trans (show _ = some (.slice (some ⟨w.heap.size + 1 + 1, 0, none⟩) x.s.size K) from rfl)
  have k0 : W2.cell? ⟨w.heap.size, 0, none⟩ = some (.int .i64 0) := (cell_of_row _ _ _ _ _ _ hh0).trans rfl
  have k1 : W2.cell? ⟨w.heap.size, 1, none⟩ = some (.int .i64 0) := (cell_of_row _ _ _ _ _ _ hh0).trans rfl
  have k2 : W2.cell? ⟨w.heap.size, 2, none⟩ = some (.int .i64 0) := (cell_of_row _ _ _ _ _ _ hh0).trans rfl
  have k3 : W2.cell? ⟨w.heap.size, 3, none⟩ = some (.int .i64 0) := (cell_of_row _ _ _ _ _ _ hh0).trans rfl
  have k4 : W2.cell? ⟨w.heap.size, 4, none⟩ = some (.int .i64 0) := (cell_of_row _ _ _ _ _ _ hh0).trans rfl
  have k5 : W2.cell? ⟨w.heap.size, 5, none⟩ = some (.int .i64 0) := (cell_of_row _ _ _ _ _ _ hh0).trans rfl
  have k6 : W2.cell? ⟨w.heap.size, 6, none⟩ = some (.string ⟨#[]⟩) := (cell_of_row _ _ _ _ _ _ hh0).trans rfl
  have k7 : W2.cell? ⟨w.heap.size, 7, none⟩ = some (.string ⟨#[]⟩) := (cell_of_row _ _ _ _ _ _ hh0).trans rfl
  have k8 : W2.cell? ⟨w.heap.size, 8, none⟩ = some (.float .f64 0) := (cell_of_row _ _ _ _ _ _ hh0).trans rfl
  have k9 : W2.cell? ⟨w.heap.size, 9, none⟩ = some (.slice none 0 0) := (cell_of_row _ _ _ _ _ _ hh0).trans rfl
  have l0 : W2.cell? ⟨w.heap.size + 1, 0, none⟩ = some (.int .i64 2) := (cell_of_row _ _ _ _ _ _ hh1).trans rfl
  have l1 : W2.cell? ⟨w.heap.size + 1, 1, none⟩ = some (.int .i64 0) := (cell_of_row _ _ _ _ _ _ hh1).trans rfl
  have l2 : W2.cell? ⟨w.heap.size + 1, 2, none⟩ = some (.int .i64 0) := (cell_of_row _ _ _ _ _ _ hh1).trans rfl
  have l3 : W2.cell? ⟨w.heap.size + 1, 3, none⟩ = some (.int .i64 0) := (cell_of_row _ _ _ _ _ _ hh1).trans rfl
  have l4 : W2.cell? ⟨w.heap.size + 1, 4, none⟩ = some (.int .i64 0) := (cell_of_row _ _ _ _ _ _ hh1).trans rfl
  have l5 : W2.cell? ⟨w.heap.size + 1, 5, none⟩ = some (.int .i64 0) := (cell_of_row _ _ _ _ _ _ hh1).trans rfl
  have l6 : W2.cell? ⟨w.heap.size + 1, 6, none⟩ = some (.string ⟨#[]⟩) := (cell_of_row _ _ _ _ _ _ hh1).trans rfl
  have l7 : W2.cell? ⟨w.heap.size + 1, 7, none⟩ = some (.string ⟨#[]⟩) := (cell_of_row _ _ _ _ _ _ hh1).trans rfl
  have l8 : W2.cell? ⟨w.heap.size + 1, 8, none⟩ = some (.float .f64 0) := (cell_of_row _ _ _ _ _ _ hh1).trans rfl
  have l9 : W2.cell? ⟨w.heap.size + 1, 9, none⟩ = some (.slice none 0 0) := (cell_of_row _ _ _ _ _ _ hh1).trans rfl
  have f0 : ∀ i, W2.frozen? ⟨w.heap.size, i, none⟩ = false := fun i => frozen_of_row W2 w.heap.size i _ _ hh0
  have f1 : ∀ i, W2.frozen? ⟨w.heap.size + 1, i, none⟩ = false := fun i => frozen_of_row W2 (w.heap.size + 1) i _ _ hh1
  have u0 : W2.cell? ⟨ad.block, ad.off + 2, none⟩ = some (.string x.s) := cell_old hold hb v0
  have HP := Lib.hid hpost
  have HD := Lib.hid (And.intro d0 (And.intro d1 (And.intro d2 (And.intro d3 (And.intro d4 (And.intro d5 (And.intro d6 (And.intro d7 (And.intro d8 d9)))))))))
  clear hh0 hh1 hpost hfin hrd HB hlt hold q0 q1 d0 d1 d2 d3 d4 d5 d6 d7 d8 d9
  go_enter Tryd.func51, Tryd.ntmps51
  go_wp2_with fail
  obtain ⟨d0, d1, d2, d3, d4, d5, d6, d7, d8, d9⟩ := HD.out
  exact bodyPost_ret (v := .agg #[.int .i64 2, .int .i64 0, .int .i64 0, .int .i64 0, .int .i64 0, .int .i64 0, .string ⟨#[]⟩, .string ⟨#[]⟩, .float .f64 0, .slice (some ⟨w.heap.size + 1 + 1, 0, none⟩) x.s.size K]) (by
    show (results Tryd.f51 _).run Tryd.prog (frPut (W2.setCell ⟨w.heap.size + 1, 9, none⟩ (.slice (some ⟨w.heap.size + 1 + 1, 0, none⟩) x.s.size K)) w.heap.size (setAll (Fr.of 2) (shapeF 2) [x]) (some ⟨w.heap.size + 1 + 1, 0, none⟩) K) = .ok _ (frPut (W2.setCell ⟨w.heap.size + 1, 9, none⟩ (.slice (some ⟨w.heap.size + 1 + 1, 0, none⟩) x.s.size K)) w.heap.size (setAll (Fr.of 2) (shapeF 2) [x]) (some ⟨w.heap.size + 1 + 1, 0, none⟩) K)
    simp [results, Tryd.results51, go_sem, d0, d1, d2, d3, d4, d5, d6, d7, d8, d9]) rfl HP.out
set_option maxRecDepth 8000 in
set_option maxHeartbeats 8000000 in
theorem rkind_3 (w : World) (A : Option Addr) (cap : Nat) (x : Cell) (hc : 1 ≤ cap) (hR : RdC (· < w.heap.size) w A ([x].flatMap rcellVs)) :
    Calls Tryd.prog 51 #[.int .i64 3, .slice A 1 cap] w (KindP w (setAll (Fr.of 3) (shapeF 3) [x])) := by
  obtain ⟨ad, rfl, hb, hat⟩ := hR (by simp [rcellVs])
  have v0 : w.cell? ⟨ad.block, ad.off + 2, none⟩ = some (.string x.s) := hat 2 _ rfl
  clear hat
  obtain ⟨q0, q1⟩ := two_boxes w #[.int .i64 0, .int .i64 0, .int .i64 0, .int .i64 0, .int .i64 0, .int .i64 0, .string ⟨#[]⟩, .string ⟨#[]⟩, .float .f64 0, .slice none 0 0] #[.int .i64 3, .int .i64 0, .int .i64 0, .int .i64 0, .int .i64 0, .int .i64 0, .string ⟨#[]⟩, .string ⟨#[]⟩, .float .f64 0, .slice none 0 0] 25
  obtain ⟨W2, K, hcv, HB, hold, hlt, hh0, hh1, hrd⟩ := kind_core w ((w.alloc (.cells #[.int .i64 0, .int .i64 0, .int .i64 0, .int .i64 0, .int .i64 0, .int .i64 0, .string ⟨#[]⟩, .string ⟨#[]⟩, .float .f64 0, .slice none 0 0] 25)).alloc (.cells #[.int .i64 3, .int .i64 0, .int .i64 0, .int .i64 0, .int .i64 0, .int .i64 0, .string ⟨#[]⟩, .string ⟨#[]⟩, .float .f64 0, .slice none 0 0] 25)) (Fr.of 3) x.s q0 q1 (by simp) (below_two w _ _)
  have hpost : KindP w (setAll (Fr.of 3) (shapeF 3) [x]) (.returned (frV (setAll (Fr.of 3) (shapeF 3) [x]) (some ⟨w.heap.size + 1 + 1, 0, none⟩) K)) (frPut (W2.setCell ⟨w.heap.size + 1, 9, none⟩ (.slice (some ⟨w.heap.size + 1 + 1, 0, none⟩) x.s.size K)) w.heap.size (setAll (Fr.of 3) (shapeF 3) [x]) (some ⟨w.heap.size + 1 + 1, 0, none⟩) K) := by
    refine kind_post (HB.setCell (by simp) _) ?_
    refine (hrd.move (fun b hb => ?_)).mono (fun b hb => by simp only [World.size_setCell]; omega)
    subst hb
    rw [heap_setCell_other _ _ _ _ (by simp)]
  have hfin : ∀ i : Nat, (frPut (W2.setCell ⟨w.heap.size + 1, 9, none⟩ (.slice (some ⟨w.heap.size + 1 + 1, 0, none⟩) x.s.size K)) w.heap.size (setAll (Fr.of 3) (shapeF 3) [x]) (some ⟨w.heap.size + 1 + 1, 0, none⟩) K).cell? ⟨w.heap.size, i, none⟩ = (frCs (setAll (Fr.of 3) (shapeF 3) [x]) (some ⟨w.heap.size + 1 + 1, 0, none⟩) K)[i]? := fun i =>
    cell_of_row _ _ _ _ _ _ (frPut_heap (f := Fr.of 0) (A0 := none) (c0 := 0) (by rw [heap_setCell_other _ _ _ _ (by simp)]; exact hh0))
  have d0 := (hfin 0).trans (show _ = some (.int .i64 3) from rfl)
  have d1 := (hfin 1).trans (show _ = some (.int .i64 0) from rfl)
  have d2 := (hfin 2).trans (show _ = some (.int .i64 0) from rfl)
  have d3 := (hfin 3).trans (show _ = some (.int .i64 0) from rfl)
  have d4 := (hfin 4).trans (show _ = some (.int .i64 0) from rfl)
  have d5 := (hfin 5).trans (show _ = some (.int .i64 0) from rfl)
  have d6 := (hfin 6).trans (show _ = some (.string ⟨#[]⟩) from rfl)
  have d7 := (hfin 7).trans (show _ = some (.string ⟨#[]⟩) from rfl)
  have d8 := (hfin 8).trans (show _ = some (.float .f64 0) from rfl)
  have d9 := (hfin 9).trans (show _ = some (.slice (some ⟨w.heap.size + 1 + 1, 0, none⟩) x.s.size K) from rfl)
  have k0 : W2.cell? ⟨w.heap.size, 0, none⟩ = some (.int .i64 0) := (cell_of_row _ _ _ _ _ _ hh0).trans rfl
  have k1 : W2.cell? ⟨w.heap.size, 1, none⟩ = some (.int .i64 0) := (cell_of_row _ _ _ _ _ _ hh0).trans rfl
  have k2 : W2.cell? ⟨w.heap.size, 2, none⟩ = some (.int .i64 0) := (cell_of_row _ _ _ _ _ _ hh0).trans rfl
  have k3 : W2.cell? ⟨w.heap.size, 3, none⟩ = some (.int .i64 0) := (cell_of_row _ _ _ _ _ _ hh0).trans rfl
  have k4 : W2.cell? ⟨w.heap.size, 4, none⟩ = some (.int .i64 0) := (cell_of_row _ _ _ _ _ _ hh0).trans rfl
  have k5 : W2.cell? ⟨w.heap.size, 5, none⟩ = some (.int .i64 0) := (cell_of_row _ _ _ _ _ _ hh0).trans rfl
  have k6 : W2.cell? ⟨w.heap.size, 6, none⟩ = some (.string ⟨#[]⟩) := (cell_of_row _ _ _ _ _ _ hh0).trans rfl
  have k7 : W2.cell? ⟨w.heap.size, 7, none⟩ = some (.string ⟨#[]⟩) := (cell_of_row _ _ _ _ _ _ hh0).trans rfl
  have k8 : W2.cell? ⟨w.heap.size, 8, none⟩ = some (.float .f64 0) := (cell_of_row _ _ _ _ _ _ hh0).trans rfl
  have k9 : W2.cell? ⟨w.heap.size, 9, none⟩ = some (.slice none 0 0) := (cell_of_row _ _ _ _ _ _ hh0).trans rfl
  have l0 : W2.cell? ⟨w.heap.size + 1, 0, none⟩ = some (.int .i64 3) := (cell_of_row _ _ _ _ _ _ hh1).trans rfl
  have l1 : W2.cell? ⟨w.heap.size + 1, 1, none⟩ = some (.int .i64 0) := (cell_of_row _ _ _ _ _ _ hh1).trans rfl
  have l2 : W2.cell? ⟨w.heap.size + 1, 2, none⟩ = some (.int .i64 0) := (cell_of_row _ _ _ _ _ _ hh1).trans rfl
  have l3 : W2.cell? ⟨w.heap.size + 1, 3, none⟩ = some (.int .i64 0) := (cell_of_row _ _ _ _ _ _ hh1).trans rfl
  have l4 : W2.cell? ⟨w.heap.size + 1, 4, none⟩ = some (.int .i64 0) := (cell_of_row _ _ _ _ _ _ hh1).trans rfl
  have l5 : W2.cell? ⟨w.heap.size + 1, 5, none⟩ = some (.int .i64 0) := (cell_of_row _ _ _ _ _ _ hh1).trans rfl
  have l6 : W2.cell? ⟨w.heap.size + 1, 6, none⟩ = some (.string ⟨#[]⟩) := (cell_of_row _ _ _ _ _ _ hh1).trans rfl
  have l7 : W2.cell? ⟨w.heap.size + 1, 7, none⟩ = some (.string ⟨#[]⟩) := (cell_of_row _ _ _ _ _ _ hh1).trans rfl
  have l8 : W2.cell? ⟨w.heap.size + 1, 8, none⟩ = some (.float .f64 0) := (cell_of_row _ _ _ _ _ _ hh1).trans rfl
  have l9 : W2.cell? ⟨w.heap.size + 1, 9, none⟩ = some (.slice none 0 0) := (cell_of_row _ _ _ _ _ _ hh1).trans rfl
  have f0 : ∀ i, W2.frozen? ⟨w.heap.size, i, none⟩ = false := fun i => frozen_of_row W2 w.heap.size i _ _ hh0
  have f1 : ∀ i, W2.frozen? ⟨w.heap.size + 1, i, none⟩ = false := fun i => frozen_of_row W2 (w.heap.size + 1) i _ _ hh1
  have u0 : W2.cell? ⟨ad.block, ad.off + 2, none⟩ = some (.string x.s) := cell_old hold hb v0
  have HP := Lib.hid hpost
  have HD := Lib.hid (And.intro d0 (And.intro d1 (And.intro d2 (And.intro d3 (And.intro d4 (And.intro d5 (And.intro d6 (And.intro d7 (And.intro d8 d9)))))))))
  clear hh0 hh1 hpost hfin hrd HB hlt hold q0 q1 d0 d1 d2 d3 d4 d5 d6 d7 d8 d9
  go_enter Tryd.func51, Tryd.ntmps51
  go_wp2_with fail
  obtain ⟨d0, d1, d2, d3, d4, d5, d6, d7, d8, d9⟩ := HD.out
  exact bodyPost_ret (v := .agg #[.int .i64 3, .int .i64 0, .int .i64 0, .int .i64 0, .int .i64 0, .int .i64 0, .string ⟨#[]⟩, .string ⟨#[]⟩, .float .f64 0, .slice (some ⟨w.heap.size + 1 + 1, 0, none⟩) x.s.size K]) (by
    show (results Tryd.f51 _).run Tryd.prog (frPut (W2.setCell ⟨w.heap.size + 1, 9, none⟩ (.slice (some ⟨w.heap.size + 1 + 1, 0, none⟩) x.s.size K)) w.heap.size (setAll (Fr.of 3) (shapeF 3) [x]) (some ⟨w.heap.size + 1 + 1, 0, none⟩) K) = .ok _ (frPut (W2.setCell ⟨w.heap.size + 1, 9, none⟩ (.slice (some ⟨w.heap.size + 1 + 1, 0, none⟩) x.s.size K)) w.heap.size (setAll (Fr.of 3) (shapeF 3) [x]) (some ⟨w.heap.size + 1 + 1, 0, none⟩) K)
    simp [results, Tryd.results51, go_sem, d0, d1, d2, d3, d4, d5, d6, d7, d8, d9]) rfl HP.out
set_option maxRecDepth 8000 in
set_option maxHeartbeats 8000000 in
theorem rkind_4 (w : World) (A : Option Addr) (cap : Nat) (x y : Cell) (hc : 2 ≤ cap) (hR : RdC (· < w.heap.size) w A ([x, y].flatMap rcellVs)) :
    Calls Tryd.prog 51 #[.int .i64 4, .slice A 2 cap] w (KindP w (setAll (Fr.of 4) (shapeF 4) [x, y])) := by
  obtain ⟨ad, rfl, hb, hat⟩ := hR (by simp [rcellVs])
  have v0 : w.cell? ad = some (.int .i64 x.n) := hat 0 _ rfl
  have v1 : w.cell? ⟨ad.block, ad.off + 5, none⟩ = some (.string y.s) := hat 5 _ rfl
  clear hat
  have hb2 : ad.block < w.heap.size + 1 + 1 := by omega
  have hcv := fun W s => Lib.run_convert_string_bytes (P := Tryd.prog) W 9 23 5 s Tryd.underlying9 Tryd.underlying23 Tryd.underlying5
  have hold : ∀ (W : World) (s : ByteArray) (q : Addr), q.block < W.heap.size → (Lib.bytesWorld W 5 s).cell? q = W.cell? q := fun W s q hq => World.cell?_of_block (Lib.bytesWorld_at_old W 5 s _ hq)
  have hfz : ∀ (W : World) (s : ByteArray) (q : Addr), q.block < W.heap.size → (Lib.bytesWorld W 5 s).frozen? q = W.frozen? q := fun W s q hq => World.frozen?_of_block (Lib.bytesWorld_at_old W 5 s _ hq)
  go_enter Tryd.func51, Tryd.ntmps51
  go_wp2_with fail
  go_region
  all_goals
    go_wp2_with fail
    clear hcv hold hfz
    refine kind_ret (g := (setAll (Fr.of 4) (shapeF 4) [x, y])) (A := (some ⟨w.heap.size + 1 + 1, 0, none⟩)) ?_ ?_ ?_ ?_ rfl
    · repeat (refine set_other (by simp) ?_)
      refine bytes_heap _ _ _ (by simp only [World.size_alloc, World.size_drew, World.size_setCell]; omega) ?_
      exact (two_boxes w _ _ _).1
    · repeat (refine Below.setCell ?_ (by simp) _)
      refine below_bytes _ _ ?_ (by simp; omega)
      first | exact (below_two w _ _).drew | exact below_two w _ _
    · repeat (refine rd_set (by simp) ?_)
      exact bytes_rd _ _ _ _ (by simp)
    · simp only [World.size_setCell, Lib.bytesWorld_size]; simp
set_option maxRecDepth 8000 in
set_option maxHeartbeats 8000000 in
theorem rkind_9 (w : World) (A : Option Addr) (cap : Nat) (x y z : Cell) (hc : 3 ≤ cap) (hR : RdC (· < w.heap.size) w A ([x, y, z].flatMap rcellVs)) :
    Calls Tryd.prog 51 #[.int .i64 9, .slice A 3 cap] w (KindP w (setAll (Fr.of 9) (shapeF 9) [x, y, z])) := by
  obtain ⟨ad, rfl, hb, hat⟩ := hR (by simp [rcellVs])
  have v0 : w.cell? ad = some (.int .i64 x.n) := hat 0 _ rfl
  have v1 : w.cell? ⟨ad.block, ad.off + 3, none⟩ = some (.int .i64 y.n) := hat 3 _ rfl
  have v2 : w.cell? ⟨ad.block, ad.off + 8, none⟩ = some (.string z.s) := hat 8 _ rfl
  clear hat
  have hb2 : ad.block < w.heap.size + 1 + 1 := by omega
  have hcv := fun W s => Lib.run_convert_string_bytes (P := Tryd.prog) W 9 23 5 s Tryd.underlying9 Tryd.underlying23 Tryd.underlying5
  have hold : ∀ (W : World) (s : ByteArray) (q : Addr), q.block < W.heap.size → (Lib.bytesWorld W 5 s).cell? q = W.cell? q := fun W s q hq => World.cell?_of_block (Lib.bytesWorld_at_old W 5 s _ hq)
  have hfz : ∀ (W : World) (s : ByteArray) (q : Addr), q.block < W.heap.size → (Lib.bytesWorld W 5 s).frozen? q = W.frozen? q := fun W s q hq => World.frozen?_of_block (Lib.bytesWorld_at_old W 5 s _ hq)
  go_enter Tryd.func51, Tryd.ntmps51
  go_wp2_with fail
  go_region
  all_goals
    go_wp2_with fail
    clear hcv hold hfz
    refine kind_ret (g := (setAll (Fr.of 9) (shapeF 9) [x, y, z])) (A := (some ⟨w.heap.size + 1 + 1, 0, none⟩)) ?_ ?_ ?_ ?_ rfl
    · repeat (refine set_other (by simp) ?_)
      refine bytes_heap _ _ _ (by simp only [World.size_alloc, World.size_drew, World.size_setCell]; omega) ?_
      exact (two_boxes w _ _ _).1
    · repeat (refine Below.setCell ?_ (by simp) _)
      refine below_bytes _ _ ?_ (by simp; omega)
      first | exact (below_two w _ _).drew | exact below_two w _ _
    · repeat (refine rd_set (by simp) ?_)
      exact bytes_rd _ _ _ _ (by simp)
    · simp only [World.size_setCell, Lib.bytesWorld_size]; simp
/-- Kind of every kind there is. -/
theorem rkind_any (k : Int) (hk : 1 ≤ k ∧ k ≤ 17) (w : World) (A : Option Addr) (n cap : Nat) (cs : List Cell) (hn : n = cs.length) (hl : cs.length = (shapeF k).length) (hc : n ≤ cap) (hR : RdC (· < w.heap.size) w A (cs.flatMap rcellVs)) :
    Calls Tryd.prog 51 #[.int .i64 k, .slice A n cap] w (KindP w (setAll (Fr.of k) (shapeF k) cs)) := by
  subst hn
  rcases kind_cases hk with h | h | h | h | h | h | h | h | h | h | h | h | h | h | h | h | h <;> subst h
  · match cs, hl with
    | [x, y, z], _ => exact rkind_1 w A cap x y z hc hR
  · match cs, hl with
    | [x], _ => exact rkind_2 w A cap x hc hR
  · match cs, hl with
    | [x], _ => exact rkind_3 w A cap x hc hR
  · match cs, hl with
    | [x, y], _ => exact rkind_4 w A cap x y hc hR
  · match cs, hl with
    | [x], _ => exact rkind_5 w A cap x hc hR
  · match cs, hl with
    | [x], _ => exact rkind_6 w A cap x hc hR
  · match cs, hl with
    | [x, y, z], _ => exact rkind_7 w A cap x y z hc hR
  · match cs, hl with
    | [x, y], _ => exact rkind_8 w A cap x y hc hR
  · match cs, hl with
    | [x, y, z], _ => exact rkind_9 w A cap x y z hc hR
  · match cs, hl with
    | [x, y, z], _ => exact rkind_10 w A cap x y z hc hR
  · match cs, hl with
    | [x, y], _ => exact rkind_11 w A cap x y hc hR
  · match cs, hl with
    | [x, y, z], _ => exact rkind_12 w A cap x y z hc hR
  · match cs, hl with
    | [x, y, z], _ => exact rkind_13 w A cap x y z hc hR
  · match cs, hl with
    | [x, y], _ => exact rkind_14 w A cap x y hc hR
  · match cs, hl with
    | [x, y, z], _ => exact rkind_15 w A cap x y z hc hR
  · match cs, hl with
    | [x, y, z], _ => exact rkind_16 w A cap x y z hc hR
  · match cs, hl with
    | [x, y, z], _ => exact rkind_17 w A cap x y z hc hR
end Go.Proofs.YtpekagkhgegefaaDoor
