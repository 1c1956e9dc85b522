/- Walks of package frame, seventh part: Get. -/
import Derived.Test.YtipgimmgjdgdeaaDoorVb
import Derived.Test.YtipgimmgjdgdeaaDoorVg
import Derived.Test.YtipgimmgjdgdeaaDoorVd
import Derived.Test.YtipgimmgjdgdeaaDoorHa
import Derived.Deep.RegionHeld3
import Derived.RegionTactic
set_option linter.unusedVariables false
set_option linter.unusedSimpArgs false
set_option linter.unnecessarySimpa false
namespace Go.Proofs.YtipgimmgjdgdeaaDoor
open Go.RowKit
attribute [local go_sem] run_store_flt

/-- A frame in block B; its bytes lie elsewhere. -/
def FrAtB (W : World) (base B : Nat) (o : Fr) : Prop := ∃ A c, W.heap[B]? = some (.cells (frCs o A c) 33 (0, 0)) ∧ RdC (fun b => base ≤ b ∧ b ≠ B ∧ b < W.heap.size) W A (bvs o.bytes) ∧ o.bytes.length ≤ c
def SetPB (W : World) (base B : Nat) (o : Fr) (e : Ending) (W' : World) : Prop := e = .returned (.tuple #[]) ∧ W.grownBy W' (some B) ∧ FrAtB W' base B o
theorem setB_post {W : World} {base B : Nat} {o o' : Fr} {A : Option Addr} {c : Nat} (ob : Obj) (i : Nat) (v : Value) (hh : W.heap[B]? = some (.cells (frCs o A c) 33 (0, 0))) (hR : RdC (fun b => base ≤ b ∧ b ≠ B ∧ b < W.heap.size) W A (bvs o.bytes)) (hc : o.bytes.length ≤ c)
    (hv : (frCs o A c).setIfInBounds i v = frCs o' A c) (hb : o'.bytes = o.bytes) : SetPB W base B o' (.returned (.tuple #[])) ((W.setCell ⟨B, i, none⟩ v).alloc ob) := by
  have hB : B < W.heap.size := (Array.getElem?_eq_some_iff.1 hh).1
  have hs : (W.setCell ⟨B, i, none⟩ v).heap.size = W.heap.size := by simp
  refine ⟨rfl, ⟨rfl, rfl, rfl, by simp, fun k hk hn => ?_⟩, A, c, ?_, ?_, by rw [hb]; exact hc⟩
  · rw [heap_alloc_old _ _ (by rw [hs]; exact hk), heap_setCell_other _ _ _ _ (fun e => hn (by rw [e]))]
  · rw [heap_alloc_old _ _ (by rw [hs]; exact hB), heap_setCell_same _ _ _ _ _ _ hh, hv]
  · rw [hb]
    refine (hR.move (w' := (W.setCell ⟨B, i, none⟩ v).alloc ob) fun b hk => ?_).mono fun b hk => ⟨hk.1, hk.2.1, by simp; omega⟩
    rw [heap_alloc_old _ _ (by rw [hs]; exact hk.2.2), heap_setCell_other _ _ _ _ hk.2.1]
set_option maxHeartbeats 3200000 in
theorem setB_any1 (W : World) (base B : Nat) (o : Fr) (x : Nat) (c : Cell) (hx : x < 8) (hbs : base ≤ W.heap.size) (h : FrAtB W base B o) : Calls Tryd.prog 66 #[.pointer (some ⟨B, 0, none⟩), .int .i64 x, cellV c] W (SetPB W base B (setF o x c)) := by
  obtain ⟨A, cp, hh, hR, hc⟩ := h
  have hB : B < W.heap.size := (Array.getElem?_eq_some_iff.1 hh).1
  have hf : ∀ j, W.frozen? ⟨B, j, none⟩ = false := fun j => frozen_of_row W B j _ _ hh
  have c0 : ∀ j, W.cell? ⟨B, j, none⟩ = (frCs o A cp)[j]? := fun j => cell_of_row _ _ _ _ _ _ hh
  have c1 := c0 1
  have c2 := c0 2
  have c3 := c0 3
  have c4 := c0 4
  have c5 := c0 5
  have c6 := c0 6
  have c7 := c0 7
  have c8 := c0 8
  have f1 := hf 1
  have f2 := hf 2
  have f3 := hf 3
  have f4 := hf 4
  have f5 := hf 5
  have f6 := hf 6
  have f7 := hf 7
  have f8 := hf 8
  have HP := Lib.hid (fun ob i v o' hv hb => setB_post (o' := o') ob i v hh hR hc hv hb)
  clear hf c0 hh hR
  simp only [frCs, List.getElem?_toArray, List.getElem?_cons_succ, List.getElem?_cons_zero] at c1 c2 c3 c4 c5 c6 c7 c8
  unfold cellV
  rcases eight hx with h | h | h | h | h | h | h | h <;> subst h
  all_goals
    go_enter Tryd.func66, Tryd.ntmps66
    go_wp2
    go_end0
    refine HP.out _ _ _ (setF o _ c) ?_ ?_ <;> rfl
set_option maxHeartbeats 3200000 in
theorem setB_any8 (W : World) (base B : Nat) (o : Fr) (c : Cell) (hbs : base ≤ W.heap.size) (h : FrAtB W base B o) : Calls Tryd.prog 66 #[.pointer (some ⟨B, 0, none⟩), .int .i64 8, cellV c] W (SetPB W base B (setF o 8 c)) := by
  obtain ⟨A, cp, hh, hR, hc⟩ := h
  obtain ⟨n, fl, s⟩ := c
  have hB : B < W.heap.size := (Array.getElem?_eq_some_iff.1 hh).1
  have hcv := Lib.run_convert_string_bytes (P := Tryd.prog) (W.alloc (.cells #[.int .i64 n, .float .f64 fl, .string s] 121)) 9 31 5 s Tryd.underlying9 Tryd.underlying31 Tryd.underlying5
  have hsz := Lib.bytesWorld_size (W.alloc (.cells #[.int .i64 n, .float .f64 fl, .string s] 121)) 5 s
  have hold := Lib.bytesWorld_at_old (W.alloc (.cells #[.int .i64 n, .float .f64 fl, .string s] 121)) 5 s
  have hnew := Lib.bytesWorld_cell (W.alloc (.cells #[.int .i64 n, .float .f64 fl, .string s] 121)) 5 s
  have hos : (Lib.bytesWorld (W.alloc (.cells #[.int .i64 n, .float .f64 fl, .string s] 121)) 5 s).os = W.os ∧ (Lib.bytesWorld (W.alloc (.cells #[.int .i64 n, .float .f64 fl, .string s] 121)) 5 s).tape = W.tape ∧ (Lib.bytesWorld (W.alloc (.cells #[.int .i64 n, .float .f64 fl, .string s] 121)) 5 s).output = W.output := ⟨rfl, rfl, rfl⟩
  have hgc : s.size ≤ grownCap (W.alloc (.cells #[.int .i64 n, .float .f64 fl, .string s] 121)) s.size 0 5 := grownCap_ge _ _ _ _
  generalize grownCap (W.alloc (.cells #[.int .i64 n, .float .f64 fl, .string s] 121)) s.size 0 5 = K at *
  generalize Lib.bytesWorld (W.alloc (.cells #[.int .i64 n, .float .f64 fl, .string s] 121)) 5 s = W2 at *
  have hz1 : (W.alloc (.cells #[.int .i64 n, .float .f64 fl, .string s] 121)).heap.size = W.heap.size + 1 := by simp
  rw [hz1] at hsz hold hnew hcv
  have hh2 : W2.heap[B]? = some (.cells (frCs o A cp) 33 (0, 0)) := (hold B (by omega)).trans ((heap_alloc_old _ _ hB).trans hh)
  have c9 : W2.cell? ⟨B, 9, none⟩ = some (.slice A o.bytes.length cp) := (cell_of_row _ _ _ _ _ _ hh2).trans rfl
  have f9 : W2.frozen? ⟨B, 9, none⟩ = false := frozen_of_row W2 B 9 _ _ hh2
  have hpost : SetPB W base B (setF o 8 ⟨n, fl, s⟩) (.returned (.tuple #[])) (W2.setCell ⟨B, 9, none⟩ (.slice (some ⟨W.heap.size + 1, 0, none⟩) s.size K)) := by
    refine ⟨rfl, ⟨hos.1, hos.2.1, hos.2.2, by simp; omega, fun k hk hn => ?_⟩, some ⟨W.heap.size + 1, 0, none⟩, K, ?_, ?_, by show s.data.toList.length ≤ K; rw [Array.length_toList]; exact hgc⟩
    · rw [heap_setCell_other _ _ _ _ (fun e => hn (by rw [e])), hold k (by omega), heap_alloc_old _ _ hk]
    · rw [heap_setCell_same _ _ _ _ _ _ hh2]
      rw [show (setF o 8 ⟨n, fl, s⟩) = { o with bytes := s.data.toList } from rfl]
      unfold frCs
      rw [show ({ o with bytes := s.data.toList } : Fr).bytes.length = s.size from Array.length_toList]
      rfl
    · refine fun _ => ⟨_, rfl, ⟨by show base ≤ W.heap.size + 1; omega, by show W.heap.size + 1 ≠ B; omega, by simp; omega⟩, fun j u hj => ?_⟩
      have hj' : (bvs s.data.toList)[j]? = some u := hj
      have hll : s.data.toList.length = s.size := Array.length_toList
      generalize s.data.toList = l at hj' hnew hll
      have hjl : j < l.length := by
        have := (List.getElem?_eq_some_iff.1 hj').1
        rw [bvs_length] at this
        exact this
      have hj2 := hnew j (by rw [← hll]; exact hjl)
      have hu : u = .int .u8 (l.getD j 0).toNat := by
        rw [bvs_get _ _ hjl] at hj'
        rw [← Option.some.inj hj', List.getD_eq_getElem?_getD, List.getElem?_eq_getElem hjl]
        rfl
      have hadd : (⟨W.heap.size + 1, 0, none⟩ : Addr).add j = ⟨W.heap.size + 1, j, none⟩ := by
        unfold Addr.add
        by_cases h0 : j = 0 <;> simp [h0]
      rw [hadd, hu]
      exact (World.cell?_setCell_far _ _ _ _ (by show B ≠ W.heap.size + 1; omega)).trans hj2
  have HP := Lib.hid hpost
  clear hpost hh hR hh2 hold hnew hos hsz hgc hc hz1
  unfold cellV
  go_enter Tryd.func66, Tryd.ntmps66
  go_wp2
  go_end0
  exact HP.out
theorem setFB_any (W : World) (base B : Nat) (o : Fr) (x : Nat) (c : Cell) (hx : x < 9) (hbs : base ≤ W.heap.size) (h : FrAtB W base B o) : Calls Tryd.prog 66 #[.pointer (some ⟨B, 0, none⟩), .int .i64 x, cellV c] W (SetPB W base B (setF o x c)) := by
  by_cases h8 : x < 8
  · exact setB_any1 W base B o x c h8 hbs h
  · obtain rfl : x = 8 := by omega
    exact setB_any8 W base B o c hbs h
theorem FrAtB.lt {W : World} {base B : Nat} {o : Fr} (h : FrAtB W base B o) : B < W.heap.size := by
  obtain ⟨A, c, h, _⟩ := h
  exact (Array.getElem?_eq_some_iff.1 h).1
theorem FrAtB.below {W W' : World} {base B : Nat} {o : Fr} (h : FrAtB W base B o) (hb : Below W.heap.size W W') : FrAtB W' base B o := by
  have hB := h.lt
  obtain ⟨A, c, h1, h2, h3⟩ := h
  exact ⟨A, c, (hb.block B hB).trans h1, (h2.move (fun b hk => hb.block b hk.2.2)).mono (fun b hk => ⟨hk.1, hk.2.1, Nat.lt_of_lt_of_le hk.2.2 hb.size⟩), h3⟩
theorem FrAtB.new (w : World) (base : Nat) (k : Int) : FrAtB (w.alloc (.cells (frCs (Fr.of k) none 0) 33)) base w.heap.size (Fr.of k) :=
  ⟨none, 0, heap_alloc_new _ _, RdC.nil _ _ _, Nat.le_refl _⟩
/-- The lengths of what is set. -/
theorem setF_lens {o : Fr} (x : Nat) {c : Cell} (h : o.lens) (hc : c.s.size ≤ 100000) : (setF o x c).lens := by
  unfold setF
  split
  all_goals (try exact ⟨h.who, h.name, h.bytes⟩)
  · exact ⟨by show c.s.size ≤ _; omega, h.name, h.bytes⟩
  · exact ⟨h.who, by show c.s.size ≤ _; omega, h.bytes⟩
  · exact ⟨h.who, h.name, by show c.s.data.toList.length ≤ _; rw [Array.length_toList]; exact Nat.le_trans hc (by omega)⟩
theorem setAll_lens : ∀ (l : List Nat) (cs : List Cell) (o : Fr), o.lens → (∀ c ∈ cs, c.s.size ≤ 100000) → (setAll o l cs).lens
  | [], cs, o, h, _ => by cases cs <;> exact h
  | y :: l, [], o, h, _ => h
  | y :: l, c :: cs, o, h, hc => setAll_lens l cs _ (setF_lens y h (hc c (by simp))) (fun d hd => hc d (by simp [hd]))
theorem setAll_snoc : ∀ (l : List Nat) (cs : List Cell) (o : Fr) (j : Nat) (h1 : j < l.length) (h2 : j < cs.length), setAll o (l.take (j + 1)) (cs.take (j + 1)) = setF (setAll o (l.take j) (cs.take j)) l[j] cs[j]
  | [], _, _, _, h, _ => absurd h (by simp)
  | _ :: _, [], _, _, _, h => absurd h (by simp)
  | y :: l, c :: cs, o, 0, _, _ => by
    simp only [List.take_succ_cons, List.take_zero, setAll, List.getElem_cons_zero]
  | y :: l, c :: cs, o, j + 1, h1, h2 => by
    simp only [List.take_succ_cons, setAll, List.getElem_cons_succ]
    exact setAll_snoc l cs _ j (by simpa using h1) (by simpa using h2)
theorem size_le_cost : ∀ (cs : List Cell) (c : Cell), c ∈ cs → c.s.size ≤ cost cs
  | c :: cs, d, h => by
    have e : cost (c :: cs) = 8 + c.s.size + cost cs := by simp [cost]
    rcases List.mem_cons.1 h with rfl | h
    · omega
    · have := size_le_cost cs d h
      omega
end Go.Proofs.YtipgimmgjdgdeaaDoor
/- Walks of package frame: set, where it is told whence the bytes are (turned from the second part). -/
set_option linter.unusedVariables false
set_option linter.unusedSimpArgs false
set_option linter.unnecessarySimpa false
namespace Go.Proofs.YtipgimmgjdgdeaaDoor
open Go.RowKit
attribute [local go_sem] run_store_flt

/-- What Get finds in memory. -/
structure GEnv (w : World) (es : Er → Addr) : Prop where
  e5 : E5 w.heap.size w es
  frame : ErrAt w.heap.size w 1 (es .frame)
  round : RoundAt w
theorem GEnv.step {w w' : World} {es : Er → Addr} (h : GEnv w es) (hb : Below w.heap.size w w') : GEnv w' es := ⟨h.e5.step hb, (h.frame.below hb).more hb.size, h.round.below hb h.round.lt⟩
theorem GEnv.fenv {w : World} {es : Er → Addr} (h : GEnv w es) : FEnv w es := ⟨h.e5.e3, h.frame, h.round⟩
def GetFP (es : Er → Addr) (b : Bs) (w : World) (e : Ending) (w' : World) : Prop :=
  Below w.heap.size w w' ∧ match getF b with
  | some f => ∃ A c, e = .returned (.tuple #[frV f A c, .nilIface]) ∧ RdC (fun k => w.heap.size < k ∧ k < w'.heap.size) w' A (bvs f.bytes) ∧ f.bytes.length ≤ c
  | none => e = .returned (.tuple #[frV (Fr.of 0) none 0, errV (es .frame)])
theorem GetFP.no {es : Er → Addr} {b : Bs} {w w' : World} {e : Ending} (h : getF b = none) (hb : Below w.heap.size w w') (he : e = .returned (.tuple #[frV (Fr.of 0) none 0, errV (es .frame)])) : GetFP es b w e w' := ⟨hb, by rw [h]; exact he⟩
theorem get_short5 {b : Bs} (h : b.length < 7 ∨ b.length > 1024) : getF b = none := by
  unfold getF
  rw [if_pos h]
set_option maxRecDepth 8000 in
set_option maxHeartbeats 3200000 in
theorem getF_short (es : Er → Addr) (w : World) (A : Option Addr) (c : Nat) (b : Bs) (hE : GEnv w es) (hb : b.length ≤ 140737488355328) (h : b.length < 7 ∨ b.length > 1024) :
    Calls Tryd.prog 77 #[.slice A b.length c] w (GetFP es b w) := by
  have hg := get_short5 h
  have he := hE.frame.at
  have hgl := hE.frame.g_lt
  unfold errV at he
  have HG := Lib.hid hg
  clear hg hE
  by_cases h7 : b.length < 7
  · have k7 : (b.length : Int) < 7 := by omega
    clear h
    go_enter Tryd.func77, Tryd.ntmps77
    go_wp2_with fail
    go_region
    go_wp2_with fail
    exact bodyPost_ret (v := .tuple #[frV (Fr.of 0) none 0, errV (es .frame)]) (by simp [results, Tryd.results77, go_sem, frV, Fr.of, noS, errV]) rfl (GetFP.no HG.out (by repeat (first | exact Below.refl _ _ | refine Below.drew ?_ | refine below_drewN ?_ _ | refine Below.alloc ?_ (Nat.le_refl _) _ | refine Below.setCell ?_ (by simp) _)) rfl)
  · have k7 : ¬ (b.length : Int) < 7 := by omega
    have k10 : (1024 : Int) < (b.length : Int) := by omega
    clear h
    go_enter Tryd.func77, Tryd.ntmps77
    go_wp2_with fail
    go_region
    go_wp2_with fail
    exact bodyPost_ret (v := .tuple #[frV (Fr.of 0) none 0, errV (es .frame)]) (by simp [results, Tryd.results77, go_sem, frV, Fr.of, noS, errV]) rfl (GetFP.no HG.out (by repeat (first | exact Below.refl _ _ | refine Below.drew ?_ | refine below_drewN ?_ _ | refine Below.alloc ?_ (Nat.le_refl _) _ | refine Below.setCell ?_ (by simp) _)) rfl)
theorem cell_on {w w' : World} {p : Addr} {v : Value} (h : w.cell? p = some v) (hp : p.block < w.heap.size) (hb : Below w.heap.size w w') : w'.cell? p = some v := (hb.cell hp).trans h
def GetRel (k : Int) (l : List Nat) (cs : List Cell) (w9 : World) (base B : Nat) (i : Value) (wr : World) : Prop :=
  ∃ j : Nat, j ≤ l.length ∧ i = .int .i64 j ∧ w9.grownBy wr (some B) ∧ FrAtB wr base B (setAll (Fr.of k) (l.take j) (cs.take j))
theorem lens_of {k : Int} : (Fr.of k).lens := ⟨by show 0 ≤ _; omega, by show 0 ≤ _; omega, by show 0 ≤ _; omega⟩
/-- A whole frame is stored over another one. -/
def frPut (w : World) (B : Nat) (g : Fr) (A : Option Addr) (c : Nat) : World := ((((((((((w.setCell ⟨B, 0, none⟩ (.int .i64 g.kind)).setCell ⟨B, 1, none⟩ (.int .i64 g.seq)).setCell ⟨B, 2, none⟩ (.int .i64 g.got)).setCell ⟨B, 3, none⟩ (.int .i64 g.stream)).setCell ⟨B, 4, none⟩ (.int .i64 g.amount)).setCell ⟨B, 5, none⟩ (.int .i64 g.code)).setCell ⟨B, 6, none⟩ (.string g.who)).setCell ⟨B, 7, none⟩ (.string g.name)).setCell ⟨B, 8, none⟩ (.float .f64 g.weight)).setCell ⟨B, 9, none⟩ (.slice A g.bytes.length c))
theorem frPut_heap {w : World} {B : Nat} {f g : Fr} {A0 A : Option Addr} {c0 c : Nat} (h : w.heap[B]? = some (.cells (frCs f A0 c0) 33 (0, 0))) : (frPut w B g A c).heap[B]? = some (.cells (frCs g A c) 33 (0, 0)) := by
  have h0 : (w.setCell ⟨B, 0, none⟩ (.int .i64 g.kind)).heap[B]? = some (.cells #[.int .i64 g.kind, .int .i64 f.seq, .int .i64 f.got, .int .i64 f.stream, .int .i64 f.amount, .int .i64 f.code, .string f.who, .string f.name, .float .f64 f.weight, .slice A0 f.bytes.length c0] 33 (0, 0)) := heap_setCell_same _ B 0 _ _ (.int .i64 g.kind) h
  have h1 : ((w.setCell ⟨B, 0, none⟩ (.int .i64 g.kind)).setCell ⟨B, 1, none⟩ (.int .i64 g.seq)).heap[B]? = some (.cells #[.int .i64 g.kind, .int .i64 g.seq, .int .i64 f.got, .int .i64 f.stream, .int .i64 f.amount, .int .i64 f.code, .string f.who, .string f.name, .float .f64 f.weight, .slice A0 f.bytes.length c0] 33 (0, 0)) := heap_setCell_same _ B 1 _ _ (.int .i64 g.seq) h0
  have h2 : (((w.setCell ⟨B, 0, none⟩ (.int .i64 g.kind)).setCell ⟨B, 1, none⟩ (.int .i64 g.seq)).setCell ⟨B, 2, none⟩ (.int .i64 g.got)).heap[B]? = some (.cells #[.int .i64 g.kind, .int .i64 g.seq, .int .i64 g.got, .int .i64 f.stream, .int .i64 f.amount, .int .i64 f.code, .string f.who, .string f.name, .float .f64 f.weight, .slice A0 f.bytes.length c0] 33 (0, 0)) := heap_setCell_same _ B 2 _ _ (.int .i64 g.got) h1
  have h3 : ((((w.setCell ⟨B, 0, none⟩ (.int .i64 g.kind)).setCell ⟨B, 1, none⟩ (.int .i64 g.seq)).setCell ⟨B, 2, none⟩ (.int .i64 g.got)).setCell ⟨B, 3, none⟩ (.int .i64 g.stream)).heap[B]? = some (.cells #[.int .i64 g.kind, .int .i64 g.seq, .int .i64 g.got, .int .i64 g.stream, .int .i64 f.amount, .int .i64 f.code, .string f.who, .string f.name, .float .f64 f.weight, .slice A0 f.bytes.length c0] 33 (0, 0)) := heap_setCell_same _ B 3 _ _ (.int .i64 g.stream) h2
  have h4 : (((((w.setCell ⟨B, 0, none⟩ (.int .i64 g.kind)).setCell ⟨B, 1, none⟩ (.int .i64 g.seq)).setCell ⟨B, 2, none⟩ (.int .i64 g.got)).setCell ⟨B, 3, none⟩ (.int .i64 g.stream)).setCell ⟨B, 4, none⟩ (.int .i64 g.amount)).heap[B]? = some (.cells #[.int .i64 g.kind, .int .i64 g.seq, .int .i64 g.got, .int .i64 g.stream, .int .i64 g.amount, .int .i64 f.code, .string f.who, .string f.name, .float .f64 f.weight, .slice A0 f.bytes.length c0] 33 (0, 0)) := heap_setCell_same _ B 4 _ _ (.int .i64 g.amount) h3
  have h5 : ((((((w.setCell ⟨B, 0, none⟩ (.int .i64 g.kind)).setCell ⟨B, 1, none⟩ (.int .i64 g.seq)).setCell ⟨B, 2, none⟩ (.int .i64 g.got)).setCell ⟨B, 3, none⟩ (.int .i64 g.stream)).setCell ⟨B, 4, none⟩ (.int .i64 g.amount)).setCell ⟨B, 5, none⟩ (.int .i64 g.code)).heap[B]? = some (.cells #[.int .i64 g.kind, .int .i64 g.seq, .int .i64 g.got, .int .i64 g.stream, .int .i64 g.amount, .int .i64 g.code, .string f.who, .string f.name, .float .f64 f.weight, .slice A0 f.bytes.length c0] 33 (0, 0)) := heap_setCell_same _ B 5 _ _ (.int .i64 g.code) h4
  have h6 : (((((((w.setCell ⟨B, 0, none⟩ (.int .i64 g.kind)).setCell ⟨B, 1, none⟩ (.int .i64 g.seq)).setCell ⟨B, 2, none⟩ (.int .i64 g.got)).setCell ⟨B, 3, none⟩ (.int .i64 g.stream)).setCell ⟨B, 4, none⟩ (.int .i64 g.amount)).setCell ⟨B, 5, none⟩ (.int .i64 g.code)).setCell ⟨B, 6, none⟩ (.string g.who)).heap[B]? = some (.cells #[.int .i64 g.kind, .int .i64 g.seq, .int .i64 g.got, .int .i64 g.stream, .int .i64 g.amount, .int .i64 g.code, .string g.who, .string f.name, .float .f64 f.weight, .slice A0 f.bytes.length c0] 33 (0, 0)) := heap_setCell_same _ B 6 _ _ (.string g.who) h5
  have h7 : ((((((((w.setCell ⟨B, 0, none⟩ (.int .i64 g.kind)).setCell ⟨B, 1, none⟩ (.int .i64 g.seq)).setCell ⟨B, 2, none⟩ (.int .i64 g.got)).setCell ⟨B, 3, none⟩ (.int .i64 g.stream)).setCell ⟨B, 4, none⟩ (.int .i64 g.amount)).setCell ⟨B, 5, none⟩ (.int .i64 g.code)).setCell ⟨B, 6, none⟩ (.string g.who)).setCell ⟨B, 7, none⟩ (.string g.name)).heap[B]? = some (.cells #[.int .i64 g.kind, .int .i64 g.seq, .int .i64 g.got, .int .i64 g.stream, .int .i64 g.amount, .int .i64 g.code, .string g.who, .string g.name, .float .f64 f.weight, .slice A0 f.bytes.length c0] 33 (0, 0)) := heap_setCell_same _ B 7 _ _ (.string g.name) h6
  have h8 : (((((((((w.setCell ⟨B, 0, none⟩ (.int .i64 g.kind)).setCell ⟨B, 1, none⟩ (.int .i64 g.seq)).setCell ⟨B, 2, none⟩ (.int .i64 g.got)).setCell ⟨B, 3, none⟩ (.int .i64 g.stream)).setCell ⟨B, 4, none⟩ (.int .i64 g.amount)).setCell ⟨B, 5, none⟩ (.int .i64 g.code)).setCell ⟨B, 6, none⟩ (.string g.who)).setCell ⟨B, 7, none⟩ (.string g.name)).setCell ⟨B, 8, none⟩ (.float .f64 g.weight)).heap[B]? = some (.cells #[.int .i64 g.kind, .int .i64 g.seq, .int .i64 g.got, .int .i64 g.stream, .int .i64 g.amount, .int .i64 g.code, .string g.who, .string g.name, .float .f64 g.weight, .slice A0 f.bytes.length c0] 33 (0, 0)) := heap_setCell_same _ B 8 _ _ (.float .f64 g.weight) h7
  have h9 : ((((((((((w.setCell ⟨B, 0, none⟩ (.int .i64 g.kind)).setCell ⟨B, 1, none⟩ (.int .i64 g.seq)).setCell ⟨B, 2, none⟩ (.int .i64 g.got)).setCell ⟨B, 3, none⟩ (.int .i64 g.stream)).setCell ⟨B, 4, none⟩ (.int .i64 g.amount)).setCell ⟨B, 5, none⟩ (.int .i64 g.code)).setCell ⟨B, 6, none⟩ (.string g.who)).setCell ⟨B, 7, none⟩ (.string g.name)).setCell ⟨B, 8, none⟩ (.float .f64 g.weight)).setCell ⟨B, 9, none⟩ (.slice A g.bytes.length c)).heap[B]? = some (.cells #[.int .i64 g.kind, .int .i64 g.seq, .int .i64 g.got, .int .i64 g.stream, .int .i64 g.amount, .int .i64 g.code, .string g.who, .string g.name, .float .f64 g.weight, .slice A g.bytes.length c] 33 (0, 0)) := heap_setCell_same _ B 9 _ _ (.slice A g.bytes.length c) h8
  exact h9
theorem frPut_other (w : World) (B : Nat) (g : Fr) (A : Option Addr) {c k : Nat} (h : k ≠ B) : (frPut w B g A c).heap[k]? = w.heap[k]? := by
  have key : ∀ (w : World) (i : Nat) (v : Value), (w.setCell ⟨B, i, none⟩ v).heap[k]? = w.heap[k]? := fun w i v => heap_setCell_other w _ k v h
  unfold frPut
  rw [key, key, key, key, key, key, key, key, key, key]
theorem frPut_size (w : World) (B : Nat) (g : Fr) (A : Option Addr) (c : Nat) : (frPut w B g A c).heap.size = w.heap.size := by
  unfold frPut
  rw [World.size_setCell, World.size_setCell, World.size_setCell, World.size_setCell, World.size_setCell, World.size_setCell, World.size_setCell, World.size_setCell, World.size_setCell, World.size_setCell]
theorem frPut_below {B0 : Nat} {w0 w : World} {B : Nat} {g : Fr} {A : Option Addr} {c : Nat} (h : Below B0 w0 w) (hB : B0 ≤ B) : Below B0 w0 (frPut w B g A c) := by
  have key : ∀ (w : World) (i : Nat) (v : Value), Below B0 w0 w → Below B0 w0 (w.setCell ⟨B, i, none⟩ v) := fun w i v h => h.setCell (by exact hB) v
  unfold frPut
  exact key _ _ _ (key _ _ _ (key _ _ _ (key _ _ _ (key _ _ _ (key _ _ _ (key _ _ _ (key _ _ _ (key _ _ _ (key _ _ _ h)))))))))
/-- What comes of the fields. -/
def getTail (k : Int) (r : Except Er (List Cell)) : Option Fr := match r with
  | .error _ => none
  | .ok cs => if checkF (setAll (Fr.of k) (shapeF k) cs) = true then some (setAll (Fr.of k) (shapeF k) cs) else none
theorem get_cases (b : Bs) (h1 : ¬ (b.length < 7 ∨ b.length > 1024)) (h2 : (sha (b.take (b.length - 4))).take 4 = b.drop (b.length - 4)) (h3 : num (b.take 2) = b.length - 6) :
    getF b = getTail (b.getD 2 0).toNat (decode (layoutF (b.getD 2 0).toNat) ((b.take (b.length - 4)).drop 3)) := by
  unfold getF
  rw [if_neg h1, if_neg (by rintro (h | h); exact h h2; exact h h3)]
  rfl
/-- A cell that is set to what it holds. -/
theorem setCell_id {w : World} {g i : Nat} {cs : Array Value} {t : TypeId} {v : Value} (h : w.heap[g]? = some (.cells cs t (0, 0))) (hi : cs[i]? = some v) : w.setCell ⟨g, i, none⟩ v = w := by
  have hg : g < w.heap.size := (Array.getElem?_eq_some_iff.1 h).1
  have he : (w.setCell ⟨g, i, none⟩ v).heap = w.heap := by
    apply Array.ext_getElem?
    intro k
    by_cases hk : k = g
    · subst hk
      rw [heap_setCell_same _ _ _ _ _ _ h, h]
      congr 2
      apply Array.ext_getElem?
      intro j
      rw [Array.getElem?_setIfInBounds]
      split
      · rename_i hj
        subst hj
        rw [if_pos (Array.getElem?_eq_some_iff.1 hi).1, hi]
      · rfl
    · exact heap_setCell_other _ _ _ _ hk
  cases w
  simp only [World.setCell] at he ⊢
  rw [he]
/-- Two bytes as a number. -/
theorem or_byte2 (x y : Nat) (hx : x < 256) (hy : y < 256) : bits .or .i64 ((x : Int) * 256) (y : Int) = ((256 * x + y : Nat) : Int) := by
  show IntKind.i64.wrap ((BitVec.ofInt 64 ((x : Int) * 256) ||| BitVec.ofInt 64 (y : Int)).toNat : Int) = _
  have h64 : ∀ n : Nat, n < 18446744073709551616 → (BitVec.ofInt 64 (n : Int)).toNat = n := fun n hn => by
    rw [BitVec.ofInt_natCast, BitVec.toNat_ofNat]; exact Nat.mod_eq_of_lt (by omega)
  have e1 : (x : Int) * 256 = ((256 * x : Nat) : Int) := by omega
  rw [e1, BitVec.toNat_or, h64 _ (by omega), h64 _ (by omega)]
  have e3 : 256 * x ||| y = 256 * x + y := (Nat.two_pow_add_eq_or_of_lt (i := 8) (by omega) x).symm
  rw [e3]
  exact IntWalk.i64_in _ (by omega)
theorem num_two (b : Bs) (h : 2 ≤ b.length) : num (b.take 2) = 256 * (b[0]'(by omega)).toNat + (b[1]'(by omega)).toNat := by
  match b, h with
  | x :: y :: r, _ => simp [num]
set_option maxRecDepth 8000 in
set_option maxHeartbeats 6400000 in
theorem getF_long (es : Er → Addr) (w : World) (A : Option Addr) (c : Nat) (b : Bs) (hE : GEnv w es) (hR : RdC (· < w.heap.size) w A (bvs b)) (hc : b.length ≤ c) (h7 : 7 ≤ b.length) (h10 : b.length ≤ 1024) :
    Calls Tryd.prog 77 #[.slice A b.length c] w (GetFP es b w) := by
  obtain ⟨ad, rfl, hadb, hcc⟩ := hR (by intro e; have : b = [] := List.map_eq_nil_iff.1 e; subst this; simp at h7)
  have hcell0 := hcc 0 _ (bvs_get b 0 (by omega))
  have hcell1 := hcc 1 _ (bvs_get b 1 (by omega))
  have hcell2 := hcc 2 _ (bvs_get b 2 (by omega))
  obtain ⟨F, hF⟩ : ∃ F, F = b.take (b.length - 4) := ⟨_, rfl⟩
  have hfl : F.length = b.length - 4 := by rw [hF, List.length_take]; omega
  obtain ⟨w1, hw1⟩ : ∃ W, W = w.alloc (Obj.cells (frCs (Fr.of 0) none 0) 33) := ⟨_, rfl⟩
  have hb1 : Below w.heap.size w w1 := by rw [hw1]; exact below_box _ _
  have hs1 : w1.heap.size = w.heap.size + 1 := by rw [hw1]; simp
  have hh1 : w1.heap[w.heap.size]? = some (.cells (frCs (Fr.of 0) none 0) 33 (0, 0)) := by rw [hw1]; exact heap_alloc_new _ _
  obtain ⟨w2, hw2⟩ : ∃ W, W = w1.alloc (Obj.cells ([.slice (some ad) (b.length - 4) (b.length - 4)] : List Value).toArray 31) := ⟨_, rfl⟩
  have hb2 : Below w1.heap.size w1 w2 := by rw [hw2]; exact below_box _ _
  have hRF : RdC (· < w1.heap.size) w1 (some ad) (bvs F) := by
    rw [hF, bvs_take]
    exact (hR.step hb1).take _
  have hchk : Calls Tryd.prog 74 #[.slice (some ⟨w.heap.size + 1, 0, none⟩) 1 1] ((w.alloc (Obj.cells #[.int .i64 0, .int .i64 0, .int .i64 0, .int .i64 0, .int .i64 0, .int .i64 0, .string ⟨#[]⟩, .string ⟨#[]⟩, .float .f64 0, .slice none 0 0] 33)).alloc (Obj.cells #[.slice (some ad) (b.length - 4) (b.length - 4)] 31)) (CheckP w2 F) := by
    have hrw := rows_new (rows_one hRF (Nat.le_of_eq hfl) hfl)
    rw [← hw2, hs1] at hrw
    have h := check_any w2 (some ⟨w.heap.size + 1, 0, none⟩) 1 [.slice (some ad) (b.length - 4) (b.length - 4)] [F] ((hE.step hb1).step hb2).round hrw.1 hrw.2 (by simp) (by simp; omega)
    rw [show [F].flatten = F by simp] at h
    rw [hw2, hw1] at h ⊢
    exact h
  have HB2 := Lib.hid (below_on hb1 hb2)
  have HS2 := Lib.hid (show w2.heap.size = w.heap.size + 2 by rw [hw2]; simp; omega)
  have HH2 := Lib.hid ((hb2.block w.heap.size (by omega)).trans hh1)
  have HF := Lib.hid hF
  have HFl := Lib.hid hfl
  have HChk := Lib.hid hchk
  have HC0 := Lib.hid hcell0
  have HC1 := Lib.hid hcell1
  have HC2 := Lib.hid hcell2
  have HAd := Lib.hid hadb
  clear hcc hcell0 hcell1 hcell2 hF hfl hw1 hb1 hs1 hh1 hw2 hb2 hRF hchk hadb
  have HE := Lib.hid hE
  have HR := Lib.hid hR
  have k7 : ¬ (b.length : Int) < 7 := by omega
  have k10 : ¬ (1024 : Int) < (b.length : Int) := by omega
  have k4 : (b.length : Int) - 4 ≤ (c : Int) := by omega
  have k40 : (0 : Int) ≤ (b.length : Int) - 4 := by omega
  clear hE hR
  go_enter Tryd.func77, Tryd.ntmps77
  go_wp2_with fail
  refine HChk.out.mono ?_
  rintro e w3 ⟨rfl, hb3⟩
  obtain ⟨y0, y1, y2, y3, hy⟩ := four (sha4_len F)
  have HB3 := Lib.hid (below_on HB2.out hb3)
  have HH3 := Lib.hid ((hb3.block w.heap.size (by have := HS2.out; omega)).trans HH2.out)
  have hz3 : w.heap.size + 2 ≤ w3.heap.size := by have := hb3.size; have := HS2.out; omega
  have HY := Lib.hid hy
  rw [hy]
  clear hb3 hy HChk HH2
  unfold bvs bv
  simp only [List.map_cons, List.map_nil]
  go_wp2_with fail
  obtain ⟨w4, hw4⟩ : ∃ W, W = w3.alloc (Obj.cells #[.int .u8 y0.toNat, .int .u8 y1.toNat, .int .u8 y2.toNat, .int .u8 y3.toNat] 131) := ⟨_, rfl⟩
  have hb4 : Below w3.heap.size w3 w4 := by rw [hw4]; exact below_box _ _
  have hs4 : w4.heap.size = w3.heap.size + 1 := by rw [hw4]; simp
  have hry : RdC (· < w4.heap.size) w4 (some ⟨w3.heap.size, 0, none⟩) (bvs [y0, y1, y2, y3]) := by
    rw [hw4]
    exact (RdC.new w3 #[.int .u8 y0.toNat, .int .u8 y1.toNat, .int .u8 y2.toNat, .int .u8 y3.toNat] 131).mono fun b hb => by simp; omega
  rw [show w3.alloc (Obj.cells #[.int .u8 y0.toNat, .int .u8 y1.toNat, .int .u8 y2.toNat, .int .u8 y3.toNat] 131) = w4 from hw4.symm]
  have hcne : ¬ c = b.length - 4 := by omega
  have HB4 := Lib.hid (below_on HB3.out hb4)
  have HH4 := Lib.hid ((hb4.block w.heap.size (by omega)).trans HH3.out)
  have HS4 := Lib.hid hs4
  have HRy := Lib.hid hry
  have hcell0 := cell_on HC0.out (by rw [add_block]; exact HAd.out) HB4.out
  have hcell1 := cell_on HC1.out (by rw [add_block]; exact HAd.out) HB4.out
  clear hw4 hb4 hs4 hry
  have m0 : ((b.length - 4 : Nat) : Int) ≤ (b.length : Int) := by omega
  have m1 : (b.length : Int) ≤ (c : Int) := by omega
  have hal : ∀ k, Calls Tryd.prog 81 #[.slice (some ⟨w3.heap.size, 0, none⟩) 4 4, .slice (some (ad.add (b.length - 4))) (b.length - (b.length - 4)) (c - (b.length - 4))] (w4.drewN k) (fun e w' => e = .returned (.bool (decide ([y0, y1, y2, y3] = b.drop (b.length - 4)))) ∧ ∃ m, w' = (w4.drewN k).drewN m) := fun k => by
    have hd : RdC (· < w.heap.size) w (some (ad.add (b.length - 4))) (bvs (b.drop (b.length - 4))) := by
      have := HR.out.drop (b.length - 4) false (by simp)
      simpa [bvs, List.map_drop] using this
    have h := alike_any (w4.drewN k) _ _ (some ⟨w3.heap.size, 0, none⟩) (some (ad.add (b.length - 4))) 4 (c - (b.length - 4)) [y0, y1, y2, y3] (b.drop (b.length - 4)) (HRy.out.drewN k) ((hd.step HB4.out).drewN k) (by simp) (by rw [List.length_drop]; omega)
    rw [List.length_drop] at h
    exact h
  have HSum := Lib.hid (show decide ([y0, y1, y2, y3] = b.drop (b.length - 4)) = true ↔ (sha (b.take (b.length - 4))).take 4 = b.drop (b.length - 4) by rw [decide_eq_true_iff, ← HF.out, HY.out])
  have HAl := Lib.hid hal
  clear hal
  cases hr : decide ([y0, y1, y2, y3] = b.drop (b.length - 4)) with
  | false =>
    have HG := Lib.hid (show getF b = none from get_sum (fun e => by rw [HSum.out.2 e] at hr; cases hr))
    rw [hr] at HAl
    clear hr
    go_quiet ((go_at_call 81; exact Calls.quiet_of (HAl.out _)))
    obtain ⟨w5, hw5⟩ : ∃ W, W = w4.drewN nq := ⟨_, rfl⟩
    have HB5 := Lib.hid (show Below w.heap.size w w5 by rw [hw5]; exact below_drewN HB4.out _)
    have hh5 : w5.heap[w.heap.size]? = some (.cells (frCs (Fr.of 0) none 0) 33 (0, 0)) := by rw [hw5]; exact HH4.out
    rw [← hw5]
    obtain ⟨d0, d1, d2, d3, d4, d5, d6, d7, d8, d9⟩ := FrC.of_heap hh5
    have hfz : ∀ j, w5.frozen? ⟨w.heap.size, j, none⟩ = false := fun j => frozen_of_row w5 w.heap.size j _ _ hh5
    have he := (HE.out.frame.below HB5.out).at
    unfold errV at he
    have hgl := HE.out.frame.g_lt
    have hgne : 1 ≠ w.heap.size := Nat.ne_of_lt hgl
    have s0 : w5.setCell ⟨w.heap.size, 0, none⟩ (.int .i64 0) = w5 := setCell_id hh5 rfl
    have s1 : w5.setCell ⟨w.heap.size, 1, none⟩ (.int .i64 0) = w5 := setCell_id hh5 rfl
    have s2 : w5.setCell ⟨w.heap.size, 2, none⟩ (.int .i64 0) = w5 := setCell_id hh5 rfl
    have s3 : w5.setCell ⟨w.heap.size, 3, none⟩ (.int .i64 0) = w5 := setCell_id hh5 rfl
    have s4 : w5.setCell ⟨w.heap.size, 4, none⟩ (.int .i64 0) = w5 := setCell_id hh5 rfl
    have s5 : w5.setCell ⟨w.heap.size, 5, none⟩ (.int .i64 0) = w5 := setCell_id hh5 rfl
    have s6 : w5.setCell ⟨w.heap.size, 6, none⟩ (.string ⟨#[]⟩) = w5 := setCell_id hh5 rfl
    have s7 : w5.setCell ⟨w.heap.size, 7, none⟩ (.string ⟨#[]⟩) = w5 := setCell_id hh5 rfl
    have s8 : w5.setCell ⟨w.heap.size, 8, none⟩ (.float .f64 0) = w5 := setCell_id hh5 rfl
    have s9 : w5.setCell ⟨w.heap.size, 9, none⟩ (.slice none 0 0) = w5 := setCell_id hh5 rfl
    clear hw5 hcell0 hcell1 hh5
    go_wp2_with fail
    go_region
    clear s0 s1 s2 s3 s4 s5 s6 s7 s8 s9
    go_wp2_with fail
    exact bodyPost_ret (v := .tuple #[frV (Fr.of 0) none 0, errV (es .frame)]) (by simp [results, Tryd.results77, go_sem, frV, Fr.of, noS, errV, d0, d1, d2, d3, d4, d5, d6, d7, d8, d9]) rfl (GetFP.no HG.out (by repeat (first | exact HB5.out | refine Below.drew ?_ | refine below_drewN ?_ _ | refine Below.setCell ?_ (Nat.le_refl _) _)) rfl)
  | true =>
    have hsum := HSum.out.1 hr
    have HSm := Lib.hid hsum
    rw [hr] at HAl
    clear hr hsum
    have hb2 := num_two b (by omega)
    have hx0 := (b[0]'(by omega)).toNat_lt
    have hx1 := (b[1]'(by omega)).toNat_lt
    unfold bv at hcell0 hcell1
    generalize (b[0]'(by omega)).toNat = x0 at *
    generalize (b[1]'(by omega)).toNat = x1 at *
    have hor := or_byte2 x0 x1 hx0 hx1
    have HN2 := Lib.hid hb2
    have hadd0 : ad.add 0 = ad := by unfold Addr.add; simp
    have hcell0' := hcell0
    rw [hadd0] at hcell0'
    have hadd1 : ad.add 1 = ⟨ad.block, ad.off + 1, none⟩ := by unfold Addr.add; simp
    rw [hadd1] at hcell1
    have HAdd := Lib.hid hadd0
    clear hadd1
    have j6 : IntKind.i64.wrap ((b.length - 4 : Nat) - 2 : Int) = ((b.length - 6 : Nat) : Int) := by rw [IntWalk.i64_in _ (by omega)]; omega
    have j7 : IntKind.i64.wrap ((x0 : Int) * 256) = (x0 : Int) * 256 := IntWalk.i64_in _ (by omega)
    have i0 : (0 : Int) < (b.length : Int) := by omega
    have i1 : (1 : Int) < (b.length : Int) := by omega
    clear hb2 hadd0
    by_cases hnum : 256 * x0 + x1 = b.length - 6
    · have hne : (((256 * x0 + x1 : Nat) : Int) != ((b.length - 6 : Nat) : Int)) = false := by rw [bne_eq_false_iff_eq, hnum]
      have HNum := Lib.hid (show num (b.take 2) = b.length - 6 by rw [HN2.out, hnum])
      clear hnum
      go_quiet ((go_at_call 81; exact Calls.quiet_of (HAl.out _)))
      obtain ⟨w5, hw5⟩ : ∃ W, W = w4.drewN nq := ⟨_, rfl⟩
      have HB5 := Lib.hid (show Below w.heap.size w w5 by rw [hw5]; exact below_drewN HB4.out _)
      have HH5 := Lib.hid (show w5.heap[w.heap.size]? = some (.cells (frCs (Fr.of 0) none 0) 33 (0, 0)) by rw [hw5]; exact HH4.out)
      have hz5 : w.heap.size < w5.heap.size := (Array.getElem?_eq_some_iff.1 HH5.out).1
      rw [← hw5]
      have hcell2 := cell_on HC2.out (by rw [add_block]; exact HAd.out) HB5.out
      rw [show ad.add 2 = ⟨ad.block, ad.off + 2, none⟩ by unfold Addr.add; simp] at hcell2
      unfold bv at hcell2
      have hkd : b.getD 2 0 = b[2]'(by omega) := by rw [List.getD_eq_getElem?_getD, List.getElem?_eq_getElem (by omega)]; rfl
      have HKd := Lib.hid hkd
      generalize (b[2]'(by omega)) = kb at *
      obtain ⟨k, hk⟩ : ∃ k : Int, k = (kb.toNat : Int) := ⟨_, rfl⟩
      rw [← hk] at hcell2
      have hkr : 0 ≤ k ∧ k ≤ 255 := by have := kb.toNat_lt; omega
      obtain ⟨hk0, hk1⟩ := hkr
      have HK := Lib.hid hk
      have i2 : (2 : Int) < ((b.length - 4 : Nat) : Int) := by omega
      have HGf := Lib.hid (show getF b = getTail k (decode (layoutF k) (F.drop 3)) by rw [HF.out, HK.out, ← HKd.out]; exact get_cases b (by omega) HSm.out HNum.out)
      have hRF : RdC (· < w5.heap.size) w5 (some ad) (bvs F) := by
        rw [HF.out, bvs_take]
        exact (HR.out.step HB5.out).take _
      have HRF := Lib.hid hRF
      obtain ⟨w6, hw6⟩ : ∃ W, W = w5.alloc (Obj.cells (frCs (Fr.of k) none 0) 33) := ⟨_, rfl⟩
      have hb6 : Below w5.heap.size w5 w6 := by rw [hw6]; exact below_box _ _
      have HAt6 := Lib.hid (show FrAtB w6 (w.heap.size + 1) w5.heap.size (Fr.of k) by rw [hw6]; exact FrAtB.new w5 _ k)
      have hs6 : w6.heap.size = w5.heap.size + 1 := by rw [hw6]; simp
      have hk6 : FrC w6 w5.heap.size (Fr.of k) none 0 := by rw [hw6]; exact FrC.box w5 _ none 0 _
      have HB6 := Lib.hid (below_then HB5.out HB5.out.size hb6)
      have HB56 := Lib.hid hb6
      have HK6 := Lib.hid hk6
      have HS6 := Lib.hid hs6
      have HW6 := Lib.hid (show w5.alloc (Obj.cells #[.int .i64 k, .int .i64 0, .int .i64 0, .int .i64 0, .int .i64 0, .int .i64 0, .string ⟨#[]⟩, .string ⟨#[]⟩, .float .f64 0, .slice none 0 0] 33) = w6 from hw6.symm)
      clear hw5 hcell0 hcell0' hcell1 hor j6 j7 hkd hk hRF hb6 hs6 hk6 hw6
      go_wp2_with fail
      rw [HW6.out]
      clear hcell2
      have hc6 : w6.cell? ⟨w5.heap.size, 0, none⟩ = some (.int .i64 k) := HK6.out.c0
      have hlt6 : w5.heap.size < w6.heap.size := by rw [HS6.out]; omega
      have i3 : (3 : Int) ≤ ((b.length - 4 : Nat) : Int) := by omega
      by_cases h3 : b.length - 4 = 3
      · have hdec : ∀ W, Below w6.heap.size w6 W → Calls Tryd.prog 82 #[.string (strOf (layoutF k)), .slice (some ad) 0 0] W (DecPost es W (decode (layoutF k) (F.drop 3))) := fun W hW => by
          have hrd : RdC (· < w5.heap.size) w5 (some ad) (bvs (F.drop 3)) := by
            have e0 : F.drop 3 = [] := List.drop_eq_nil_of_le (by rw [HFl.out]; omega)
            rw [e0]
            exact RdC.nil _ _ _
          have h := decode_any es W (strOf (layoutF k)) (some ad) (b.length - 4 - 3) (b.length - 4 - 3) (F.drop 3) (by rw [List.length_drop, HFl.out]) (HE.out.step (below_on HB6.out hW)).e5 ((hrd.step HB56.out).step hW) (by rw [strOf_size]; have := layout_len k; omega) (by rw [List.length_drop, HFl.out]; omega) (by rw [List.length_drop, HFl.out]; omega)
          rw [strOf_list, show b.length - 4 - 3 = 0 by omega] at h
          exact h
        cases hd : decode (layoutF k) (F.drop 3) with
        | error er =>
          rw [hd] at hdec
          have HDec := Lib.hid hdec
          have HG := Lib.hid (show getF b = none by rw [HGf.out, hd]; rfl)
          clear hdec hd
          go_region_held3 (fun w' => w'.cell? ⟨w5.heap.size, 0, none⟩ = some (.int .i64 k))
            (first | go_keep | exact (((Below.refl _ _).drew.trans hb7).cell (p := ⟨w5.heap.size, 0, none⟩) hlt6).trans hc6 | exact (((((Below.refl _ _).drew.trans hb7).trans (hb8.mono hb7.size))).cell (p := ⟨w5.heap.size, 0, none⟩) hlt6).trans hc6)
            (first
              | (go_at_call 73; refine (layout_any k _).mono ?_; rintro e w7 ⟨rfl, hb7⟩)
              | (go_at_call 82; refine (HDec.out _ ((Below.refl _ _).drew.trans hb7)).mono ?_; rintro e w8 ⟨hb8, rfl⟩))
          have hb67 : Below w6.heap.size w6 w7 := (Below.refl _ _).drew.trans hb7
          have hz67 : w6.heap.size ≤ w7.heap.size := hb67.size
          have HB8 := Lib.hid (below_then (below_then HB6.out HB6.out.size hb67) (by have := HB6.out.size; omega) hb8)
          have HH8 := Lib.hid (show w8.heap[w.heap.size]? = some (.cells (frCs (Fr.of 0) none 0) 33 (0, 0)) from ((hb67.trans (hb8.mono hz67)).block w.heap.size (by omega)).trans ((HB56.out.block w.heap.size hz5).trans HH5.out))
          clear hb7 hb8 hc6
          unfold errV
          obtain ⟨d0, d1, d2, d3, d4, d5, d6, d7, d8, d9⟩ := FrC.of_heap HH8.out
          have hfz : ∀ j, w8.frozen? ⟨w.heap.size, j, none⟩ = false := fun j => frozen_of_row w8 w.heap.size j _ _ HH8.out
          have he := (HE.out.frame.below HB8.out).at
          unfold errV at he
          have hgl := HE.out.frame.g_lt
          have hgne : 1 ≠ w.heap.size := Nat.ne_of_lt hgl
          have s0 : w8.setCell ⟨w.heap.size, 0, none⟩ (.int .i64 0) = w8 := setCell_id HH8.out rfl
          have s1 : w8.setCell ⟨w.heap.size, 1, none⟩ (.int .i64 0) = w8 := setCell_id HH8.out rfl
          have s2 : w8.setCell ⟨w.heap.size, 2, none⟩ (.int .i64 0) = w8 := setCell_id HH8.out rfl
          have s3 : w8.setCell ⟨w.heap.size, 3, none⟩ (.int .i64 0) = w8 := setCell_id HH8.out rfl
          have s4 : w8.setCell ⟨w.heap.size, 4, none⟩ (.int .i64 0) = w8 := setCell_id HH8.out rfl
          have s5 : w8.setCell ⟨w.heap.size, 5, none⟩ (.int .i64 0) = w8 := setCell_id HH8.out rfl
          have s6 : w8.setCell ⟨w.heap.size, 6, none⟩ (.string ⟨#[]⟩) = w8 := setCell_id HH8.out rfl
          have s7 : w8.setCell ⟨w.heap.size, 7, none⟩ (.string ⟨#[]⟩) = w8 := setCell_id HH8.out rfl
          have s8 : w8.setCell ⟨w.heap.size, 8, none⟩ (.float .f64 0) = w8 := setCell_id HH8.out rfl
          have s9 : w8.setCell ⟨w.heap.size, 9, none⟩ (.slice none 0 0) = w8 := setCell_id HH8.out rfl
          go_wp2_with fail
          go_region
          clear s0 s1 s2 s3 s4 s5 s6 s7 s8 s9
          go_wp2_with fail
          exact bodyPost_ret (v := .tuple #[frV (Fr.of 0) none 0, errV (es .frame)]) (by simp [results, Tryd.results77, go_sem, frV, Fr.of, noS, errV, d0, d1, d2, d3, d4, d5, d6, d7, d8, d9]) rfl (GetFP.no HG.out (by repeat (first | exact HB8.out | refine Below.drew ?_ | refine below_drewN ?_ _ | refine Below.setCell ?_ (Nat.le_refl _) _)) rfl)
        | ok cs =>
          rw [hd] at hdec
          have HDec := Lib.hid hdec
          have HGt := Lib.hid (show getF b = if checkF (setAll (Fr.of k) (shapeF k) cs) = true then some (setAll (Fr.of k) (shapeF k) cs) else none by rw [HGf.out, hd]; rfl)
          have HCl := Lib.hid (show cs.length = (shapeF k).length by rw [(enc_dec hd).2.1]; simp [layoutF])
          have HCs := Lib.hid (show ∀ c ∈ cs, c.s.size ≤ 100000 from fun c hc => by
            have h1 := size_le_cost cs c hc
            have h2 := (enc_dec hd).2.2.2
            have h4 := layout_len k
            rw [List.length_drop, HFl.out] at h2
            omega)
          clear hdec hd
          go_region_held3 (fun w' => w'.cell? ⟨w5.heap.size, 0, none⟩ = some (.int .i64 k))
            (first | go_keep | exact (((Below.refl _ _).drew.trans hb7).cell (p := ⟨w5.heap.size, 0, none⟩) hlt6).trans hc6 | exact (((((Below.refl _ _).drew.trans hb7).trans (hb8.mono hb7.size))).cell (p := ⟨w5.heap.size, 0, none⟩) hlt6).trans hc6)
            (first
              | (go_at_call 73; refine (layout_any k _).mono ?_; rintro e w7 ⟨rfl, hb7⟩)
              | (go_at_call 82; refine (HDec.out _ ((Below.refl _ _).drew.trans hb7)).mono ?_; rintro e w8 ⟨hb8, v8, rfl, ho8⟩))
          have hb67 : Below w6.heap.size w6 w7 := (Below.refl _ _).drew.trans hb7
          have hb68 : Below w6.heap.size w6 w8 := hb67.trans (hb8.mono hb67.size)
          obtain ⟨A8, c8, hv8, _, _⟩ := own_slice ho8
          subst hv8
          have HR8 := Lib.hid (RdC.of_own ho8)
          have HB8 := Lib.hid (below_then HB6.out HB6.out.size hb68)
          have HH8 := Lib.hid ((hb68.block w.heap.size (by omega)).trans ((HB56.out.block w.heap.size hz5).trans HH5.out))
          have HAt8 := Lib.hid (HAt6.out.below hb68)
          have hc8 := (HK6.out.on hlt6 hb68).c0
          have hz7 : w6.heap.size ≤ w7.heap.size := hb67.size
          have hz8 : w7.heap.size ≤ w8.heap.size := hb8.size
          obtain ⟨l, hlk⟩ : ∃ l, l = shapeF k := ⟨_, rfl⟩
          have hsh := shape_any k w8
          have hsl := shape_lt k
          have hl3 := layout_len k
          rw [show (layoutF k).length = (shapeF k).length by simp [layoutF]] at hl3
          rw [← hlk] at HGt HCl hsh hsl hl3
          have HSh := Lib.hid hsh
          have HSl := Lib.hid hsl
          clear hb67 hb68 hb7 hb8 hc6 ho8 hsh hsl hlk
          go_wp2_with fail
          refine HSh.out.mono ?_
          rintro e w9 ⟨hb9, AL, rfl, _, hn1, hRL⟩
          have HB9 := Lib.hid (below_then HB8.out HB8.out.size hb9)
          have HH9 := Lib.hid ((hb9.block w.heap.size (by omega)).trans HH8.out)
          have HAt9 := Lib.hid (HAt8.out.below hb9)
          have HR9 := Lib.hid ((HR8.out.move (fun b hb => hb9.block b hb.2)).mono (fun b hb => (⟨by omega, Nat.lt_of_lt_of_le hb.2 hb9.size⟩ : b ≠ w5.heap.size ∧ b < w9.heap.size)))
          have HRL := Lib.hid (hRL.mono (fun b hb => (⟨by omega, hb.2⟩ : b ≠ w5.heap.size ∧ b < w9.heap.size)))
          have hz9 : w8.heap.size ≤ w9.heap.size := hb9.size
          have HN1 := Lib.hid hn1
          clear hb9 hn1 hRL hc8 HSh
          go_wp2_with fail
          go_loopw [79] (fun i wr => GetRel k l cs w9 (w.heap.size + 1) w5.heap.size i wr) (fun i _ => l.length - (intOf i).toNat)
          case atStart => exact ⟨0, Nat.zero_le _, rfl, World.grownBy.refl _ _, by have := HAt9.out; cases l <;> exact this⟩
          case round =>
            obtain ⟨j, hj, rfl, hg, hat⟩ := hrel
            have HG := Lib.hid hg
            have HAtr := Lib.hid hat
            have hzr : w9.heap.size ≤ wr.heap.size := hg.size
            have HBr := Lib.hid (below_grown HB9.out HB9.out.size hg (fun q hq => by have h1 : w5.heap.size = q := Option.some.inj hq; omega))
            have HHr := Lib.hid ((hg.block w.heap.size (by omega) (fun e => by have h1 : w.heap.size = w5.heap.size := Option.some.inj e; omega)).trans HH9.out)
            have HRLr := Lib.hid (HRL.out.move (fun b hb => hg.block b hb.2 (fun e => by have h1 : b = w5.heap.size := Option.some.inj e; exact hb.1 h1)))
            have HR8r := Lib.hid (HR9.out.move (fun b hb => hg.block b hb.2 (fun e => by have h1 : b = w5.heap.size := Option.some.inj e; exact hb.1 h1)))
            clear hg hat
            by_cases hlt : j < l.length
            · obtain ⟨al, hal, hbk, hcl⟩ := HRLr.out (by intro e; rw [List.map_eq_nil_iff] at e; rw [e] at hlt; simp at hlt)
              have hAL := HN1.out (by intro e; rw [e] at hlt; simp at hlt)
              rw [hAL] at hal
              injection hal with hal
              subst hal
              subst hAL
              have hcell := hcl j (natV l[j]) (by simp [hlt])
              rw [addr0] at hcell
              have hjc : j < cs.length := by rw [HCl.out]; exact hlt
              have hx9 := HSl.out l[j] (List.getElem_mem hlt)
              obtain ⟨ac, hac, hok, e0, e1, e2⟩ := cells_at HR8r.out j hjc
              have HSn := Lib.hid (setAll_snoc l cs (Fr.of k) j hlt hjc)
              clear hcl
              unfold natV at hcell
              generalize l[j] = x at *
              generalize cs[j] = cx at *
              subst hac
              have j0 : (0 : Int) ≤ (j : Int) := by omega
              have j1 : (j : Int) < (l.length : Int) := by omega
              have j2 : (j : Int) < (cs.length : Int) := by omega
              have hst := setFB_any wr (w.heap.size + 1) w5.heap.size (setAll (Fr.of k) (l.take j) (cs.take j)) x cx hx9 (by omega) HAtr.out
              unfold cellV at hst
              have HSt := Lib.hid hst
              clear hst
              go_wp2_with fail
              refine HSt.out.mono ?_
              rintro e wb ⟨rfl, hgb, hatb⟩
              have HGb := Lib.hid (HG.out.trans hgb)
              have HAtb := Lib.hid hatb
              clear hgb hatb hcell e0 e1 e2
              go_wp2_with fail
              go_roundw
              case rel => exact ⟨j + 1, by omega, by go_num, HGb.out, by rw [HSn.out]; exact HAtb.out⟩
              case measure => simp [intOf]; omega
            · have HE1 := Lib.hid (show l.take j = l from List.take_of_length_le (by omega))
              have HE2 := Lib.hid (show cs.take j = cs from List.take_of_length_le (by rw [HCl.out]; omega))
              obtain ⟨g, hg⟩ : ∃ g, g = setAll (Fr.of k) l cs := ⟨_, rfl⟩
              rw [HE1.out, HE2.out, ← hg] at HAtr
              rw [← hg] at HGt
              have hgl : g.lens := by rw [hg]; exact setAll_lens l cs _ lens_of HCs.out
              have HGl := Lib.hid hgl
              obtain ⟨Ag, cg, hhg, hRg, hcg⟩ := HAtr.out
              have HRg := Lib.hid hRg
              have HCg := Lib.hid hcg
              obtain ⟨g0, g1, g2, g3, g4, g5, g6, g7, g8, g9⟩ := FrC.of_heap hhg
              have hck := checkF_any es g Ag cg wr (HE.out.step HBr.out).fenv hgl (hRg.mono (fun b hb => hb.2.2))
              have hGk := (FrC.of_heap hhg)
              have HGk := Lib.hid hGk
              clear hg hgl hhg hRg hcg hGk
              cases hcc : checkF g with
              | false =>
                have HGn := Lib.hid (show getF b = none by rw [HGt.out, hcc]; rfl)
                have hck2 := hck.mono (fun e w' h => (⟨by have h1 := h.1; rw [if_neg (by rw [hcc]; simp)] at h1; exact h1, h.2⟩ : e = .returned (errV (es .frame)) ∧ Below wr.heap.size wr w'))
                have HCk := Lib.hid hck2
                clear hck hck2 hcc
                unfold frV at HCk
                go_wp2_with fail
                refine HCk.out.mono ?_
                rintro e wd ⟨rfl, hbd⟩
                have HBd := Lib.hid (below_then HBr.out HBr.out.size hbd)
                have HHd := Lib.hid ((hbd.block w.heap.size (by omega)).trans HHr.out)
                clear hbd g0 g1 g2 g3 g4 g5 g6 g7 g8 g9
                unfold errV
                obtain ⟨d0, d1, d2, d3, d4, d5, d6, d7, d8, d9⟩ := FrC.of_heap HHd.out
                have hfz : ∀ j, wd.frozen? ⟨w.heap.size, j, none⟩ = false := fun j => frozen_of_row wd w.heap.size j _ _ HHd.out
                have he := (HE.out.frame.below HBd.out).at
                unfold errV at he
                have hgl := HE.out.frame.g_lt
                have hgne : 1 ≠ w.heap.size := Nat.ne_of_lt hgl
                have s0 : wd.setCell ⟨w.heap.size, 0, none⟩ (.int .i64 0) = wd := setCell_id HHd.out rfl
                have s1 : wd.setCell ⟨w.heap.size, 1, none⟩ (.int .i64 0) = wd := setCell_id HHd.out rfl
                have s2 : wd.setCell ⟨w.heap.size, 2, none⟩ (.int .i64 0) = wd := setCell_id HHd.out rfl
                have s3 : wd.setCell ⟨w.heap.size, 3, none⟩ (.int .i64 0) = wd := setCell_id HHd.out rfl
                have s4 : wd.setCell ⟨w.heap.size, 4, none⟩ (.int .i64 0) = wd := setCell_id HHd.out rfl
                have s5 : wd.setCell ⟨w.heap.size, 5, none⟩ (.int .i64 0) = wd := setCell_id HHd.out rfl
                have s6 : wd.setCell ⟨w.heap.size, 6, none⟩ (.string ⟨#[]⟩) = wd := setCell_id HHd.out rfl
                have s7 : wd.setCell ⟨w.heap.size, 7, none⟩ (.string ⟨#[]⟩) = wd := setCell_id HHd.out rfl
                have s8 : wd.setCell ⟨w.heap.size, 8, none⟩ (.float .f64 0) = wd := setCell_id HHd.out rfl
                have s9 : wd.setCell ⟨w.heap.size, 9, none⟩ (.slice none 0 0) = wd := setCell_id HHd.out rfl
                go_wp2_with fail
                go_region
                clear s0 s1 s2 s3 s4 s5 s6 s7 s8 s9
                go_wp2_with fail
                exact bodyPost_ret (v := .tuple #[frV (Fr.of 0) none 0, errV (es .frame)]) (by simp [results, Tryd.results77, go_sem, frV, Fr.of, noS, errV, d0, d1, d2, d3, d4, d5, d6, d7, d8, d9]) rfl (GetFP.no HGn.out (by repeat (first | exact HBd.out | refine Below.drew ?_ | refine below_drewN ?_ _ | refine Below.setCell ?_ (Nat.le_refl _) _)) rfl)
              | true =>
                have HGy := Lib.hid (show getF b = some g by rw [HGt.out, hcc]; rfl)
                have hck2 := hck.mono (fun e w' h => (⟨by have h1 := h.1; rw [if_pos hcc] at h1; exact h1, h.2⟩ : e = .returned .nilIface ∧ Below wr.heap.size wr w'))
                have HCk := Lib.hid hck2
                clear hck hck2 hcc
                unfold frV at HCk
                go_wp2_with fail
                refine HCk.out.mono ?_
                rintro e wd ⟨rfl, hbd⟩
                have HBd := Lib.hid (below_then HBr.out HBr.out.size hbd)
                have hhd := (hbd.block w.heap.size (by omega)).trans HHr.out
                have hgd := HGk.out.on (by omega) hbd
                obtain ⟨wf, hwf⟩ : ∃ W, frPut wd w.heap.size g Ag cg = W := ⟨_, rfl⟩
                have hhf : wf.heap[w.heap.size]? = some (.cells (frCs g Ag cg) 33 (0, 0)) := by rw [← hwf]; exact frPut_heap hhd
                have hbf : Below w.heap.size w wf := by rw [← hwf]; exact frPut_below HBd.out (Nat.le_refl _)
                have hrf : RdC (fun q => w.heap.size < q ∧ q < wf.heap.size) wf Ag (bvs g.bytes) := by
                  rw [← hwf]
                  refine (HRg.out.move fun b hb => ?_).mono fun b hb => ⟨hb.1, by rw [frPut_size]; exact Nat.lt_of_lt_of_le hb.2.2 hbd.size⟩
                  have h1 := hb.1
                  rw [frPut_other _ _ _ _ (by omega), hbd.block b hb.2.2]
                have HPost := Lib.hid (show GetFP es b w (.returned (.tuple #[frV g Ag cg, .nilIface])) wf from ⟨hbf, by rw [HGy.out]; exact ⟨Ag, cg, rfl, hrf, HCg.out⟩⟩)
                clear g0 g1 g2 g3 g4 g5 g6 g7 g8 g9
                obtain ⟨g0, g1, g2, g3, g4, g5, g6, g7, g8, g9⟩ := hgd
                obtain ⟨d0, d1, d2, d3, d4, d5, d6, d7, d8, d9⟩ := FrC.of_heap hhd
                have hfz : ∀ j, wd.frozen? ⟨w.heap.size, j, none⟩ = false := fun j => frozen_of_row wd w.heap.size j _ _ hhd
                have HF := Lib.hid (FrC.of_heap hhf)
                unfold frPut at hwf
                clear hbd hhd hhf hbf hrf
                go_wp2_with fail
                clear g0 g1 g2 g3 g4 g5 g6 g7 g8 g9 d0 d1 d2 d3 d4 d5 d6 d7 d8 d9 hwf
                obtain ⟨f0, f1, f2, f3, f4, f5, f6, f7, f8, f9⟩ := HF.out
                exact bodyPost_ret (v := .tuple #[frV g Ag cg, .nilIface]) (by simp [results, Tryd.results77, go_sem, frV, f0, f1, f2, f3, f4, f5, f6, f7, f8, f9]) rfl HPost.out
      · have hdec : ∀ W, Below w6.heap.size w6 W → Calls Tryd.prog 82 #[.string (strOf (layoutF k)), .slice (some ⟨ad.block, ad.off + 3, none⟩) (b.length - 4 - 3) (b.length - 4 - 3)] W (DecPost es W (decode (layoutF k) (F.drop 3))) := fun W hW => by
          have hrd : RdC (· < w5.heap.size) w5 (some ⟨ad.block, ad.off + 3, none⟩) (bvs (F.drop 3)) := by
            have := HRF.out.drop 3 false (by simp)
            rw [show Option.map (fun x => x.add 3) (some ad) = some (ad.add 3) from rfl, show ad.add 3 = ⟨ad.block, ad.off + 3, none⟩ by unfold Addr.add; simp] at this
            simpa [bvs, List.map_drop] using this
          have h := decode_any es W (strOf (layoutF k)) (some ⟨ad.block, ad.off + 3, none⟩) (b.length - 4 - 3) (b.length - 4 - 3) (F.drop 3) (by rw [List.length_drop, HFl.out]) (HE.out.step (below_on HB6.out hW)).e5 ((hrd.step HB56.out).step hW) (by rw [strOf_size]; have := layout_len k; omega) (by rw [List.length_drop, HFl.out]; omega) (by rw [List.length_drop, HFl.out]; omega)
          rw [strOf_list] at h
          exact h
        cases hd : decode (layoutF k) (F.drop 3) with
        | error er =>
          rw [hd] at hdec
          have HDec := Lib.hid hdec
          have HG := Lib.hid (show getF b = none by rw [HGf.out, hd]; rfl)
          clear hdec hd
          go_region_held3 (fun w' => w'.cell? ⟨w5.heap.size, 0, none⟩ = some (.int .i64 k))
            (first | go_keep | exact (((Below.refl _ _).drew.trans hb7).cell (p := ⟨w5.heap.size, 0, none⟩) hlt6).trans hc6 | exact (((((Below.refl _ _).drew.trans hb7).trans (hb8.mono hb7.size))).cell (p := ⟨w5.heap.size, 0, none⟩) hlt6).trans hc6)
            (first
              | (go_at_call 73; refine (layout_any k _).mono ?_; rintro e w7 ⟨rfl, hb7⟩)
              | (go_at_call 82; refine (HDec.out _ ((Below.refl _ _).drew.trans hb7)).mono ?_; rintro e w8 ⟨hb8, rfl⟩))
          have hb67 : Below w6.heap.size w6 w7 := (Below.refl _ _).drew.trans hb7
          have hz67 : w6.heap.size ≤ w7.heap.size := hb67.size
          have HB8 := Lib.hid (below_then (below_then HB6.out HB6.out.size hb67) (by have := HB6.out.size; omega) hb8)
          have HH8 := Lib.hid (show w8.heap[w.heap.size]? = some (.cells (frCs (Fr.of 0) none 0) 33 (0, 0)) from ((hb67.trans (hb8.mono hz67)).block w.heap.size (by omega)).trans ((HB56.out.block w.heap.size hz5).trans HH5.out))
          clear hb7 hb8 hc6
          unfold errV
          obtain ⟨d0, d1, d2, d3, d4, d5, d6, d7, d8, d9⟩ := FrC.of_heap HH8.out
          have hfz : ∀ j, w8.frozen? ⟨w.heap.size, j, none⟩ = false := fun j => frozen_of_row w8 w.heap.size j _ _ HH8.out
          have he := (HE.out.frame.below HB8.out).at
          unfold errV at he
          have hgl := HE.out.frame.g_lt
          have hgne : 1 ≠ w.heap.size := Nat.ne_of_lt hgl
          have s0 : w8.setCell ⟨w.heap.size, 0, none⟩ (.int .i64 0) = w8 := setCell_id HH8.out rfl
          have s1 : w8.setCell ⟨w.heap.size, 1, none⟩ (.int .i64 0) = w8 := setCell_id HH8.out rfl
          have s2 : w8.setCell ⟨w.heap.size, 2, none⟩ (.int .i64 0) = w8 := setCell_id HH8.out rfl
          have s3 : w8.setCell ⟨w.heap.size, 3, none⟩ (.int .i64 0) = w8 := setCell_id HH8.out rfl
          have s4 : w8.setCell ⟨w.heap.size, 4, none⟩ (.int .i64 0) = w8 := setCell_id HH8.out rfl
          have s5 : w8.setCell ⟨w.heap.size, 5, none⟩ (.int .i64 0) = w8 := setCell_id HH8.out rfl
          have s6 : w8.setCell ⟨w.heap.size, 6, none⟩ (.string ⟨#[]⟩) = w8 := setCell_id HH8.out rfl
          have s7 : w8.setCell ⟨w.heap.size, 7, none⟩ (.string ⟨#[]⟩) = w8 := setCell_id HH8.out rfl
          have s8 : w8.setCell ⟨w.heap.size, 8, none⟩ (.float .f64 0) = w8 := setCell_id HH8.out rfl
          have s9 : w8.setCell ⟨w.heap.size, 9, none⟩ (.slice none 0 0) = w8 := setCell_id HH8.out rfl
          go_wp2_with fail
          go_region
          clear s0 s1 s2 s3 s4 s5 s6 s7 s8 s9
          go_wp2_with fail
          exact bodyPost_ret (v := .tuple #[frV (Fr.of 0) none 0, errV (es .frame)]) (by simp [results, Tryd.results77, go_sem, frV, Fr.of, noS, errV, d0, d1, d2, d3, d4, d5, d6, d7, d8, d9]) rfl (GetFP.no HG.out (by repeat (first | exact HB8.out | refine Below.drew ?_ | refine below_drewN ?_ _ | refine Below.setCell ?_ (Nat.le_refl _) _)) rfl)
        | ok cs =>
          rw [hd] at hdec
          have HDec := Lib.hid hdec
          have HGt := Lib.hid (show getF b = if checkF (setAll (Fr.of k) (shapeF k) cs) = true then some (setAll (Fr.of k) (shapeF k) cs) else none by rw [HGf.out, hd]; rfl)
          have HCl := Lib.hid (show cs.length = (shapeF k).length by rw [(enc_dec hd).2.1]; simp [layoutF])
          have HCs := Lib.hid (show ∀ c ∈ cs, c.s.size ≤ 100000 from fun c hc => by
            have h1 := size_le_cost cs c hc
            have h2 := (enc_dec hd).2.2.2
            have h4 := layout_len k
            rw [List.length_drop, HFl.out] at h2
            omega)
          clear hdec hd
          go_region_held3 (fun w' => w'.cell? ⟨w5.heap.size, 0, none⟩ = some (.int .i64 k))
            (first | go_keep | exact (((Below.refl _ _).drew.trans hb7).cell (p := ⟨w5.heap.size, 0, none⟩) hlt6).trans hc6 | exact (((((Below.refl _ _).drew.trans hb7).trans (hb8.mono hb7.size))).cell (p := ⟨w5.heap.size, 0, none⟩) hlt6).trans hc6)
            (first
              | (go_at_call 73; refine (layout_any k _).mono ?_; rintro e w7 ⟨rfl, hb7⟩)
              | (go_at_call 82; refine (HDec.out _ ((Below.refl _ _).drew.trans hb7)).mono ?_; rintro e w8 ⟨hb8, v8, rfl, ho8⟩))
          have hb67 : Below w6.heap.size w6 w7 := (Below.refl _ _).drew.trans hb7
          have hb68 : Below w6.heap.size w6 w8 := hb67.trans (hb8.mono hb67.size)
          obtain ⟨A8, c8, hv8, _, _⟩ := own_slice ho8
          subst hv8
          have HR8 := Lib.hid (RdC.of_own ho8)
          have HB8 := Lib.hid (below_then HB6.out HB6.out.size hb68)
          have HH8 := Lib.hid ((hb68.block w.heap.size (by omega)).trans ((HB56.out.block w.heap.size hz5).trans HH5.out))
          have HAt8 := Lib.hid (HAt6.out.below hb68)
          have hc8 := (HK6.out.on hlt6 hb68).c0
          have hz7 : w6.heap.size ≤ w7.heap.size := hb67.size
          have hz8 : w7.heap.size ≤ w8.heap.size := hb8.size
          obtain ⟨l, hlk⟩ : ∃ l, l = shapeF k := ⟨_, rfl⟩
          have hsh := shape_any k w8
          have hsl := shape_lt k
          have hl3 := layout_len k
          rw [show (layoutF k).length = (shapeF k).length by simp [layoutF]] at hl3
          rw [← hlk] at HGt HCl hsh hsl hl3
          have HSh := Lib.hid hsh
          have HSl := Lib.hid hsl
          clear hb67 hb68 hb7 hb8 hc6 ho8 hsh hsl hlk
          go_wp2_with fail
          refine HSh.out.mono ?_
          rintro e w9 ⟨hb9, AL, rfl, _, hn1, hRL⟩
          have HB9 := Lib.hid (below_then HB8.out HB8.out.size hb9)
          have HH9 := Lib.hid ((hb9.block w.heap.size (by omega)).trans HH8.out)
          have HAt9 := Lib.hid (HAt8.out.below hb9)
          have HR9 := Lib.hid ((HR8.out.move (fun b hb => hb9.block b hb.2)).mono (fun b hb => (⟨by omega, Nat.lt_of_lt_of_le hb.2 hb9.size⟩ : b ≠ w5.heap.size ∧ b < w9.heap.size)))
          have HRL := Lib.hid (hRL.mono (fun b hb => (⟨by omega, hb.2⟩ : b ≠ w5.heap.size ∧ b < w9.heap.size)))
          have hz9 : w8.heap.size ≤ w9.heap.size := hb9.size
          have HN1 := Lib.hid hn1
          clear hb9 hn1 hRL hc8 HSh
          go_wp2_with fail
          go_loopw [79] (fun i wr => GetRel k l cs w9 (w.heap.size + 1) w5.heap.size i wr) (fun i _ => l.length - (intOf i).toNat)
          case atStart => exact ⟨0, Nat.zero_le _, rfl, World.grownBy.refl _ _, by have := HAt9.out; cases l <;> exact this⟩
          case round =>
            obtain ⟨j, hj, rfl, hg, hat⟩ := hrel
            have HG := Lib.hid hg
            have HAtr := Lib.hid hat
            have hzr : w9.heap.size ≤ wr.heap.size := hg.size
            have HBr := Lib.hid (below_grown HB9.out HB9.out.size hg (fun q hq => by have h1 : w5.heap.size = q := Option.some.inj hq; omega))
            have HHr := Lib.hid ((hg.block w.heap.size (by omega) (fun e => by have h1 : w.heap.size = w5.heap.size := Option.some.inj e; omega)).trans HH9.out)
            have HRLr := Lib.hid (HRL.out.move (fun b hb => hg.block b hb.2 (fun e => by have h1 : b = w5.heap.size := Option.some.inj e; exact hb.1 h1)))
            have HR8r := Lib.hid (HR9.out.move (fun b hb => hg.block b hb.2 (fun e => by have h1 : b = w5.heap.size := Option.some.inj e; exact hb.1 h1)))
            clear hg hat
            by_cases hlt : j < l.length
            · obtain ⟨al, hal, hbk, hcl⟩ := HRLr.out (by intro e; rw [List.map_eq_nil_iff] at e; rw [e] at hlt; simp at hlt)
              have hAL := HN1.out (by intro e; rw [e] at hlt; simp at hlt)
              rw [hAL] at hal
              injection hal with hal
              subst hal
              subst hAL
              have hcell := hcl j (natV l[j]) (by simp [hlt])
              rw [addr0] at hcell
              have hjc : j < cs.length := by rw [HCl.out]; exact hlt
              have hx9 := HSl.out l[j] (List.getElem_mem hlt)
              obtain ⟨ac, hac, hok, e0, e1, e2⟩ := cells_at HR8r.out j hjc
              have HSn := Lib.hid (setAll_snoc l cs (Fr.of k) j hlt hjc)
              clear hcl
              unfold natV at hcell
              generalize l[j] = x at *
              generalize cs[j] = cx at *
              subst hac
              have j0 : (0 : Int) ≤ (j : Int) := by omega
              have j1 : (j : Int) < (l.length : Int) := by omega
              have j2 : (j : Int) < (cs.length : Int) := by omega
              have hst := setFB_any wr (w.heap.size + 1) w5.heap.size (setAll (Fr.of k) (l.take j) (cs.take j)) x cx hx9 (by omega) HAtr.out
              unfold cellV at hst
              have HSt := Lib.hid hst
              clear hst
              go_wp2_with fail
              refine HSt.out.mono ?_
              rintro e wb ⟨rfl, hgb, hatb⟩
              have HGb := Lib.hid (HG.out.trans hgb)
              have HAtb := Lib.hid hatb
              clear hgb hatb hcell e0 e1 e2
              go_wp2_with fail
              go_roundw
              case rel => exact ⟨j + 1, by omega, by go_num, HGb.out, by rw [HSn.out]; exact HAtb.out⟩
              case measure => simp [intOf]; omega
            · have HE1 := Lib.hid (show l.take j = l from List.take_of_length_le (by omega))
              have HE2 := Lib.hid (show cs.take j = cs from List.take_of_length_le (by rw [HCl.out]; omega))
              obtain ⟨g, hg⟩ : ∃ g, g = setAll (Fr.of k) l cs := ⟨_, rfl⟩
              rw [HE1.out, HE2.out, ← hg] at HAtr
              rw [← hg] at HGt
              have hgl : g.lens := by rw [hg]; exact setAll_lens l cs _ lens_of HCs.out
              have HGl := Lib.hid hgl
              obtain ⟨Ag, cg, hhg, hRg, hcg⟩ := HAtr.out
              have HRg := Lib.hid hRg
              have HCg := Lib.hid hcg
              obtain ⟨g0, g1, g2, g3, g4, g5, g6, g7, g8, g9⟩ := FrC.of_heap hhg
              have hck := checkF_any es g Ag cg wr (HE.out.step HBr.out).fenv hgl (hRg.mono (fun b hb => hb.2.2))
              have hGk := (FrC.of_heap hhg)
              have HGk := Lib.hid hGk
              clear hg hgl hhg hRg hcg hGk
              cases hcc : checkF g with
              | false =>
                have HGn := Lib.hid (show getF b = none by rw [HGt.out, hcc]; rfl)
                have hck2 := hck.mono (fun e w' h => (⟨by have h1 := h.1; rw [if_neg (by rw [hcc]; simp)] at h1; exact h1, h.2⟩ : e = .returned (errV (es .frame)) ∧ Below wr.heap.size wr w'))
                have HCk := Lib.hid hck2
                clear hck hck2 hcc
                unfold frV at HCk
                go_wp2_with fail
                refine HCk.out.mono ?_
                rintro e wd ⟨rfl, hbd⟩
                have HBd := Lib.hid (below_then HBr.out HBr.out.size hbd)
                have HHd := Lib.hid ((hbd.block w.heap.size (by omega)).trans HHr.out)
                clear hbd g0 g1 g2 g3 g4 g5 g6 g7 g8 g9
                unfold errV
                obtain ⟨d0, d1, d2, d3, d4, d5, d6, d7, d8, d9⟩ := FrC.of_heap HHd.out
                have hfz : ∀ j, wd.frozen? ⟨w.heap.size, j, none⟩ = false := fun j => frozen_of_row wd w.heap.size j _ _ HHd.out
                have he := (HE.out.frame.below HBd.out).at
                unfold errV at he
                have hgl := HE.out.frame.g_lt
                have hgne : 1 ≠ w.heap.size := Nat.ne_of_lt hgl
                have s0 : wd.setCell ⟨w.heap.size, 0, none⟩ (.int .i64 0) = wd := setCell_id HHd.out rfl
                have s1 : wd.setCell ⟨w.heap.size, 1, none⟩ (.int .i64 0) = wd := setCell_id HHd.out rfl
                have s2 : wd.setCell ⟨w.heap.size, 2, none⟩ (.int .i64 0) = wd := setCell_id HHd.out rfl
                have s3 : wd.setCell ⟨w.heap.size, 3, none⟩ (.int .i64 0) = wd := setCell_id HHd.out rfl
                have s4 : wd.setCell ⟨w.heap.size, 4, none⟩ (.int .i64 0) = wd := setCell_id HHd.out rfl
                have s5 : wd.setCell ⟨w.heap.size, 5, none⟩ (.int .i64 0) = wd := setCell_id HHd.out rfl
                have s6 : wd.setCell ⟨w.heap.size, 6, none⟩ (.string ⟨#[]⟩) = wd := setCell_id HHd.out rfl
                have s7 : wd.setCell ⟨w.heap.size, 7, none⟩ (.string ⟨#[]⟩) = wd := setCell_id HHd.out rfl
                have s8 : wd.setCell ⟨w.heap.size, 8, none⟩ (.float .f64 0) = wd := setCell_id HHd.out rfl
                have s9 : wd.setCell ⟨w.heap.size, 9, none⟩ (.slice none 0 0) = wd := setCell_id HHd.out rfl
                go_wp2_with fail
                go_region
                clear s0 s1 s2 s3 s4 s5 s6 s7 s8 s9
                go_wp2_with fail
                exact bodyPost_ret (v := .tuple #[frV (Fr.of 0) none 0, errV (es .frame)]) (by simp [results, Tryd.results77, go_sem, frV, Fr.of, noS, errV, d0, d1, d2, d3, d4, d5, d6, d7, d8, d9]) rfl (GetFP.no HGn.out (by repeat (first | exact HBd.out | refine Below.drew ?_ | refine below_drewN ?_ _ | refine Below.setCell ?_ (Nat.le_refl _) _)) rfl)
              | true =>
                have HGy := Lib.hid (show getF b = some g by rw [HGt.out, hcc]; rfl)
                have hck2 := hck.mono (fun e w' h => (⟨by have h1 := h.1; rw [if_pos hcc] at h1; exact h1, h.2⟩ : e = .returned .nilIface ∧ Below wr.heap.size wr w'))
                have HCk := Lib.hid hck2
                clear hck hck2 hcc
                unfold frV at HCk
                go_wp2_with fail
                refine HCk.out.mono ?_
                rintro e wd ⟨rfl, hbd⟩
                have HBd := Lib.hid (below_then HBr.out HBr.out.size hbd)
                have hhd := (hbd.block w.heap.size (by omega)).trans HHr.out
                have hgd := HGk.out.on (by omega) hbd
                obtain ⟨wf, hwf⟩ : ∃ W, frPut wd w.heap.size g Ag cg = W := ⟨_, rfl⟩
                have hhf : wf.heap[w.heap.size]? = some (.cells (frCs g Ag cg) 33 (0, 0)) := by rw [← hwf]; exact frPut_heap hhd
                have hbf : Below w.heap.size w wf := by rw [← hwf]; exact frPut_below HBd.out (Nat.le_refl _)
                have hrf : RdC (fun q => w.heap.size < q ∧ q < wf.heap.size) wf Ag (bvs g.bytes) := by
                  rw [← hwf]
                  refine (HRg.out.move fun b hb => ?_).mono fun b hb => ⟨hb.1, by rw [frPut_size]; exact Nat.lt_of_lt_of_le hb.2.2 hbd.size⟩
                  have h1 := hb.1
                  rw [frPut_other _ _ _ _ (by omega), hbd.block b hb.2.2]
                have HPost := Lib.hid (show GetFP es b w (.returned (.tuple #[frV g Ag cg, .nilIface])) wf from ⟨hbf, by rw [HGy.out]; exact ⟨Ag, cg, rfl, hrf, HCg.out⟩⟩)
                clear g0 g1 g2 g3 g4 g5 g6 g7 g8 g9
                obtain ⟨g0, g1, g2, g3, g4, g5, g6, g7, g8, g9⟩ := hgd
                obtain ⟨d0, d1, d2, d3, d4, d5, d6, d7, d8, d9⟩ := FrC.of_heap hhd
                have hfz : ∀ j, wd.frozen? ⟨w.heap.size, j, none⟩ = false := fun j => frozen_of_row wd w.heap.size j _ _ hhd
                have HF := Lib.hid (FrC.of_heap hhf)
                unfold frPut at hwf
                clear hbd hhd hhf hbf hrf
                go_wp2_with fail
                clear g0 g1 g2 g3 g4 g5 g6 g7 g8 g9 d0 d1 d2 d3 d4 d5 d6 d7 d8 d9 hwf
                obtain ⟨f0, f1, f2, f3, f4, f5, f6, f7, f8, f9⟩ := HF.out
                exact bodyPost_ret (v := .tuple #[frV g Ag cg, .nilIface]) (by simp [results, Tryd.results77, go_sem, frV, f0, f1, f2, f3, f4, f5, f6, f7, f8, f9]) rfl HPost.out
    · have hne : (((256 * x0 + x1 : Nat) : Int) != ((b.length - 6 : Nat) : Int)) = true := by rw [bne_iff_ne]; omega
      have HG := Lib.hid (show getF b = none from get_none_len (by rw [HN2.out]; exact hnum))
      clear hnum
      go_quiet ((go_at_call 81; exact Calls.quiet_of (HAl.out _)))
      obtain ⟨w5, hw5⟩ : ∃ W, W = w4.drewN nq := ⟨_, rfl⟩
      have HB5 := Lib.hid (show Below w.heap.size w w5 by rw [hw5]; exact below_drewN HB4.out _)
      have hh5 : w5.heap[w.heap.size]? = some (.cells (frCs (Fr.of 0) none 0) 33 (0, 0)) := by rw [hw5]; exact HH4.out
      rw [← hw5]
      obtain ⟨d0, d1, d2, d3, d4, d5, d6, d7, d8, d9⟩ := FrC.of_heap hh5
      have hfz : ∀ j, w5.frozen? ⟨w.heap.size, j, none⟩ = false := fun j => frozen_of_row w5 w.heap.size j _ _ hh5
      have he := (HE.out.frame.below HB5.out).at
      unfold errV at he
      have hgl := HE.out.frame.g_lt
      have hgne : 1 ≠ w.heap.size := Nat.ne_of_lt hgl
      have s0 : w5.setCell ⟨w.heap.size, 0, none⟩ (.int .i64 0) = w5 := setCell_id hh5 rfl
      have s1 : w5.setCell ⟨w.heap.size, 1, none⟩ (.int .i64 0) = w5 := setCell_id hh5 rfl
      have s2 : w5.setCell ⟨w.heap.size, 2, none⟩ (.int .i64 0) = w5 := setCell_id hh5 rfl
      have s3 : w5.setCell ⟨w.heap.size, 3, none⟩ (.int .i64 0) = w5 := setCell_id hh5 rfl
      have s4 : w5.setCell ⟨w.heap.size, 4, none⟩ (.int .i64 0) = w5 := setCell_id hh5 rfl
      have s5 : w5.setCell ⟨w.heap.size, 5, none⟩ (.int .i64 0) = w5 := setCell_id hh5 rfl
      have s6 : w5.setCell ⟨w.heap.size, 6, none⟩ (.string ⟨#[]⟩) = w5 := setCell_id hh5 rfl
      have s7 : w5.setCell ⟨w.heap.size, 7, none⟩ (.string ⟨#[]⟩) = w5 := setCell_id hh5 rfl
      have s8 : w5.setCell ⟨w.heap.size, 8, none⟩ (.float .f64 0) = w5 := setCell_id hh5 rfl
      have s9 : w5.setCell ⟨w.heap.size, 9, none⟩ (.slice none 0 0) = w5 := setCell_id hh5 rfl
      clear hw5 hcell0 hcell0' hcell1 hh5 hor j6 j7
      go_wp2_with fail
      go_region
      clear s0 s1 s2 s3 s4 s5 s6 s7 s8 s9
      go_wp2_with fail
      exact bodyPost_ret (v := .tuple #[frV (Fr.of 0) none 0, errV (es .frame)]) (by simp [results, Tryd.results77, go_sem, frV, Fr.of, noS, errV, d0, d1, d2, d3, d4, d5, d6, d7, d8, d9]) rfl (GetFP.no HG.out (by repeat (first | exact HB5.out | refine Below.drew ?_ | refine below_drewN ?_ _ | refine Below.setCell ?_ (Nat.le_refl _) _)) rfl)
/-- Get of all bytes. -/
theorem getF_any (es : Er → Addr) (w : World) (A : Option Addr) (n c : Nat) (b : Bs) (hn : n = b.length) (hE : GEnv w es) (hR : RdC (· < w.heap.size) w A (bvs b)) (hc : b.length ≤ c) (hb : b.length ≤ 140737488355328) :
    Calls Tryd.prog 77 #[.slice A n c] w (GetFP es b w) := by
  subst hn
  by_cases h : b.length < 7 ∨ b.length > 1024
  · exact getF_short es w A c b hE hb h
  · exact getF_long es w A c b hE hR hc (by omega) (by omega)
theorem GetFP.er {es : Er → Addr} {b : Bs} {w w' : World} {e : Ending} (h : GetFP es b w e w') (hg : getF b = none) : e = .returned (.tuple #[frV (Fr.of 0) none 0, errV (es .frame)]) ∧ Below w.heap.size w w' := by
  obtain ⟨h1, h2⟩ := h
  rw [hg] at h2
  exact ⟨h2, h1⟩
theorem GetFP.ok {es : Er → Addr} {b : Bs} {w w' : World} {e : Ending} {f : Fr} (h : GetFP es b w e w') (hg : getF b = some f) : Below w.heap.size w w' ∧ ∃ A c, e = .returned (.tuple #[frV f A c, .nilIface]) ∧ RdC (fun k => w.heap.size < k ∧ k < w'.heap.size) w' A (bvs f.bytes) ∧ f.bytes.length ≤ c := by
  obtain ⟨h1, h2⟩ := h
  rw [hg] at h2
  exact ⟨h1, h2⟩
end Go.Proofs.YtipgimmgjdgdeaaDoor
