/- Walks of package proof, sixth part: Prove. -/
import Derived.Test.YtnnokbipcenbgaaDoorPd
set_option linter.unusedVariables false
set_option linter.unusedSimpArgs false
set_option linter.unnecessarySimpa false
namespace Go.Proofs.YtnnokbipcenbgaaDoor
open Go.RowKit
attribute [local go_sem] run_store_flt

/-- What package proof finds in memory: its errors, the words of the rounds. -/
structure PEnv (w : World) (es : Er → Addr) : Prop where
  e3 : E3 w.heap.size w es
  proof : ErrAt w.heap.size w 0 (es .proof)
  round : RoundAt w
theorem PEnv.step {w w' : World} {es : Er → Addr} (h : PEnv w es) (hb : Below w.heap.size w w') : PEnv w' es := ⟨h.e3.step hb, (h.proof.below hb).more hb.size, h.round.below hb h.round.lt⟩
theorem secret_yes (es : Er → Addr) (w : World) (A : Option Addr) (c : Nat) (b : Bs) (hE : PEnv w es) (h : secretOk b = true) : Calls Tryd.prog 24 #[.agg #[], .slice A b.length c] w (YesP w) :=
  (secret_any es w A c b hE.e3.range).mono fun e w' hg => ⟨by have := hg.1; rw [if_pos h] at this; exact this, hg.2⟩
theorem secret_no (es : Er → Addr) (w : World) (A : Option Addr) (c : Nat) (b : Bs) (hE : PEnv w es) (h : secretOk b = false) : Calls Tryd.prog 24 #[.agg #[], .slice A b.length c] w (NoP w (es .range)) :=
  (secret_any es w A c b hE.e3.range).mono fun e w' hg => ⟨by have := hg.1; rw [if_neg (by rw [h]; simp)] at this; exact this, hg.2⟩
theorem who_yes (es : Er → Addr) (w : World) (s : ByteArray) (hE : PEnv w es) (h : whoOk s.data.toList = true) : Calls Tryd.prog 25 #[.agg #[], .string s] w (YesP w) :=
  (who_any es w s Array.length_toList.symm hE.e3.range).mono fun e w' hg => ⟨by have := hg.1; rw [if_pos h] at this; exact this, hg.2⟩
theorem who_no (es : Er → Addr) (w : World) (s : ByteArray) (hE : PEnv w es) (h : whoOk s.data.toList = false) : Calls Tryd.prog 25 #[.agg #[], .string s] w (NoP w (es .range)) :=
  (who_any es w s Array.length_toList.symm hE.e3.range).mono fun e w' hg => ⟨by have := hg.1; rw [if_neg (by rw [h]; simp)] at this; exact this, hg.2⟩
theorem num_yes (es : Er → Addr) (w : World) (n : Int) (hE : PEnv w es) (h : numOk n = true) : Calls Tryd.prog 26 #[.agg #[], .int .i64 n] w (YesP w) :=
  (number_any es w n hE.e3.range).mono fun e w' hg => ⟨by have := hg.1; rw [if_pos h] at this; exact this, hg.2⟩
theorem num_no (es : Er → Addr) (w : World) (n : Int) (hE : PEnv w es) (h : numOk n = false) : Calls Tryd.prog 26 #[.agg #[], .int .i64 n] w (NoP w (es .range)) :=
  (number_any es w n hE.e3.range).mono fun e w' hg => ⟨by have := hg.1; rw [if_neg (by rw [h]; simp)] at this; exact this, hg.2⟩

/-- A cell of an old block, in a later world. -/
theorem cell_on {w w' : World} {p : Addr} {v : Value} (h : w.cell? p = some v) (hp : p.block < w.heap.size) (hb : Below w.heap.size w w') : w'.cell? p = some v := (hb.cell hp).trans h
/-- sum at cells that are laid for the call. -/
theorem sum_new (es : Er → Addr) (w : World) (K : Option Addr) (kc : Nat) (key : Bs) (letter : UInt8) (L : Int) (s : ByteArray) (cells : List Cell) (cs : Array Value) (n : Nat) (enc : Bs) (hL : (letter.toNat : Int) = L) (hE : PEnv w es) (hK : RdC (· < w.heap.size) w K (bvs key)) (hkc : key.length ≤ kc)
    (hkl : key.length ≤ 1099511627776) (hcs : cs.toList = cells.flatMap cellVs) (hn : n = cells.length) (hs : s.size ≤ maxLen) (hcl : cells.length ≤ 1000) (hcost : cost cells ≤ 140737488355328) (hnum : ∀ c ∈ cells, c.n ≤ 9223372036854775807) (henc : encode s.data.toList cells = .ok enc) (hel : enc.length ≤ 1000000) :
    Calls Tryd.prog 33 #[.slice K key.length kc, .int .u8 L, .string s, .slice (some ⟨w.heap.size, 0, none⟩) n n] (w.alloc (.cells cs 64)) (SumP w (keyed key (letter :: enc))) := by
  subst hL
  have hb := below_box w (Obj.cells cs 64)
  have hE2 := hE.step hb
  have hC : RdC (· < (w.alloc (.cells cs 64)).heap.size) (w.alloc (.cells cs 64)) (some ⟨w.heap.size, 0, none⟩) (cells.flatMap cellVs) := by
    rw [← hcs]
    exact (RdC.new w cs 64).mono fun k hk => by simp; omega
  refine (sum_any es _ K kc key letter s (some ⟨w.heap.size, 0, none⟩) n n cells enc hE2.e3 hE2.round (hK.step hb) hkc hkl hn hC hs (by unfold maxLen; omega) hcost hnum henc hel).mono ?_
  rintro e w' ⟨g, rfl, hg, ha, hb2⟩
  exact ⟨g, rfl, by simp at hg; omega, ha, below_on hb hb2⟩
theorem cost_num (n : Int) : cost [⟨n, 0, noStr⟩] = 8 := rfl
theorem be_le (n k : Nat) (h : k ≤ 100) : (be n k).length ≤ 1000000 := by rw [be_length]; omega
def ArrP (w : World) (n : Nat) (d : Bs) (e : Ending) (w' : World) : Prop := ∃ g, e = .returned (.slice (some ⟨g, 0, none⟩) n n) ∧ w.heap.size ≤ g ∧ BArr w' g 81 d ∧ Below w.heap.size w w'
set_option maxRecDepth 8000 in
set_option maxHeartbeats 800000 in
theorem nonceC_yes (es : Er → Addr) (w : World) (p q : Addr) (K : Option Addr) (kc : Nat) (key : Bs) (n : Int) (hE : PEnv w es) (hK : RdC (· < w.heap.size) w K (bvs key)) (hkc : key.length ≤ kc)
    (hp : w.cell? p = some (.slice K key.length kc)) (hpb : p.block < w.heap.size) (hq : w.cell? q = some (.int .i64 n)) (hqb : q.block < w.heap.size) (hs : secretOk key = true) (hn : numOk n = true) :
    Calls Tryd.prog 35 #[.agg #[], .pointer (some p), .pointer (some q)] w (ArrP w 16 (keyed key (110 :: be n.toNat 8))) := by
  have hs2 := of_decide_eq_true hs
  have hn2 := of_decide_eq_true hn
  have henc := enc_q n hn2.1 hn2.2
  have hb0 := below_box w (Obj.cells #[] 52)
  have c1 := cell_on hp hpb hb0
  have HE := Lib.hid hE
  have HK := Lib.hid hK
  have HB := Lib.hid hb0
  have HP := Lib.hid hp
  have HQ := Lib.hid hq
  have HS := Lib.hid hs
  have HN := Lib.hid hn
  have HEn := Lib.hid henc
  clear hE hK hb0 hp hq hs hn henc
  go_enter Tryd.func35, Tryd.ntmps35
  go_wp2_with fail
  refine (secret_yes es _ K kc key (HE.out.step HB.out) HS.out).mono ?_
  rintro e w1 ⟨rfl, hb1⟩
  have HB1 := Lib.hid (below_on HB.out hb1)
  have c2 := cell_on HQ.out hqb HB1.out
  clear hb1 c1
  go_wp2_with fail
  refine (num_yes es _ n (HE.out.step HB1.out) HN.out).mono ?_
  rintro e w2 ⟨rfl, hb2⟩
  have HB2 := Lib.hid (below_on HB1.out hb2)
  clear c2 hb2
  have c3 := cell_on HQ.out hqb HB2.out
  have c4 := cell_on HP.out hpb HB2.out
  go_wp2_with fail
  refine (sum_new es w2 K kc key 110 110 _ [⟨n, 0, noStr⟩] _ 1 (be n.toNat 8) rfl (HE.out.step HB2.out) (HK.out.step HB2.out) hkc (by omega) rfl rfl (by decide) (by simp) (by rw [cost_num]; omega) (by simp; omega) HEn.out (be_le _ _ (by omega))).mono ?_
  rintro e w3 ⟨g, rfl, hg, ha, hb3⟩
  have HA := Lib.hid ha
  have HB3 := Lib.hid (below_on HB2.out hb3)
  have HG := Lib.hid (Nat.le_trans HB2.out.size hg)
  clear ha hb3 c3 c4
  go_wp2_with fail
  go_ret
  exact ⟨g, rfl, HG.out, HA.out, HB3.out⟩
set_option maxRecDepth 8000 in
theorem nonceC_no (es : Er → Addr) (w : World) (p q : Addr) (K : Option Addr) (kc : Nat) (key : Bs) (n : Int) (hE : PEnv w es)
    (hp : w.cell? p = some (.slice K key.length kc)) (hpb : p.block < w.heap.size) (hq : w.cell? q = some (.int .i64 n)) (hqb : q.block < w.heap.size) (h : secretOk key = false ∨ numOk n = false) :
    Calls Tryd.prog 35 #[.agg #[], .pointer (some p), .pointer (some q)] w (NoP w (es .range)) := by
  have hb0 := below_box w (Obj.cells #[] 52)
  have c1 := cell_on hp hpb hb0
  have HE := Lib.hid hE
  have HB := Lib.hid hb0
  have HQ := Lib.hid hq
  have HH := Lib.hid h
  clear hE hb0 hp hq h
  cases hs : secretOk key with
  | false =>
    have HS := Lib.hid hs
    clear hs
    go_enter Tryd.func35, Tryd.ntmps35
    go_wp2_with fail
    refine (secret_no es _ K kc key (HE.out.step HB.out) HS.out).mono ?_
    rintro e w1 ⟨rfl, hb1⟩
    exact ⟨rfl, rfl, below_on HB.out hb1⟩
  | true =>
    have hn : numOk n = false := HH.out.resolve_left (by rw [hs]; simp)
    have HS := Lib.hid hs
    have HN := Lib.hid hn
    clear hs hn
    go_enter Tryd.func35, Tryd.ntmps35
    go_wp2_with fail
    refine (secret_yes es _ K kc key (HE.out.step HB.out) HS.out).mono ?_
    rintro e w1 ⟨rfl, hb1⟩
    have HB1 := Lib.hid (below_on HB.out hb1)
    have c2 := cell_on HQ.out hqb HB1.out
    clear hb1 c1
    go_wp2_with fail
    refine (num_no es _ n (HE.out.step HB1.out) HN.out).mono ?_
    rintro e w2 ⟨rfl, hb2⟩
    exact ⟨rfl, rfl, below_on HB1.out hb2⟩
theorem run_enter {f : FuncId} {fn : Func} (hf : Tryd.prog.funcs[f]? = some fn) (hname : (fn.name == "runtime.NumGoroutine") = false) (hb : fn.body.isSome = true) (args : Array Value) (w : World) :
    (callFunc f args).run Tryd.prog w = .ok (.enter f args) w := by
  obtain ⟨c, hc⟩ := Option.isSome_iff_exists.1 hb
  simp [callFunc, hf, hc]
  intro h
  simp [h] at hname
/-- A call that answers bytes, or an error. -/
def OrErr (w : World) (es : Er → Addr) (r : Except Er Bs) (Q : World → Value → World → Bs → Prop) (e : Ending) (w' : World) : Prop :=
  Below w.heap.size w w' ∧ match r with
  | .ok d => ∃ v, e = .returned (.tuple #[v, .nilIface]) ∧ Q w v w' d
  | .error er => e = .returned (.tuple #[.slice none 0 0, errV (es er)])
/-- The first n bytes of a row of 32, in a block of the call's own. -/
def IsArr (n : Nat) (w : World) (v : Value) (w' : World) (d : Bs) : Prop := ∃ g D, v = .slice (some ⟨g, 0, none⟩) n n ∧ w.heap.size ≤ g ∧ BArr w' g 81 D ∧ D.length = 32 ∧ d = D.take n
theorem askWB_below (w : World) : Below w.heap.size w (askWB w) := ((Below.refl _ _).alloc (Nat.le_refl _) _).alloc (by simp) _
theorem askWB_size (w : World) : (askWB w).heap.size = w.heap.size + 2 := by simp [askWB]
theorem askWI_below (w : World) : Below w.heap.size w (askWI w) := ((Below.refl _ _).alloc (Nat.le_refl _) _).alloc (by simp) _
theorem askWI_size (w : World) : (askWI w).heap.size = w.heap.size + 2 := by simp [askWI]
/-- What an asked call of a row of 32 answers. -/
def ArrQ (B n : Nat) (d : Bs) (v : Value) (w1 : World) : Prop := ∃ g, v = .slice (some ⟨g, 0, none⟩) n n ∧ B ≤ g ∧ BArr w1 g 81 d
theorem ArrP.q {w : World} {n : Nat} {d : Bs} {e : Ending} {w' : World} (h : ArrP w n d e w') : ∃ v, e = .returned v ∧ ArrQ w.heap.size n d v w' ∧ Below w.heap.size w w' := by
  obtain ⟨g, rfl, hg, ha, hb⟩ := h
  exact ⟨_, rfl, ⟨g, rfl, hg, ha⟩, hb⟩
/-- A box in memory. -/
theorem box_cell (w : World) (v : Value) (t : TypeId) : (w.alloc (.cells #[v] t)).cell? ⟨w.heap.size, 0, none⟩ = some v := by
  simp only [World.cell?, heap_alloc_new]
  rfl
set_option maxRecDepth 8000 in
set_option maxHeartbeats 800000 in
theorem nonce_any (es : Er → Addr) (w : World) (K : Option Addr) (kc : Nat) (key : Bs) (n : Int) (hE : PEnv w es) (hK : RdC (· < w.heap.size) w K (bvs key)) (hkc : key.length ≤ kc) :
    Calls Tryd.prog 15 #[.slice K key.length kc, .int .i64 n] w (OrErr w es (nonceR key n) (IsArr 16)) := by
  have hcf : ∀ (args : Array Value) (w : World), (callFunc 35 args).run Tryd.prog w = .ok (.enter 35 args) w := run_enter Tryd.func35 (by kernel_rfl) (by kernel_rfl)
  have hb1 := below_box w (Obj.cells #[.slice K key.length kc] 22)
  have hb2 := below_on hb1 (below_box _ (Obj.cells #[.int .i64 n] 3))
  have hb3 := below_on hb2 (askWB_below _)
  have hsz := askWB_size ((w.alloc (Obj.cells #[.slice K key.length kc] 22)).alloc (Obj.cells #[.int .i64 n] 3))
  have hs2 : ((w.alloc (Obj.cells #[.slice K key.length kc] 22)).alloc (Obj.cells #[.int .i64 n] 3)).heap.size = w.heap.size + 2 := by simp
  have hp := cell_on (cell_on (box_cell w (.slice K key.length kc) 22) (by simp) (below_box _ (Obj.cells #[.int .i64 n] 3))) (by simp; omega) (askWB_below _)
  have hq := cell_on (box_cell (w.alloc (Obj.cells #[.slice K key.length kc] 22)) (.int .i64 n) 3) (by simp) (askWB_below _)
  simp only [size_alloc1] at hq
  have hmf := makeFunc_run
  have hE3 := hE.step hb3
  have hK3 := hK.step hb3
  rw [hs2] at hsz
  by_cases hok : secretOk key = true ∧ numOk n = true
  · have hr : nonceR key n = .ok ((keyed key (110 :: be n.toNat 8)).take 16) := by unfold nonceR nonceB; rw [if_pos hok]
    have hdo := askedB_yes _ 35 #[.pointer (some ⟨w.heap.size, 0, none⟩), .pointer (some ⟨w.heap.size + 1, 0, none⟩)] (ArrQ (w.heap.size + 4) 16 (keyed key (110 :: be n.toNat 8))) hcf (fun v w h => by obtain ⟨g, rfl, _⟩ := h; exact ⟨_, _, _, rfl⟩)
      ((nonceC_yes es _ ⟨w.heap.size, 0, none⟩ ⟨w.heap.size + 1, 0, none⟩ K kc key n hE3 hK3 hkc hp (by rw [hsz]; show w.heap.size < _; omega) hq (by rw [hsz]; show w.heap.size + 1 < _; omega) hok.1 hok.2).mono fun e w' h => by have := h.q; rw [hsz] at this; rw [hsz]; exact this)
    rw [hr]
    have HD := Lib.hid hdo
    have HB2 := Lib.hid hb2
    have HS2 := Lib.hid hs2
    have HDl := Lib.hid (keyed_len key (110 :: be n.toNat 8))
    clear hcf hb1 hb2 hb3 hsz hs2 hp hq hE3 hK3 hdo hr hok hE hK
    go_enter Tryd.func15, Tryd.ntmps15
    go_wp2_with fail
    refine HD.out.mono ?_
    rintro e w4 ⟨v, w3, rfl, ⟨g, rfl, hg, ha⟩, hb4, _, hblk⟩
    have HA := Lib.hid (ha.move (hblk g (by rw [HS2.out]; omega)))
    have HB4 := Lib.hid (below_on HB2.out hb4)
    clear ha hb4 hblk
    go_wp2_with fail
    go_ret2
    exact ⟨HB4.out, _, rfl, g, _, rfl, by omega, HA.out, HDl.out, rfl⟩
  · have hr : nonceR key n = .error .range := by unfold nonceR; rw [if_neg hok]
    have hor : secretOk key = false ∨ numOk n = false := by
      cases h1 : secretOk key with
      | false => exact .inl rfl
      | true => exact .inr (by cases h2 : numOk n with
        | false => rfl
        | true => exact absurd ⟨h1, h2⟩ hok)
    have hdo := askedB_no _ 35 #[.pointer (some ⟨w.heap.size, 0, none⟩), .pointer (some ⟨w.heap.size + 1, 0, none⟩)] (es .range) hcf
      (nonceC_no es _ ⟨w.heap.size, 0, none⟩ ⟨w.heap.size + 1, 0, none⟩ K kc key n hE3 hp (by rw [hsz]; show w.heap.size < _; omega) hq (by rw [hsz]; show w.heap.size + 1 < _; omega) hor)
    rw [hr]
    have HD := Lib.hid hdo
    have HB2 := Lib.hid hb2
    clear hcf hb1 hb2 hb3 hsz hs2 hp hq hE3 hK3 hdo hr hok hE hK hor
    go_enter Tryd.func15, Tryd.ntmps15
    go_wp2_with fail
    refine HD.out.mono ?_
    rintro e w4 ⟨rfl, hb4⟩
    have HB4 := Lib.hid (below_on HB2.out hb4)
    clear hb4
    unfold errV
    go_wp2_with fail
    go_ret2
    exact ⟨HB4.out, rfl⟩
end Go.Proofs.YtnnokbipcenbgaaDoor
/- Walks of package proof, fifth part: Nonce. -/
set_option linter.unusedVariables false
set_option linter.unusedSimpArgs false
set_option linter.unnecessarySimpa false
namespace Go.Proofs.YtnnokbipcenbgaaDoor
open Go.RowKit
attribute [local go_sem] run_store_flt

theorem cost_two (a b : ByteArray) : cost [⟨0, 0, a⟩, ⟨0, 0, b⟩] = 8 + a.size + (8 + b.size) := by simp [cost]
theorem mk_list (b : Bs) : (⟨b.toArray⟩ : ByteArray).data.toList = b := rfl
theorem mk_size (b : Bs) : (⟨b.toArray⟩ : ByteArray).size = b.length := by simp [ByteArray.size]
theorem str_size (s : ByteArray) : s.data.toList.length = s.size := Array.length_toList
set_option maxRecDepth 8000 in
set_option maxHeartbeats 800000 in
theorem proveC_yes (es : Er → Addr) (w : World) (p q r : Addr) (K N : Option Addr) (kc nc : Nat) (key nonce : Bs) (who : ByteArray) (hE : PEnv w es) (hK : RdC (· < w.heap.size) w K (bvs key)) (hkc : key.length ≤ kc) (hN : RdC (· < w.heap.size) w N (bvs nonce))
    (hp : w.cell? p = some (.slice K key.length kc)) (hpb : p.block < w.heap.size) (hq : w.cell? q = some (.slice N nonce.length nc)) (hqb : q.block < w.heap.size) (hr : w.cell? r = some (.string who)) (hrb : r.block < w.heap.size)
    (hs : secretOk key = true) (h16 : nonce.length = 16) (hw : whoOk who.data.toList = true) :
    Calls Tryd.prog 32 #[.agg #[], .pointer (some p), .pointer (some q), .pointer (some r)] w (ArrP w 32 (proveB key nonce who.data.toList)) := by
  have hs2 := of_decide_eq_true hs
  have hw2 := of_decide_eq_true hw
  have hws := str_size who
  have henc := enc_rt ⟨nonce.toArray⟩ who (by rw [mk_size]; omega) (by omega)
  rw [mk_list, mk_size] at henc
  have hel : ((be nonce.length 2 ++ nonce) ++ (be who.size 1 ++ who.data.toList)).length ≤ 1000000 := by
    simp only [List.length_append, be_length]
    omega
  have hcl : cost [⟨0, 0, ⟨nonce.toArray⟩⟩, ⟨0, 0, who⟩] ≤ 140737488355328 := by rw [cost_two, mk_size]; omega
  have t16 : ((nonce.length : Int) == 16) = true := by rw [h16]; rfl
  have hb0 := below_box w (Obj.cells #[] 52)
  have c1 := cell_on hp hpb hb0
  unfold proveB
  rw [hws]
  have hkl : key.length ≤ 1099511627776 := by omega
  have HE := Lib.hid hE
  have HK := Lib.hid hK
  have HN := Lib.hid hN
  have HB := Lib.hid hb0
  have HP := Lib.hid hp
  have HQ := Lib.hid hq
  have HR := Lib.hid hr
  have HS := Lib.hid hs
  have HW := Lib.hid hw
  have HEn := Lib.hid henc
  have HEl := Lib.hid hel
  have HCl := Lib.hid hcl
  clear hE hK hN hb0 hp hq hr hs hw henc hel hcl hws h16 hs2 hw2
  go_enter Tryd.func32, Tryd.ntmps32
  go_wp2_with fail
  refine (secret_yes es _ K kc key (HE.out.step HB.out) HS.out).mono ?_
  rintro e w1 ⟨rfl, hb1⟩
  have HB1 := Lib.hid (below_on HB.out hb1)
  have c2 := cell_on HQ.out hqb HB1.out
  have g2 := (HE.out.step HB1.out).e3.range.cell
  clear hb1 c1
  go_wp2_with fail
  refine (need_yes _ (es .range)).mono ?_
  rintro e w2 ⟨rfl, hb2⟩
  have HB2 := Lib.hid (below_on HB1.out hb2)
  clear c2 g2 hb2
  have c3 := cell_on HR.out hrb HB2.out
  go_wp2_with fail
  refine (who_yes es _ who (HE.out.step HB2.out) HW.out).mono ?_
  rintro e w3 ⟨rfl, hb3⟩
  have HB3 := Lib.hid (below_on HB2.out hb3)
  clear c3 hb3
  have c4 := cell_on HP.out hpb HB3.out
  have c5 := cell_on HQ.out hqb HB3.out
  have c6 := cell_on HR.out hrb HB3.out
  have hcv : (convert 22 9 (.slice N nonce.length nc)).run Tryd.prog w3 = .ok (.string ⟨nonce.toArray⟩) w3 := run_str_of Tryd.underlying22 Tryd.underlying5 Tryd.underlying9 rfl (HN.out.step HB3.out)
  go_wp2_with fail
  refine (sum_new es w3 K kc key 112 112 _ [⟨0, 0, ⟨nonce.toArray⟩⟩, ⟨0, 0, who⟩] _ 2 _ rfl (HE.out.step HB3.out) (HK.out.step HB3.out) hkc hkl rfl rfl (by decide) (by simp) HCl.out (by simp) HEn.out HEl.out).mono ?_
  rintro e w4 ⟨g, rfl, hg, ha, hb4⟩
  have HA := Lib.hid ha
  have HB4 := Lib.hid (below_on HB3.out hb4)
  have HG := Lib.hid (Nat.le_trans HB3.out.size hg)
  clear ha hb4 c4 c5 c6 hcv
  go_wp2_with fail
  go_ret
  exact ⟨g, rfl, HG.out, HA.out, HB4.out⟩
set_option maxRecDepth 8000 in
set_option maxHeartbeats 800000 in
theorem proveC_no (es : Er → Addr) (w : World) (p q r : Addr) (K N : Option Addr) (kc nc : Nat) (key nonce : Bs) (who : ByteArray) (hE : PEnv w es) 
    (hp : w.cell? p = some (.slice K key.length kc)) (hpb : p.block < w.heap.size) (hq : w.cell? q = some (.slice N nonce.length nc)) (hqb : q.block < w.heap.size) (hr : w.cell? r = some (.string who)) (hrb : r.block < w.heap.size)
    (h : secretOk key = false ∨ decide (nonce.length = 16) = false ∨ whoOk who.data.toList = false) :
    Calls Tryd.prog 32 #[.agg #[], .pointer (some p), .pointer (some q), .pointer (some r)] w (NoP w (es .range)) := by
  have hb0 := below_box w (Obj.cells #[] 52)
  have HE := Lib.hid hE
  have HB0 := Lib.hid hb0
  have HP := Lib.hid hp
  have HQ := Lib.hid hq
  have HR := Lib.hid hr
  have HH := Lib.hid h
  clear hE hb0 hp hq hr h
  cases hc0 : secretOk key with
  | false =>
    have HC0 := Lib.hid hc0
    clear hc0
    have c1 := cell_on HP.out hpb HB0.out
    go_enter Tryd.func32, Tryd.ntmps32
    go_wp2_with fail
    refine (secret_no es _ K kc key (HE.out.step HB0.out) HC0.out).mono ?_
    rintro e w1 ⟨rfl, hb1⟩
    exact ⟨rfl, rfl, below_on HB0.out hb1⟩
  | true =>
    have HC0 := Lib.hid hc0
    clear hc0
    cases hc1 : decide (nonce.length = 16) with
    | false =>
      have HC1 := Lib.hid hc1
      have t1 : ((nonce.length : Int) == 16) = false := by have := of_decide_eq_false hc1; rw [beq_eq_false_iff_ne]; omega
      clear hc1
      have c1 := cell_on HP.out hpb HB0.out
      go_enter Tryd.func32, Tryd.ntmps32
      go_wp2_with fail
      refine (secret_yes es _ K kc key (HE.out.step HB0.out) HC0.out).mono ?_
      rintro e w1 ⟨rfl, hb1⟩
      have HB1 := Lib.hid (below_on HB0.out hb1)
      clear hb1 c1
      have c2 := cell_on HQ.out hqb HB1.out
      have g2 := (HE.out.step HB1.out).e3.range.cell
      go_wp2_with fail
      refine (need_no _ (es .range)).mono ?_
      rintro e w2 ⟨rfl, hb2⟩
      exact ⟨rfl, rfl, below_on HB1.out hb2⟩
    | true =>
      have HC1 := Lib.hid hc1
      have t1 : ((nonce.length : Int) == 16) = true := by have := of_decide_eq_true hc1; rw [this]; rfl
      clear hc1
      have hc2 : whoOk who.data.toList = false := ((HH.out).resolve_left (by rw [HC0.out]; simp)).resolve_left (by rw [HC1.out]; simp)
      have HC2 := Lib.hid hc2
      clear hc2
      have c1 := cell_on HP.out hpb HB0.out
      go_enter Tryd.func32, Tryd.ntmps32
      go_wp2_with fail
      refine (secret_yes es _ K kc key (HE.out.step HB0.out) HC0.out).mono ?_
      rintro e w1 ⟨rfl, hb1⟩
      have HB1 := Lib.hid (below_on HB0.out hb1)
      clear hb1 c1
      have c2 := cell_on HQ.out hqb HB1.out
      have g2 := (HE.out.step HB1.out).e3.range.cell
      go_wp2_with fail
      refine (need_yes _ (es .range)).mono ?_
      rintro e w2 ⟨rfl, hb2⟩
      have HB2 := Lib.hid (below_on HB1.out hb2)
      clear hb2 c2 g2
      have c3 := cell_on HR.out hrb HB2.out
      go_wp2_with fail
      refine (who_no es _ who (HE.out.step HB2.out) HC2.out).mono ?_
      rintro e w3 ⟨rfl, hb3⟩
      exact ⟨rfl, rfl, below_on HB2.out hb3⟩
/-- Three boxes, and the two results of asked behind them. -/
def box3 (w : World) (a b c : Value) (ta tb tc : TypeId) : World := ((w.alloc (.cells #[a] ta)).alloc (.cells #[b] tb)).alloc (.cells #[c] tc)
theorem box3_below (w : World) (a b c : Value) (ta tb tc : TypeId) : Below w.heap.size w (box3 w a b c ta tb tc) := below_on (below_on (below_box w _) (below_box _ _)) (below_box _ _)
theorem box3_size (w : World) (a b c : Value) (ta tb tc : TypeId) : (box3 w a b c ta tb tc).heap.size = w.heap.size + 3 := by simp [box3]
theorem box3_cells (w : World) (a b c : Value) (ta tb tc : TypeId) : (box3 w a b c ta tb tc).cell? ⟨w.heap.size, 0, none⟩ = some a ∧ (box3 w a b c ta tb tc).cell? ⟨w.heap.size + 1, 0, none⟩ = some b ∧ (box3 w a b c ta tb tc).cell? ⟨w.heap.size + 2, 0, none⟩ = some c := by
  refine ⟨cell_on (cell_on (box_cell w a ta) (by simp) (below_box _ (Obj.cells #[b] tb))) (by simp; omega) (below_box _ _), ?_, ?_⟩
  · have := cell_on (box_cell (w.alloc (.cells #[a] ta)) b tb) (by simp) (below_box _ (Obj.cells #[c] tc))
    simp only [size_alloc1] at this
    exact this
  · have := box_cell ((w.alloc (.cells #[a] ta)).alloc (.cells #[b] tb)) c tc
    simp only [size_alloc1] at this
    exact this
set_option maxRecDepth 8000 in
set_option maxHeartbeats 800000 in
theorem prove_any (es : Er → Addr) (w : World) (K N : Option Addr) (kc nc : Nat) (key nonce : Bs) (who : ByteArray) (hE : PEnv w es) (hK : RdC (· < w.heap.size) w K (bvs key)) (hkc : key.length ≤ kc) (hN : RdC (· < w.heap.size) w N (bvs nonce)) :
    Calls Tryd.prog 11 #[.slice K key.length kc, .slice N nonce.length nc, .string who] w (OrErr w es (proveR key nonce who.data.toList) (IsArr 32)) := by
  have hcf : ∀ (args : Array Value) (w : World), (callFunc 32 args).run Tryd.prog w = .ok (.enter 32 args) w := run_enter Tryd.func32 (by kernel_rfl) (by kernel_rfl)
  have hb2 := box3_below w (.slice K key.length kc) (.slice N nonce.length nc) (.string who) 22 22 9
  have hs2 := box3_size w (.slice K key.length kc) (.slice N nonce.length nc) (.string who) 22 22 9
  obtain ⟨hp, hq, hr3⟩ := box3_cells w (.slice K key.length kc) (.slice N nonce.length nc) (.string who) 22 22 9
  have hb3 := below_on hb2 (askWB_below _)
  have hsz := askWB_size (box3 w (.slice K key.length kc) (.slice N nonce.length nc) (.string who) 22 22 9)
  have hp3 := cell_on hp (by rw [hs2]; show w.heap.size < _; omega) (askWB_below _)
  have hq3 := cell_on hq (by rw [hs2]; show w.heap.size + 1 < _; omega) (askWB_below _)
  have hr4 := cell_on hr3 (by rw [hs2]; show w.heap.size + 2 < _; omega) (askWB_below _)
  have hmf := makeFunc_run
  have hE3 := hE.step hb3
  have hK3 := hK.step hb3
  have hN3 := hN.step hb3
  rw [hs2] at hsz
  by_cases hok : secretOk key = true ∧ nonce.length = 16 ∧ whoOk who.data.toList = true
  · have hr : proveR key nonce who.data.toList = .ok (proveB key nonce who.data.toList) := by unfold proveR; rw [if_pos hok]
    have hdo := askedB_yes _ 32 #[.pointer (some ⟨w.heap.size, 0, none⟩), .pointer (some ⟨w.heap.size + 1, 0, none⟩), .pointer (some ⟨w.heap.size + 2, 0, none⟩)] (ArrQ (w.heap.size + 5) 32 (proveB key nonce who.data.toList)) hcf (fun v w h => by obtain ⟨g, rfl, _⟩ := h; exact ⟨_, _, _, rfl⟩)
      ((proveC_yes es _ ⟨w.heap.size, 0, none⟩ ⟨w.heap.size + 1, 0, none⟩ ⟨w.heap.size + 2, 0, none⟩ K N kc nc key nonce who hE3 hK3 hkc hN3 hp3 (by rw [hsz]; show w.heap.size < _; omega) hq3 (by rw [hsz]; show w.heap.size + 1 < _; omega) hr4 (by rw [hsz]; show w.heap.size + 2 < _; omega) hok.1 hok.2.1 hok.2.2).mono fun e w' h => by have := h.q; rw [hsz] at this; rw [hsz]; exact this)
    rw [hr]
    have HDl := Lib.hid (show (proveB key nonce who.data.toList).length = 32 from keyed_len key _)
    generalize proveB key nonce who.data.toList = D at *
    unfold box3 at hdo hb2 hs2
    have HD := Lib.hid hdo
    have HB2 := Lib.hid hb2
    have HS2 := Lib.hid hs2
    clear hcf hb2 hb3 hsz hs2 hp hq hr3 hp3 hq3 hr4 hE3 hK3 hN3 hdo hr hok hE hK hN
    go_enter Tryd.func11, Tryd.ntmps11
    go_wp2_with fail
    refine HD.out.mono ?_
    rintro e w4 ⟨v, w3, rfl, ⟨g, rfl, hg, ha⟩, hb4, _, hblk⟩
    have HA := Lib.hid (ha.move (hblk g (by rw [HS2.out]; omega)))
    have HB4 := Lib.hid (below_on HB2.out hb4)
    clear ha hb4 hblk
    go_wp2_with fail
    go_ret2
    exact ⟨HB4.out, _, rfl, g, _, rfl, by omega, HA.out, HDl.out, by rw [List.take_of_length_le (by rw [HDl.out]; omega)]⟩
  · have hr : proveR key nonce who.data.toList = .error .range := by unfold proveR; rw [if_neg hok]
    have hor : secretOk key = false ∨ decide (nonce.length = 16) = false ∨ whoOk who.data.toList = false := by
      cases h1 : secretOk key with
      | false => exact .inl rfl
      | true =>
        by_cases h2 : nonce.length = 16
        · cases h3 : whoOk who.data.toList with
          | false => exact .inr (.inr rfl)
          | true => exact absurd ⟨h1, h2, h3⟩ hok
        · exact .inr (.inl (decide_eq_false h2))
    have hdo := askedB_no _ 32 #[.pointer (some ⟨w.heap.size, 0, none⟩), .pointer (some ⟨w.heap.size + 1, 0, none⟩), .pointer (some ⟨w.heap.size + 2, 0, none⟩)] (es .range) hcf
      (proveC_no es _ ⟨w.heap.size, 0, none⟩ ⟨w.heap.size + 1, 0, none⟩ ⟨w.heap.size + 2, 0, none⟩ K N kc nc key nonce who hE3 hp3 (by rw [hsz]; show w.heap.size < _; omega) hq3 (by rw [hsz]; show w.heap.size + 1 < _; omega) hr4 (by rw [hsz]; show w.heap.size + 2 < _; omega) hor)
    rw [hr]
    unfold box3 at hdo hb2
    have HD := Lib.hid hdo
    have HB2 := Lib.hid hb2
    clear hcf hb2 hb3 hsz hs2 hp hq hr3 hp3 hq3 hr4 hE3 hK3 hN3 hdo hr hok hE hK hN hor
    go_enter Tryd.func11, Tryd.ntmps11
    go_wp2_with fail
    refine HD.out.mono ?_
    rintro e w4 ⟨rfl, hb4⟩
    have HB4 := Lib.hid (below_on HB2.out hb4)
    clear hb4
    unfold errV
    go_wp2_with fail
    go_ret2
    exact ⟨HB4.out, rfl⟩
end Go.Proofs.YtnnokbipcenbgaaDoor
