/- Walk of the statement ReplayAcks. -/
import Derived.Test.YtipgimmgjdgdeaaDoorJm
import Derived.Deep.CutBlock
set_option linter.unusedVariables false
set_option linter.unusedSimpArgs false
set_option linter.unnecessarySimpa false
namespace Go.Proofs.YtipgimmgjdgdeaaDoor
open Go.RowKit
attribute [local go_sem] run_store_flt

theorem FrsV.dropJ {ok : Nat → Prop} {w : World} {fs : List Fr} {cs : List Value} (h : FrsV ok w fs cs) (m : Nat) : FrsV ok w (fs.drop m) (cs.drop (m * 10)) := by
  induction h with
  | nil => simpa using FrsV.nil
  | snoc h hr ih =>
    rename_i fs cs f A c
    have hl := h.len
    by_cases hm : m ≤ fs.length
    · rw [List.drop_append_of_le_length hm, List.drop_append_of_le_length (by omega)]
      exact .snoc ih hr
    · rw [List.drop_eq_nil_of_le (by simp; omega), List.drop_eq_nil_of_le (by rw [List.length_append, hl]; show _ + 10 ≤ _; omega)]
      exact .nil
theorem RdFs.dropJ {w : World} {A : Option Addr} {fs : List Fr} (h : RdFs w A fs) (m c : Nat) (hc : fs.length ≤ c) : RdFs w (if c = m then A else A.map (·.add (m * 10))) (fs.drop m) := by
  obtain ⟨cs, h1, h2⟩ := h
  refine ⟨cs.drop (m * 10), ?_, h2.dropJ m⟩
  have h3 := h1.drop (m * 10) (decide (c = m)) (fun e => by have := of_decide_eq_true e; have := h2.len; omega)
  by_cases e : c = m
  · rw [if_pos e]
    rw [if_pos (decide_eq_true e)] at h3
    exact h3
  · rw [if_neg e]
    rw [if_neg (by simp [e])] at h3
    exact h3
/-- The frames that were told, in a row of their own; the row out beside it. -/
structure AcksAt (B : Nat) (wr : World) (G : Nat) (v : Value) (o : Ro) (al : List Fr) (av : Value) : Prop where
  out : OutAt (fun k => B ≤ k ∧ some k ≠ av.ownBlock) wr G v o
  row : ∃ cs, wr.ownsRow B 33 10 av al.length cs ∧ FrsV (fun k => B ≤ k ∧ k < wr.heap.size ∧ ¬ OutS G v k ∧ some k ≠ av.ownBlock) wr al cs
theorem AcksAt.rd {B : Nat} {wr : World} {G : Nat} {v : Value} {o : Ro} {al : List Fr} {A : Option Addr} {c : Nat} (h : AcksAt B wr G v o al (.slice A al.length c)) : RdFs wr A al := by
  obtain ⟨cs, h1, h2⟩ := h.row
  exact ⟨cs, (RdC.of_own h1).mono (fun k hk => hk.2), h2.mono (fun k hk => hk.2.1)⟩
theorem AcksAt.on {B : Nat} {wr w' : World} {G : Nat} {v : Value} {o : Ro} {al : List Fr} {av : Value} (h : AcksAt B wr G v o al av) (hb : Below wr.heap.size wr w') : AcksAt B w' G v o al av := by
  obtain ⟨cs, h1, h2⟩ := h.row
  have hz := hb.size
  exact ⟨h.out.on hb, cs, own_below h1 hb, (h2.move (fun k hk => hb.block k hk.2.1)).mono (fun k hk => ⟨hk.1, by omega, hk.2.2⟩)⟩
theorem own_of_blockJ {w w' : World} {base : Nat} {e : TypeId} {size n : Nat} {v : Value} {xs : List Value} (h : w.ownsRow base e size v n xs) (hb : ∀ k, v.ownBlock = some k → w'.heap[k]? = w.heap[k]?) : w'.ownsRow base e size v n xs := by
  refine ⟨h.1, ?_⟩
  rcases h.2 with ⟨rfl, h0⟩ | ⟨g, cap, cur, rfl, h1, h2, rest⟩
  · exact .inl ⟨rfl, h0⟩
  · exact .inr ⟨g, cap, cur, rfl, h1, (hb g rfl).trans h2, rest⟩
theorem AcksAt.fresh {B : Nat} {wr : World} {G : Nat} {v : Value} {o : Ro} {al : List Fr} {av : Value} (h : AcksAt B wr G v o al av) (hB : B ≤ wr.heap.size) : ∀ k, wr.heap.size ≤ k → B ≤ k ∧ some k ≠ av.ownBlock := by
  obtain ⟨cs, h1, h2⟩ := h.row
  exact fun k hk => ⟨by omega, fun e => by have := (h1.lt k e.symm).2; omega⟩
theorem AcksAt.then {B : Nat} {w w' w0 : World} {G : Nat} {v : Value} {o : Ro} {al : List Fr} {av : Value} (s : AcksAt B w G v o al av) (h : Chg (OutS G v) w w') (hb : Below B w0 w) (hz : B ≤ w.heap.size) : Below B w0 w' :=
  hb.trans (h.below hz (fun i hi e => by
    rcases e with rfl | e
    · exact s.out.le.1
    · exact (s.out.ltB i e.symm).1.1))
/-- Acks: the row out is turned, nothing else. -/
theorem AcksAt.acked {B : Nat} {wr w' : World} {G : Nat} {v v' : Value} {o o' : Ro} {al : List Fr} {av : Value} (h : AcksAt B wr G v o al av) (hc : Chg (· = G) wr w') (ho : OutAt (fun k => B ≤ k ∧ some k ≠ av.ownBlock) w' G v' o') (hv : cutB v' = cutB v ∨ cutB v' = none) : AcksAt B w' G v' o' al av := by
  obtain ⟨cs, h1, h2⟩ := h.row
  have hz := hc.size
  have hG := h.out.le.2
  refine ⟨ho, cs, own_of_blockJ h1 (fun k hk => hc.block k (h1.lt k hk).2 (fun e => hG (by rw [← e]; exact hk.symm))), (h2.move (fun k hk => hc.block k hk.2.1 (fun e => hk.2.2.1 (.inl e)))).mono (fun k hk => ⟨hk.1, by omega, ?_, hk.2.2.2⟩)⟩
  rintro (e | e)
  · exact hk.2.2.1 (.inl e)
  · rcases hv with e2 | e2
    · exact hk.2.2.1 (.inr (by rw [e, e2]))
    · rw [e2] at e; cases e
/-- A frame is pushed. -/
theorem AcksAt.pushed {B : Nat} {wr w' : World} {G : Nat} {v v' : Value} {o o' : Ro} {al : List Fr} {av : Value} (h : AcksAt B wr G v o al av) (hc : Chg (OutS G v) wr w') (ho : OutAt (fun k => B ≤ k ∧ some k ≠ av.ownBlock) w' G v' o') (hv : cutB v' = cutB v ∨ ∃ b, cutB v' = some b ∧ wr.heap.size ≤ b) : AcksAt B w' G v' o' al av := by
  obtain ⟨cs, h1, h2⟩ := h.row
  have hz := hc.size
  have hG := h.out.le.2
  have hlt := h.out.ltB
  refine ⟨ho, cs, own_of_blockJ h1 (fun k hk => hc.block k (h1.lt k hk).2 ?_), (h2.move (fun k hk => hc.block k hk.2.1 hk.2.2.1)).mono (fun k hk => ⟨hk.1, by omega, ?_, hk.2.2.2⟩)⟩
  · rintro (e | e)
    · exact hG (by rw [← e]; exact hk.symm)
    · exact (hlt k e.symm).1.2 hk.symm
  · rintro (e | e)
    · exact hk.2.2.1 (.inl e)
    · rcases hv with e2 | ⟨b, e2, hb⟩
      · exact hk.2.2.1 (.inr (by rw [e, e2]))
      · rw [e2] at e; injection e with e; omega
/-- What was told is laid into the row. -/
theorem AcksAt.told {B : Nat} {wr w' : World} {G : Nat} {v : Value} {o : Ro} {al : List Fr} {av v6 : Value} {cs : List Value} {f : Fr} {A : Option Addr} {c : Nat} (h : AcksAt B wr G v o al av) (hr : wr.ownsRow B 33 10 av al.length cs) (hf : FrsV (fun k => B ≤ k ∧ k < wr.heap.size ∧ ¬ OutS G v k ∧ some k ≠ av.ownBlock) wr al cs)
    (hb : RdC (fun k => B ≤ k ∧ k < wr.heap.size ∧ ¬ OutS G v k ∧ some k ≠ av.ownBlock) wr A (bvs f.bytes)) (hown : w'.ownsRow B 33 10 v6 (al.length + 1) (cs ++ (frCs f A c).toList)) (hg : Grew wr av w' v6) : AcksAt B w' G v o (al ++ [f]) v6 := by
  have hz := hg.by_.size
  have hlt := h.out.lt
  have hltB := h.out.ltB
  have hmv : ∀ k, k < wr.heap.size → some k ≠ av.ownBlock → w'.heap[k]? = wr.heap[k]? := fun k hk hn => hg.by_.block k hk hn
  have ho := ((h.out.more (M' := fun k => (B ≤ k ∧ some k ≠ av.ownBlock) ∧ k < wr.heap.size) (fun k hk hM => ⟨hM, hk⟩)).move hz (fun k hk hk2 => hmv k hk2 hk.1.2)).more (M' := fun k => B ≤ k ∧ some k ≠ v6.ownBlock) (fun k _ hM => ⟨hM.1.1, hg.ne hM.1.2 hM.2⟩)
  refine ⟨ho, cs ++ (frCs f A c).toList, by rw [List.length_append]; exact hown, ?_⟩
  · refine .snoc ((hf.move (fun k hk => hmv k hk.2.1 hk.2.2.2)).mono (fun k hk => ⟨hk.1, by omega, hk.2.2.1, hg.ne hk.2.2.2 hk.2.1⟩)) ((hb.move (fun k hk => hmv k hk.2.1 hk.2.2.2)).mono (fun k hk => ⟨hk.1, by omega, hk.2.2.1, hg.ne hk.2.2.2 hk.2.1⟩))
def roA (al : List Fr) (m : Nat) : Ro := ⟨al.drop m, m⟩
theorem roA_last {al : List Fr} {m : Nat} (h : m ≤ al.length) : (roA al m).last = al.length := by
  unfold roA Ro.last
  simp
  omega
theorem roA_ack {al : List Fr} {m n : Nat} : (roA al m).ack n = roA al (max m n) := by
  unfold roA Ro.ack
  simp only [List.drop_drop]
  congr 2
  omega
set_option maxRecDepth 8000 in
set_option maxHeartbeats 12000000 in
theorem acks_walk (es : Er → Addr) (w : World) (A Z : Option Addr) (c cz : Nat) (fs : List Fr) (zs : List Int) (hE : REnv w es) (hR : RdFs w A fs) (hl : ∀ f ∈ fs, f.lens) (hc : fs.length ≤ 9223372036854775807) (hZ : RdC (· < w.heap.size) w Z (intVs zs)) (hzl : zs.length ≤ 9223372036854775807) :
    Calls Tryd.prog 4 #[.slice A fs.length c, .slice Z zs.length cz] w (OkPost w) := by
  have HAl := Lib.hid (alive11 es w hE)
  have HE := Lib.hid hE
  have HR := Lib.hid hR
  have HLs := Lib.hid hl
  have HZ := Lib.hid hZ
  clear hE hR hl hZ
  go_enter Tryd.func4, Tryd.ntmps4
  go_wp2_with fail
  refine HAl.out.mono ?_
  rintro e w1 ⟨rfl, hb1⟩
  have HB1 := Lib.hid hb1
  have HNo := Lib.hid (newOut_any w1)
  have hz1 : w.heap.size ≤ w1.heap.size := hb1.size
  clear hb1
  go_wp2_with fail
  refine HNo.out.mono ?_
  rintro e w2 ⟨rfl, hb2, hs2, ho2⟩
  have hown0 : (w2.alloc (Obj.cells #[] 33)).ownsRow w1.heap.size 33 10 (.slice (some ⟨w2.heap.size, 0, none⟩) 0 0) 0 [] := World.ownsRow_lit w2 #[] 0 (by omega) (by unfold maxLen; omega) rfl
  have hA0 : AcksAt w1.heap.size (w2.alloc (Obj.cells #[] 33)) w1.heap.size (.slice none 0 0) ⟨[], 0⟩ [] (.slice (some ⟨w2.heap.size, 0, none⟩) 0 0) :=
    ⟨((ho2.more (M' := fun k => w1.heap.size ≤ k ∧ k < w2.heap.size) (fun k hk h => ⟨h, hk⟩)).on (below_box _ _)).more (fun k _ hk => ⟨hk.1, fun e => by have h1 : w2.heap.size = k := Option.some.inj e.symm; omega⟩), [], hown0, .nil⟩
  have HA0 := Lib.hid hA0
  have HB2 := Lib.hid (hb2.trans ((below_box w2 (Obj.cells #[] 33)).mono hb2.size))
  clear hb2 ho2 hs2 hown0 hA0
  go_upto_block 0 with fail
  go_cut [6] from 23 to 45 (fun av wx => ∃ (v : Value) (o : Ro), o.acked = 0 ∧ o.held.length ≤ 31 ∧ AcksAt w1.heap.size wx w1.heap.size v o o.held av ∧ o.fine ∧ Below w1.heap.size w1 wx)
  case first =>
    go_wp2_with fail
    go_loopw [6, 22] (fun av iv wr => ∃ (i : Nat) (v : Value) (o : Ro), i ≤ fs.length ∧ iv = .int .i64 i ∧ o.acked = 0 ∧ o.held.length ≤ i ∧ o.held.length ≤ 31 ∧ AcksAt w1.heap.size wr w1.heap.size v o o.held av ∧ o.fine ∧ Below w1.heap.size w1 wr) (fun _ iv _ => fs.length - (intOf iv).toNat)
    case atStart => exact ⟨0, _, ⟨[], 0⟩, Nat.zero_le _, rfl, rfl, Nat.le_refl _, by simp, HA0.out, Ro.fine.new, HB2.out⟩
    case round =>
      obtain ⟨i, v, o, hi, rfl, hoa, hol, hol2, hA, hfn, hbel⟩ := hrel
      have HA := Lib.hid hA
      have HFn := Lib.hid hfn
      have HOa := Lib.hid hoa
      have HBel := Lib.hid hbel
      have hBw := below_on HB1.out hbel
      have HBw := Lib.hid hBw
      have hzr := hbel.size
      by_cases hlt : i < fs.length
      · obtain ⟨ad, A1, c1, rfl, hadb, hfr, hr⟩ := (HR.out.step hBw).at i hlt
        have hlf := HLs.out _ (List.getElem_mem hlt)
        generalize fs[i] = f at *
        obtain ⟨w3, hw3⟩ : ∃ W, W = wr.alloc (Obj.cells #[.int .i64 f.kind, .int .i64 f.seq, .int .i64 f.got, .int .i64 f.stream, .int .i64 f.amount, .int .i64 f.code, .string f.who, .string f.name, .float .f64 f.weight, .slice A1 f.bytes.length c1] 33) := ⟨_, rfl⟩
        have hb3 : Below wr.heap.size wr w3 := by rw [hw3]; exact below_box _ _
        have HF3 := Lib.hid (show FrC w3 wr.heap.size f A1 c1 by rw [hw3]; exact FrC.box wr f A1 c1 _)
        have hs3 : w3.heap.size = wr.heap.size + 1 := by rw [hw3]; simp
        have HB3 := Lib.hid (hbel.trans (hb3.mono hzr))
        have HA3 := Lib.hid (hA.on hb3)
        have HR3 := Lib.hid (hr.step hb3)
        have HW3 := Lib.hid hw3.symm
        have HLf := Lib.hid hlf
        have HLo := Lib.hid (long_any f A1 c1 w3 hlf)
        obtain ⟨csA, hownA, _⟩ := hA.row
        obtain ⟨Aa, ca, rfl, hca, _⟩ := own_slice hownA
        obtain ⟨a0, a1, a2, a3, a4, a5, a6, a7, a8, a9⟩ := hfr
        obtain ⟨d0, d1, d2, d3, d4, d5, d6, d7, d8, d9⟩ := HF3.out
        have j0 : (0 : Int) ≤ (i : Int) := by omega
        have j1 : (i : Int) < (fs.length : Int) := by omega
        have j3 : IntKind.i64.wrap ((i : Int) + 1) = (i : Int) + 1 := IntWalk.i64_in _ (by omega)
        have hcb1 : (ad.add (i * 10)).block < wr.heap.size := by rw [add_block]; exact hadb
        have hlt3 : wr.heap.size < w3.heap.size := by omega
        unfold frV at HLo
        clear hb3 hw3 hr hbel hBw hA hfn hoa hownA hlf
        by_cases h30 : 30 < i
        · have k0 : (30 : Int) < (i : Int) := by omega
          clear h30
          go_wp2_with (rw [HW3.out])
          go_meet
          exact ⟨_, o, HOa.out, hol2, HA3.out, HFn.out, HB3.out⟩
        · have k0 : ¬ (30 : Int) < (i : Int) := by omega
          go_wp2_with (rw [HW3.out])
          refine HLo.out.mono ?_
          rintro e w4 ⟨rfl, hb4⟩
          have HB4 := Lib.hid (HB3.out.trans (hb4.mono HB3.out.size))
          have HA4 := Lib.hid (HA3.out.on hb4)
          have HF4 := Lib.hid (HF3.out.on hlt3 hb4)
          have HR4 := Lib.hid (HR3.out.step hb4)
          have hlt4 : wr.heap.size < w4.heap.size := by have := hb4.size; omega
          clear hb4 a0 a1 a2 a3 a4 a5 a6 a7 a8 a9 d0 d1 d2 d3 d4 d5 d6 d7 d8 d9
          cases hlg : longF f with
          | true =>
            clear hlg h30
            go_wp2_with fail
            go_meet
            exact ⟨_, o, HOa.out, hol2, HA4.out, HFn.out, HB4.out⟩
          | false =>
            have hbl := longF_no hlg
            have hz14 : w1.heap.size ≤ w4.heap.size := HB4.out.size
            have hpu := push_any es (fun k => w1.heap.size ≤ k ∧ some k ≠ (Value.slice Aa o.held.length ca).ownBlock) w4 w1.heap.size v o f A1 c1 (HE.out.step (below_on HB1.out HB4.out)) HA4.out.out HFn.out HLf.out HR4.out (by omega) (HA4.out.fresh hz14)
            obtain ⟨d0, d1, d2, d3, d4, d5, d6, d7, d8, d9⟩ := HF4.out
            cases hm : o.may f with
            | some er =>
              have HPu := Lib.hid (hpu.mono fun e w' h => h.er hm)
              clear hpu hlg hm
              unfold frV at HPu
              go_wp2_with fail
              refine HPu.out.mono ?_
              rintro e w7 ⟨rfl, hb7⟩
              obtain ⟨w8, hw8⟩ : ∃ W, W = w7.alloc (Obj.cells #[.int .i64 0, .int .i64 0, .int .i64 0, .int .i64 0, .int .i64 0, .int .i64 0, .string ⟨#[]⟩, .string ⟨#[]⟩, .float .f64 0, .slice none 0 0] 33) := ⟨_, rfl⟩
              have hb78 : Below w7.heap.size w7 w8 := by rw [hw8]; exact below_box _ _
              have hb48 : Below w4.heap.size w4 w8 := hb7.trans (hb78.mono hb7.size)
              have HB8 := Lib.hid (HB4.out.trans (hb48.mono hz14))
              have HA8 := Lib.hid (HA4.out.on hb48)
              have HW8 := Lib.hid hw8.symm
              clear hw8 hb7 hb78 hb48 d0 d1 d2 d3 d4 d5 d6 d7 d8 d9
              simp only [Fr.of, noS, List.length_nil, errV]
              go_wp2_with fail
              rw [HW8.out]
              try go_wp2_with fail
              go_roundw
              case rel => exact ⟨i + 1, v, o, by omega, by go_num, HOa.out, by omega, hol2, HA8.out, HFn.out, HB8.out⟩
              case measure => simp [intOf]; omega
            | none =>
              have HM := Lib.hid hm
              have HPu := Lib.hid (hpu.mono fun e w' h => h.ok hm)
              have hol : ∀ b, (Value.slice Aa o.held.length ca).ownBlock = some b → b < w4.heap.size := fun b hb => by
                obtain ⟨_, h1, _⟩ := HA4.out.row
                exact (h1.lt b hb).2
              have HOl := Lib.hid hol
              clear hpu hlg hm hol
              unfold frV at HPu
              go_wp2_with fail
              refine HPu.out.mono ?_
              rintro e w7 ⟨A7, c7, v7, rfl, hr7, ho7, hch7, hcut7⟩
              have hz47 := hch7.size
              have HB7 := Lib.hid (HA4.out.then hch7 HB4.out hz14)
              have ha7 := HA4.out.pushed hch7 ho7 hcut7
              have HR7 := Lib.hid hr7
              obtain ⟨w8, hw8⟩ : ∃ W, W = w7.alloc (Obj.cells #[.int .i64 (o.as f).kind, .int .i64 (o.as f).seq, .int .i64 (o.as f).got, .int .i64 (o.as f).stream, .int .i64 (o.as f).amount, .int .i64 (o.as f).code, .string (o.as f).who, .string (o.as f).name, .float .f64 (o.as f).weight, .slice A7 (o.as f).bytes.length c7] 33) := ⟨_, rfl⟩
              have hb8 : Below w7.heap.size w7 w8 := by rw [hw8]; exact below_box _ _
              have HF8 := Lib.hid (show FrC w8 w7.heap.size (o.as f) A7 c7 by rw [hw8]; exact FrC.box w7 (o.as f) A7 c7 _)
              have HB8 := Lib.hid (HB7.out.trans (hb8.mono HB7.out.size))
              have ha8 := ha7.on hb8
              have HA8 := Lib.hid ha8
              have HR8 := Lib.hid (hr7.move fun k hk => hb8.block k hk.2.1)
              have hz78 := hb8.size
              have HW8 := Lib.hid hw8.symm
              have HFp := Lib.hid (HFn.out.push HM.out)
              obtain ⟨cs8, hown8, hfr8⟩ := ha8.row
              have HO8 := Lib.hid hown8
              have HFr8 := Lib.hid hfr8
              obtain ⟨j0', hj, jz0, jz1, jz2⟩ := info_parts infoFr
              clear hr7 ho7 hch7 hcut7 hw8 hb8 ha7 ha8 hown8 hfr8 d0 d1 d2 d3 d4 d5 d6 d7 d8 d9
              obtain ⟨d0, d1, d2, d3, d4, d5, d6, d7, d8, d9⟩ := HF8.out
              go_wp2_with (first | (rw [HW8.out]) | (at_builtin; refine wpList_appN (W := w8) w1.heap.size (.tmp 41) (.tmp 43) 22 33 j0' _ 10 112 (by rfl) (by rfl) Tryd.underlying22 hj jz0 jz1 jz2 rfl (by omega) (by omega) _ o.held.length cs8 (frCs (o.as f) A7 c7).toList (by rfl) w8.heap.size rfl (by rfl) HO8.out rfl (by simp [frCs, Value.oneCell']) (by omega) (by omega) ?_; intro v9 w9 hown9 hg9))
              have hA9 := HA8.out.told (f := o.as f) HO8.out HFr8.out (HR8.out.mono fun k hk => ⟨by omega, by omega, hk.2.2, fun e => by have := HOl.out k e.symm; omega⟩) hown9 hg9
              go_roundw
              case rel => exact ⟨i + 1, v7, o.push f, by omega, by go_num, HOa.out, by simp [Ro.push]; omega, by simp [Ro.push]; omega, hA9, HFp.out, hg9.below HB8.out (by omega) (fun b hb => (HO8.out.lt b hb).1)⟩
              case measure => simp [intOf]; omega
      · have j1 : ¬ (i : Int) < (fs.length : Int) := by omega
        clear hbel hBw hA hfn hoa
        go_wp2_with fail
        go_meet
        exact ⟨_, o, HOa.out, hol2, HA.out, HFn.out, HBel.out⟩
  case rest =>
    obtain ⟨v, o, hoa, hol2, hA, hfn, hbel⟩ := hcut
    have HA := Lib.hid hA
    have HFn := Lib.hid hfn
    have HOa := Lib.hid hoa
    have HBel := Lib.hid hbel
    have hbw := below_on HB1.out hbel
    have HBw := Lib.hid hbw
    obtain ⟨csA, hownA, _⟩ := hA.row
    obtain ⟨Aa, ca, rfl, hca, _⟩ := own_slice hownA
    clear hbel hbw hA hfn hoa hownA
    go_wp2_with fail
    obtain ⟨al, hal⟩ : ∃ al, al = o.held := ⟨_, rfl⟩
    have hro : o = roA al 0 := by
      obtain ⟨h1, h2⟩ := o
      simp only at HOa hal
      rw [hal, HOa.out]
      rfl
    have hax := HA.out
    have hfx := HFn.out
    rw [← hal] at hax
    rw [hro] at hax hfx
    have hall : al.length ≤ 31 := by rw [hal]; exact hol2
    have hcal : al.length ≤ ca := by rw [hal]; exact hca
    rw [← hal]
    have HAx := Lib.hid hax
    have HFx := Lib.hid hfx
    have HBx := Lib.hid HBel.out
    clear hro hax hfx hal hca
    go_loopw [11, 48] (fun mv iv wx => ∃ (i m : Nat) (v' : Value), i ≤ zs.length ∧ iv = .int .i64 i ∧ mv = .int .i64 m ∧ m ≤ al.length ∧ AcksAt w1.heap.size wx w1.heap.size v' (roA al m) al (.slice Aa al.length ca) ∧ (roA al m).fine ∧ Below w1.heap.size w1 wx) (fun _ iv _ => zs.length - (intOf iv).toNat)
    case atStart => exact ⟨0, 0, v, Nat.zero_le _, rfl, rfl, Nat.zero_le _, HAx.out, HFx.out, HBx.out⟩
    case round =>
      obtain ⟨i, m, v', hiz, rfl, rfl, hm, hA2, hf2, hb2⟩ := hrel
      have HA2 := Lib.hid hA2
      have HF2 := Lib.hid hf2
      have HB2' := Lib.hid hb2
      have hbw2 := below_on HB1.out hb2
      have HBw2 := Lib.hid hbw2
      by_cases hlz : i < zs.length
      · obtain ⟨zd, rfl, hzdb, hzc⟩ := (HZ.out.step hbw2) (by intro e; have : zs = [] := List.map_eq_nil_iff.1 e; subst this; simp at hlz)
        have hzcell := hzc i _ (intVs_get zs i hlz)
        generalize zs[i] = z at *
        have z0 : (0 : Int) ≤ (i : Int) := by omega
        have z1 : (i : Int) < (zs.length : Int) := by omega
        have z3 : IntKind.i64.wrap ((i : Int) + 1) = (i : Int) + 1 := IntWalk.i64_in _ (by omega)
        have hak := ack_any es _ wr w1.heap.size v' (roA al m) z (HE.out.step hbw2) HA2.out.out HF2.out
        have HAk := Lib.hid hak
        clear hzc hA2 hf2 hb2 hbw2 hak
        by_cases h60 : 60 < i
        · have k60 : (60 : Int) < (i : Int) := by omega
          clear h60
          go_wp2_with fail
          go_ret
          exact ⟨rfl, HBw2.out⟩
        · have k60 : ¬ (60 : Int) < (i : Int) := by omega
          clear h60
          have hla2 := roA_last hm
          by_cases hzin : 0 ≤ z ∧ z ≤ (al.length : Int)
          · obtain ⟨zn, rfl⟩ : ∃ zn : Nat, z = (zn : Int) := ⟨z.toNat, by omega⟩
            have hzn : zn ≤ al.length := by omega
            have y0 : (0 : Int) ≤ (zn : Int) := by omega
            have y1 : (zn : Int) ≤ (al.length : Int) := by omega
            have HAk2' := Lib.hid (HAk.out.mono fun e w' h => h.1 ⟨by omega, by rw [hla2]; omega⟩)
            clear HAk hzin hla2
            go_wp2_with fail
            refine HAk2'.out.mono ?_
            rintro e wA ⟨rfl, hchA, vA, hoA, hcA⟩
            by_cases hmz : m < zn
            · have y2 : (m : Int) < (zn : Int) := by omega
              have y3 : (m : Int) ≤ (zn : Int) := by omega
              have y4 : ¬ (zn : Int) ≤ (m : Int) := by omega
              have y5 : ¬ (zn : Int) < (m : Int) := by omega
              obtain ⟨mm, hmmx⟩ : ∃ mm, mm = max m zn := ⟨_, rfl⟩
              obtain rfl : mm = zn := by omega
              have hmm : mm ≤ al.length := by omega
              have hoA' : OutAt (fun k => w1.heap.size ≤ k ∧ some k ≠ (Value.slice Aa al.length ca).ownBlock) wA w1.heap.size vA (roA al mm) := by rw [hmmx, ← roA_ack]; exact hoA
              have HAm := Lib.hid (HA2.out.acked hchA hoA' hcA)
              have HFm := Lib.hid (show (roA al mm).fine by rw [hmmx, ← roA_ack]; exact HF2.out.ack (by rw [roA_last hm]; exact hzn))
              have HBm := Lib.hid (HB2'.out.trans (hchA.below HB2'.out.size (fun k hk e => by rw [e]; exact Nat.le_refl _)))
              clear hchA hoA hcA hoA' hmmx HAk2'
              have hla := roA_last hmm
              have hsi := since_any es _ wA w1.heap.size _ (roA al mm) (mm : Nat) (HE.out.step (below_on HB1.out HBm.out)) HAm.out.out HFm.out
              have HSi := Lib.hid hsi
              clear hsi
              go_wp2_with fail
              refine HSi.out.mono ?_
              rintro e wB ⟨hbB, hy, _⟩
              obtain ⟨AS, cS, csS, heS, hoS, hfS⟩ := hy ⟨by show (mm : Int) ≤ _; omega, by rw [hla]; omega⟩
              have hdr : (roA al mm).held.drop (((mm : Nat) : Int).toNat - (roA al mm).acked) = al.drop mm := by
                show (al.drop mm).drop (((mm : Nat) : Int).toNat - mm) = al.drop mm
                rw [show ((mm : Nat) : Int).toNat - mm = 0 by omega, List.drop_zero]
              rw [hdr] at heS hoS hfS
              have hdl : (al.drop mm).length = al.length - mm := List.length_drop ..
              have HLs2 := Lib.hid (show RdFs wB AS (al.drop mm) from ⟨csS, (RdC.of_own hoS).mono (fun k hk => hk.2), hfS.mono (fun k hk => hk.2.1)⟩)
              rw [hdl] at heS
              subst heS
              have HBB := Lib.hid (HBm.out.trans (hbB.mono HBm.out.size))
              have HAB := Lib.hid (HAm.out.on hbB)
              have HRw0 := Lib.hid (RdFs.dropJ HAB.out.rd mm ca hcal)
              have HAk2 := Lib.hid (acked_any _ wB w1.heap.size _ (roA al mm) HAB.out.out)
              have hac : (roA al mm).acked = mm := rfl
              clear hbB hy hoS hfS HSi hla hdr
              rw [hac] at HAk2
              go_wp2_with fail
              refine HAk2.out.mono ?_
              rintro e wC hvC
              obtain ⟨rfl, hbC⟩ := hvC.below
              have HBC := Lib.hid (HBB.out.trans (hbC.mono HBB.out.size))
              have HAC := Lib.hid (HAB.out.on hbC)
              have HRw := HRw0
              have q1 : (0 : Int) ≤ (mm : Int) := by omega
              have q2 : (mm : Int) ≤ (al.length : Int) := by omega
              by_cases hq : ca = mm
              · have hr2 := HRw.out
                rw [if_pos hq] at hr2
                have hsl := samelist_any (al.drop mm) (al.drop mm) AS Aa cS 0 wC (HLs2.out.step hbC) (hr2.step hbC) (by omega)
                rw [decide_eq_true rfl, hdl] at hsl
                have HSl := Lib.hid hsl
                clear hr2 hsl hvC hbC
                go_wp2_with fail
                refine HSl.out.mono ?_
                rintro e wD ⟨rfl, hbD⟩
                have HBD := Lib.hid (HBC.out.trans (hbD.mono HBC.out.size))
                have HAD := Lib.hid (HAC.out.on hbD)
                clear hbD
                go_wp2_with fail
                rw [hq]
                go_roundw
                case rel => exact ⟨i + 1, mm, _, by omega, by go_num, rfl, hmm, (by have h := HAD.out; rw [hq] at h; exact h), HFm.out, HBD.out⟩
                case measure => simp [intOf]; omega
              · have hr2 := HRw.out
                rw [if_neg hq] at hr2
                have hsl := samelist_any (al.drop mm) (al.drop mm) AS (Aa.map (·.add (mm * 10))) cS (ca - mm) wC (HLs2.out.step hbC) (hr2.step hbC) (by omega)
                rw [decide_eq_true rfl, hdl] at hsl
                have HSl := Lib.hid hsl
                clear hr2 hsl hvC hbC
                go_wp2_with fail
                refine HSl.out.mono ?_
                rintro e wD ⟨rfl, hbD⟩
                have HBD := Lib.hid (HBC.out.trans (hbD.mono HBC.out.size))
                have HAD := Lib.hid (HAC.out.on hbD)
                clear hbD
                go_wp2_with fail
                go_roundw
                case rel => exact ⟨i + 1, mm, _, by omega, by go_num, rfl, hmm, HAD.out, HFm.out, HBD.out⟩
                case measure => simp [intOf]; omega
            · have y2 : ¬ (m : Int) < (zn : Int) := by omega
              have y3 : (zn : Int) ≤ (m : Int) := by omega
              obtain ⟨mm, hmmx⟩ : ∃ mm, mm = max m zn := ⟨_, rfl⟩
              obtain rfl : mm = m := by omega
              have hmm : mm ≤ al.length := by omega
              have hoA' : OutAt (fun k => w1.heap.size ≤ k ∧ some k ≠ (Value.slice Aa al.length ca).ownBlock) wA w1.heap.size vA (roA al mm) := by rw [hmmx, ← roA_ack]; exact hoA
              have HAm := Lib.hid (HA2.out.acked hchA hoA' hcA)
              have HFm := Lib.hid (show (roA al mm).fine by rw [hmmx, ← roA_ack]; exact HF2.out.ack (by rw [roA_last hm]; exact hzn))
              have HBm := Lib.hid (HB2'.out.trans (hchA.below HB2'.out.size (fun k hk e => by rw [e]; exact Nat.le_refl _)))
              clear hchA hoA hcA hoA' hmmx HAk2'
              have hla := roA_last hmm
              have hsi := since_any es _ wA w1.heap.size _ (roA al mm) (mm : Nat) (HE.out.step (below_on HB1.out HBm.out)) HAm.out.out HFm.out
              have HSi := Lib.hid hsi
              clear hsi
              go_wp2_with fail
              refine HSi.out.mono ?_
              rintro e wB ⟨hbB, hy, _⟩
              obtain ⟨AS, cS, csS, heS, hoS, hfS⟩ := hy ⟨by show (mm : Int) ≤ _; omega, by rw [hla]; omega⟩
              have hdr : (roA al mm).held.drop (((mm : Nat) : Int).toNat - (roA al mm).acked) = al.drop mm := by
                show (al.drop mm).drop (((mm : Nat) : Int).toNat - mm) = al.drop mm
                rw [show ((mm : Nat) : Int).toNat - mm = 0 by omega, List.drop_zero]
              rw [hdr] at heS hoS hfS
              have hdl : (al.drop mm).length = al.length - mm := List.length_drop ..
              have HLs2 := Lib.hid (show RdFs wB AS (al.drop mm) from ⟨csS, (RdC.of_own hoS).mono (fun k hk => hk.2), hfS.mono (fun k hk => hk.2.1)⟩)
              rw [hdl] at heS
              subst heS
              have HBB := Lib.hid (HBm.out.trans (hbB.mono HBm.out.size))
              have HAB := Lib.hid (HAm.out.on hbB)
              have HRw0 := Lib.hid (RdFs.dropJ HAB.out.rd mm ca hcal)
              have HAk2 := Lib.hid (acked_any _ wB w1.heap.size _ (roA al mm) HAB.out.out)
              have hac : (roA al mm).acked = mm := rfl
              clear hbB hy hoS hfS HSi hla hdr
              rw [hac] at HAk2
              go_wp2_with fail
              refine HAk2.out.mono ?_
              rintro e wC hvC
              obtain ⟨rfl, hbC⟩ := hvC.below
              have HBC := Lib.hid (HBB.out.trans (hbC.mono HBB.out.size))
              have HAC := Lib.hid (HAB.out.on hbC)
              have HRw := HRw0
              have q1 : (0 : Int) ≤ (mm : Int) := by omega
              have q2 : (mm : Int) ≤ (al.length : Int) := by omega
              by_cases hq : ca = mm
              · have hr2 := HRw.out
                rw [if_pos hq] at hr2
                have hsl := samelist_any (al.drop mm) (al.drop mm) AS Aa cS 0 wC (HLs2.out.step hbC) (hr2.step hbC) (by omega)
                rw [decide_eq_true rfl, hdl] at hsl
                have HSl := Lib.hid hsl
                clear hr2 hsl hvC hbC
                go_wp2_with fail
                refine HSl.out.mono ?_
                rintro e wD ⟨rfl, hbD⟩
                have HBD := Lib.hid (HBC.out.trans (hbD.mono HBC.out.size))
                have HAD := Lib.hid (HAC.out.on hbD)
                clear hbD
                go_wp2_with fail
                rw [hq]
                go_roundw
                case rel => exact ⟨i + 1, mm, _, by omega, by go_num, rfl, hmm, (by have h := HAD.out; rw [hq] at h; exact h), HFm.out, HBD.out⟩
                case measure => simp [intOf]; omega
              · have hr2 := HRw.out
                rw [if_neg hq] at hr2
                have hsl := samelist_any (al.drop mm) (al.drop mm) AS (Aa.map (·.add (mm * 10))) cS (ca - mm) wC (HLs2.out.step hbC) (hr2.step hbC) (by omega)
                rw [decide_eq_true rfl, hdl] at hsl
                have HSl := Lib.hid hsl
                clear hr2 hsl hvC hbC
                go_wp2_with fail
                refine HSl.out.mono ?_
                rintro e wD ⟨rfl, hbD⟩
                have HBD := Lib.hid (HBC.out.trans (hbD.mono HBC.out.size))
                have HAD := Lib.hid (HAC.out.on hbD)
                clear hbD
                go_wp2_with fail
                go_roundw
                case rel => exact ⟨i + 1, mm, _, by omega, by go_num, rfl, hmm, HAD.out, HFm.out, HBD.out⟩
                case measure => simp [intOf]; omega
          · have HAk2' := Lib.hid (HAk.out.mono fun e w' h => h.2 (by rw [hla2]; exact hzin))
            clear HAk hla2
            obtain ⟨mm, hmmx⟩ : ∃ mm, mm = m := ⟨_, rfl⟩
            rw [← hmmx]
            have HA2m := HA2
            have HF2m := HF2
            rw [← hmmx] at HA2m HF2m
            have hmm : mm ≤ al.length := by omega
            by_cases hz0 : 0 ≤ z
            · have y0 : (0 : Int) ≤ z := hz0
              have y1 : ¬ z ≤ (al.length : Int) := fun h => hzin ⟨hz0, h⟩
              clear hz0 hzin hmmx
              go_wp2_with fail
              refine HAk2'.out.mono ?_
              rintro e wA ⟨rfl, hbA⟩
              have HAm := Lib.hid (HA2m.out.on hbA)
              have HFm := HF2m
              have HBm := Lib.hid (HB2'.out.trans (hbA.mono HB2'.out.size))
              clear hbA HAk2'
              unfold errV
              have hla := roA_last hmm
              have hsi := since_any es _ wA w1.heap.size _ (roA al mm) (mm : Nat) (HE.out.step (below_on HB1.out HBm.out)) HAm.out.out HFm.out
              have HSi := Lib.hid hsi
              clear hsi
              go_wp2_with fail
              refine HSi.out.mono ?_
              rintro e wB ⟨hbB, hy, _⟩
              obtain ⟨AS, cS, csS, heS, hoS, hfS⟩ := hy ⟨by show (mm : Int) ≤ _; omega, by rw [hla]; omega⟩
              have hdr : (roA al mm).held.drop (((mm : Nat) : Int).toNat - (roA al mm).acked) = al.drop mm := by
                show (al.drop mm).drop (((mm : Nat) : Int).toNat - mm) = al.drop mm
                rw [show ((mm : Nat) : Int).toNat - mm = 0 by omega, List.drop_zero]
              rw [hdr] at heS hoS hfS
              have hdl : (al.drop mm).length = al.length - mm := List.length_drop ..
              have HLs2 := Lib.hid (show RdFs wB AS (al.drop mm) from ⟨csS, (RdC.of_own hoS).mono (fun k hk => hk.2), hfS.mono (fun k hk => hk.2.1)⟩)
              rw [hdl] at heS
              subst heS
              have HBB := Lib.hid (HBm.out.trans (hbB.mono HBm.out.size))
              have HAB := Lib.hid (HAm.out.on hbB)
              have HRw0 := Lib.hid (RdFs.dropJ HAB.out.rd mm ca hcal)
              have HAk2 := Lib.hid (acked_any _ wB w1.heap.size _ (roA al mm) HAB.out.out)
              have hac : (roA al mm).acked = mm := rfl
              clear hbB hy hoS hfS HSi hla hdr
              rw [hac] at HAk2
              go_wp2_with fail
              refine HAk2.out.mono ?_
              rintro e wC hvC
              obtain ⟨rfl, hbC⟩ := hvC.below
              have HBC := Lib.hid (HBB.out.trans (hbC.mono HBB.out.size))
              have HAC := Lib.hid (HAB.out.on hbC)
              have HRw := HRw0
              have q1 : (0 : Int) ≤ (mm : Int) := by omega
              have q2 : (mm : Int) ≤ (al.length : Int) := by omega
              by_cases hq : ca = mm
              · have hr2 := HRw.out
                rw [if_pos hq] at hr2
                have hsl := samelist_any (al.drop mm) (al.drop mm) AS Aa cS 0 wC (HLs2.out.step hbC) (hr2.step hbC) (by omega)
                rw [decide_eq_true rfl, hdl] at hsl
                have HSl := Lib.hid hsl
                clear hr2 hsl hvC hbC
                go_wp2_with fail
                refine HSl.out.mono ?_
                rintro e wD ⟨rfl, hbD⟩
                have HBD := Lib.hid (HBC.out.trans (hbD.mono HBC.out.size))
                have HAD := Lib.hid (HAC.out.on hbD)
                clear hbD
                go_wp2_with fail
                rw [hq]
                go_roundw
                case rel => exact ⟨i + 1, mm, _, by omega, by go_num, rfl, hmm, (by have h := HAD.out; rw [hq] at h; exact h), HFm.out, HBD.out⟩
                case measure => simp [intOf]; omega
              · have hr2 := HRw.out
                rw [if_neg hq] at hr2
                have hsl := samelist_any (al.drop mm) (al.drop mm) AS (Aa.map (·.add (mm * 10))) cS (ca - mm) wC (HLs2.out.step hbC) (hr2.step hbC) (by omega)
                rw [decide_eq_true rfl, hdl] at hsl
                have HSl := Lib.hid hsl
                clear hr2 hsl hvC hbC
                go_wp2_with fail
                refine HSl.out.mono ?_
                rintro e wD ⟨rfl, hbD⟩
                have HBD := Lib.hid (HBC.out.trans (hbD.mono HBC.out.size))
                have HAD := Lib.hid (HAC.out.on hbD)
                clear hbD
                go_wp2_with fail
                go_roundw
                case rel => exact ⟨i + 1, mm, _, by omega, by go_num, rfl, hmm, HAD.out, HFm.out, HBD.out⟩
                case measure => simp [intOf]; omega
            · have y0 : ¬ (0 : Int) ≤ z := hz0
              clear hz0 hzin hmmx
              go_wp2_with fail
              refine HAk2'.out.mono ?_
              rintro e wA ⟨rfl, hbA⟩
              have HAm := Lib.hid (HA2m.out.on hbA)
              have HFm := HF2m
              have HBm := Lib.hid (HB2'.out.trans (hbA.mono HB2'.out.size))
              clear hbA HAk2'
              unfold errV
              have hla := roA_last hmm
              have hsi := since_any es _ wA w1.heap.size _ (roA al mm) (mm : Nat) (HE.out.step (below_on HB1.out HBm.out)) HAm.out.out HFm.out
              have HSi := Lib.hid hsi
              clear hsi
              go_wp2_with fail
              refine HSi.out.mono ?_
              rintro e wB ⟨hbB, hy, _⟩
              obtain ⟨AS, cS, csS, heS, hoS, hfS⟩ := hy ⟨by show (mm : Int) ≤ _; omega, by rw [hla]; omega⟩
              have hdr : (roA al mm).held.drop (((mm : Nat) : Int).toNat - (roA al mm).acked) = al.drop mm := by
                show (al.drop mm).drop (((mm : Nat) : Int).toNat - mm) = al.drop mm
                rw [show ((mm : Nat) : Int).toNat - mm = 0 by omega, List.drop_zero]
              rw [hdr] at heS hoS hfS
              have hdl : (al.drop mm).length = al.length - mm := List.length_drop ..
              have HLs2 := Lib.hid (show RdFs wB AS (al.drop mm) from ⟨csS, (RdC.of_own hoS).mono (fun k hk => hk.2), hfS.mono (fun k hk => hk.2.1)⟩)
              rw [hdl] at heS
              subst heS
              have HBB := Lib.hid (HBm.out.trans (hbB.mono HBm.out.size))
              have HAB := Lib.hid (HAm.out.on hbB)
              have HRw0 := Lib.hid (RdFs.dropJ HAB.out.rd mm ca hcal)
              have HAk2 := Lib.hid (acked_any _ wB w1.heap.size _ (roA al mm) HAB.out.out)
              have hac : (roA al mm).acked = mm := rfl
              clear hbB hy hoS hfS HSi hla hdr
              rw [hac] at HAk2
              go_wp2_with fail
              refine HAk2.out.mono ?_
              rintro e wC hvC
              obtain ⟨rfl, hbC⟩ := hvC.below
              have HBC := Lib.hid (HBB.out.trans (hbC.mono HBB.out.size))
              have HAC := Lib.hid (HAB.out.on hbC)
              have HRw := HRw0
              have q1 : (0 : Int) ≤ (mm : Int) := by omega
              have q2 : (mm : Int) ≤ (al.length : Int) := by omega
              by_cases hq : ca = mm
              · have hr2 := HRw.out
                rw [if_pos hq] at hr2
                have hsl := samelist_any (al.drop mm) (al.drop mm) AS Aa cS 0 wC (HLs2.out.step hbC) (hr2.step hbC) (by omega)
                rw [decide_eq_true rfl, hdl] at hsl
                have HSl := Lib.hid hsl
                clear hr2 hsl hvC hbC
                go_wp2_with fail
                refine HSl.out.mono ?_
                rintro e wD ⟨rfl, hbD⟩
                have HBD := Lib.hid (HBC.out.trans (hbD.mono HBC.out.size))
                have HAD := Lib.hid (HAC.out.on hbD)
                clear hbD
                go_wp2_with fail
                rw [hq]
                go_roundw
                case rel => exact ⟨i + 1, mm, _, by omega, by go_num, rfl, hmm, (by have h := HAD.out; rw [hq] at h; exact h), HFm.out, HBD.out⟩
                case measure => simp [intOf]; omega
              · have hr2 := HRw.out
                rw [if_neg hq] at hr2
                have hsl := samelist_any (al.drop mm) (al.drop mm) AS (Aa.map (·.add (mm * 10))) cS (ca - mm) wC (HLs2.out.step hbC) (hr2.step hbC) (by omega)
                rw [decide_eq_true rfl, hdl] at hsl
                have HSl := Lib.hid hsl
                clear hr2 hsl hvC hbC
                go_wp2_with fail
                refine HSl.out.mono ?_
                rintro e wD ⟨rfl, hbD⟩
                have HBD := Lib.hid (HBC.out.trans (hbD.mono HBC.out.size))
                have HAD := Lib.hid (HAC.out.on hbD)
                clear hbD
                go_wp2_with fail
                go_roundw
                case rel => exact ⟨i + 1, mm, _, by omega, by go_num, rfl, hmm, HAD.out, HFm.out, HBD.out⟩
                case measure => simp [intOf]; omega
      · have z1 : ¬ (i : Int) < (zs.length : Int) := by omega
        clear hA2 hf2 hb2 hbw2
        go_wp2_with fail
        go_ret
        exact ⟨rfl, HBw2.out⟩
end Go.Proofs.YtipgimmgjdgdeaaDoor
