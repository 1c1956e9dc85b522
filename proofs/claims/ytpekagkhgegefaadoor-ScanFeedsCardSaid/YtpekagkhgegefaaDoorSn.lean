/- Walk of the statement ScanFeeds. -/
import Derived.Test.YtpekagkhgegefaaDoorSm
import Derived.Test.YtpekagkhgegefaaDoorSl
set_option linter.unusedVariables false
set_option linter.unusedSimpArgs false
set_option linter.unnecessarySimpa false
namespace Go.Proofs.YtpekagkhgegefaaDoor
open Go.RowKit
attribute [local go_sem] run_store_flt

theorem FrsV.drop {ok : Nat → Prop} {w : World} {fs : List Fr} {cs : List Value} (h : FrsV ok w fs cs) (m : Nat) : FrsV ok w (fs.drop m) (cs.drop (m * 10)) := by
  induction h with
  | nil => simpa using FrsV.nil
  | snoc h hr ih =>
    rename_i fs cs f A c
    have hl := h.len
    by_cases hm : m ≤ fs.length
    · rw [List.drop_append_of_le_length hm, List.drop_append_of_le_length (by omega)]
      exact .snoc ih hr
    · rw [List.drop_eq_nil_of_le (by simp; omega), List.drop_eq_nil_of_le (by rw [List.length_append, hl]; show _ + 10 ≤ _; omega)]
      exact .nil
theorem RdFs.drop {w : World} {A : Option Addr} {fs : List Fr} (h : RdFs w A fs) (m c : Nat) (hc : fs.length ≤ c) : RdFs w (if c = m then A else A.map (·.add (m * 10))) (fs.drop m) := by
  obtain ⟨cs, h1, h2⟩ := h
  refine ⟨cs.drop (m * 10), ?_, h2.drop m⟩
  have h3 := h1.drop (m * 10) (decide (c = m)) (fun e => by have := of_decide_eq_true e; have := h2.len; omega)
  by_cases e : c = m
  · rw [if_pos e]
    rw [if_pos (decide_eq_true e)] at h3
    exact h3
  · rw [if_neg e]
    rw [if_neg (by simp [e])] at h3
    exact h3
theorem flat_len (ps : List Bs) (k : Nat) : (ps.take k).flatten.length ≤ total (ps.map List.length) := by
  have h1 : ((ps.take k).flatten ++ (ps.drop k).flatten).length = ps.flatten.length := by rw [← List.flatten_append, List.take_append_drop]
  have h2 : ps.flatten.length ≤ total (ps.map List.length) := by
    clear h1
    induction ps with
    | nil => simp
    | cons p ps ih => simp [total] at ih ⊢; omega
  rw [List.length_append] at h1
  omega
theorem Chg.grown {w w' : World} {G : Nat} (h : Chg (· = G) w w') : w.grownBy w' (some G) := ⟨h.os, h.tape, h.output, h.size, fun i hi hn => h.block i hi (fun e => hn (by rw [e]))⟩
theorem TableAt.chg {base : Nat} {w w' : World} {H G : Nat} {va vb : Value} (h : TableAt base w H va vb) (hc : Chg (· = G) w w') (hG : G < base) : TableAt base w' H va vb := by
  have hl := h.le
  refine ⟨(hc.block H (Array.getElem?_eq_some_iff.1 h.head).1 (by omega)).trans h.head, h.first.kept hc.grown (.inr (fun e => ?_)), h.round.kept hc.grown (.inr (fun e => ?_)), hl⟩
  · have := (h.first.lt G e).1; omega
  · have := (h.round.lt G e).1; omega
theorem own_of_block {w w' : World} {base : Nat} {e : TypeId} {size n : Nat} {v : Value} {xs : List Value} (h : w.ownsRow base e size v n xs) (hb : ∀ k, v.ownBlock = some k → w'.heap[k]? = w.heap[k]?) : w'.ownsRow base e size v n xs := by
  refine ⟨h.1, ?_⟩
  rcases h.2 with ⟨rfl, h0⟩ | ⟨g, cap, cur, rfl, h1, h2, rest⟩
  · exact .inl ⟨rfl, h0⟩
  · exact .inr ⟨g, cap, cur, rfl, h1, (hb g rfl).trans h2, rest⟩
/-- What holds at a round's beginning, as long as all is well. -/
def FeedsA (ps : List Bs) (w2 w4 : World) (G : Nat) (i : Nat) (av hv zv : Value) (wr : World) : Prop :=
  ∃ (v : Value) (fs : List Fr) (n : Nat), scanB (ps.take i).flatten = (fs, n, false) ∧ hv = .int .i64 (fs.length : Nat) ∧ zv = .int .i64 0 ∧ wr.ownsRow w4.heap.size 5 1 av (ps.take i).flatten.length (bvs (ps.take i).flatten) ∧
    ScanAt w2.heap.size wr G v ((ps.take i).flatten.drop n) false ∧ (∀ k, v.ownBlock = some k → w4.heap.size ≤ k ∧ av.ownBlock ≠ some k) ∧ Chg (· = G) w4 wr
/-- .. and behind a wrong frame. -/
def FeedsB (w2 w : World) (G : Nat) (zv : Value) (wr : World) : Prop := zv = .int .i64 7 ∧ ScanAt w2.heap.size wr G (.slice none 0 0) [] true ∧ Below w.heap.size w wr
set_option maxRecDepth 8000 in
set_option maxHeartbeats 12000000 in
theorem feeds_walk (es : Er → Addr) (w : World) (B : Option Addr) (cb : Nat) (vs : List Value) (ps : List Bs) (hE : GEnv w es) (h18 : E18 w.heap.size w es) (hBk : ErrAt w.heap.size w 1 (es .broken)) (hV : RdC (· < w.heap.size) w B vs) (hs : RowsOf (· < w.heap.size) w vs ps) (hnl : ps.length ≤ 9223372036854775807) (hnm : ∀ p ∈ ps, p.length ≤ 9223372036854775807) :
    Calls Tryd.prog 5 #[.slice B ps.length cb] w (OkPost w) := by
  have HAl := Lib.hid (alive06 es w hE)
  have HE := Lib.hid hE
  have H18 := Lib.hid h18
  have HBk := Lib.hid hBk
  have HV := Lib.hid hV
  have HSl := Lib.hid hs
  have HNm := Lib.hid hnm
  have hen := run_err_neqS
  clear hE h18 hBk hV hs hnm
  go_enter Tryd.func5, Tryd.ntmps5
  go_wp2_with fail
  refine HAl.out.mono ?_
  rintro e w1 ⟨rfl, hb1⟩
  have HB1 := Lib.hid hb1
  have hfew := few_any w1 B cb vs (ps.map List.length) (HV.out.step hb1) (SlV.of_rows HSl.out) (by rw [List.length_map]; omega) (fun n hn => by obtain ⟨p, hp, rfl⟩ := List.mem_map.1 hn; exact HNm.out p hp)
  rw [List.length_map] at hfew
  have HFw := Lib.hid hfew
  clear hb1 hfew
  go_wp2_with fail
  refine HFw.out.mono ?_
  rintro e w1' ⟨rfl, r, rfl, hr⟩
  cases r with
  | false =>
    go_wp2_with fail
    go_ret
    exact ⟨rfl, HB1.out⟩
  | true =>
    have htot := hr rfl
    have hnt : ps.length ≤ 20000 := by have := total_len (ps.map List.length); rw [List.length_map] at this; omega
    have hfl : ∀ k, (ps.take k).flatten.length ≤ 20000 := fun k => Nat.le_trans (flat_len ps k) htot
    have HFl := Lib.hid hfl
    have HNs := Lib.hid (snew_any w1')
    clear hr HFw htot hfl
    go_wp2_with fail
    refine HNs.out.mono ?_
    rintro e w3 ⟨rfl, hb3, hs3, hh3⟩
    have hsc : ScanAt w1'.heap.size w3 w1'.heap.size (.slice none 0 0) [] false := ⟨hh3, ⟨rfl, .inl ⟨rfl, rfl⟩⟩, Nat.le_refl _, by simp [Value.ownBlock]⟩
    have HSc3 := Lib.hid hsc
    have HB3 := Lib.hid (below_on HB1.out hb3)
    have HNw := Lib.hid (new_any w3)
    have hz1 : w.heap.size ≤ w1'.heap.size := HB1.out.size
    have hz3 : w3.heap.size = w1'.heap.size + 1 := hs3
    clear hb3 hs3 hh3 hsc HNs
    go_wp2_with fail
    refine HNw.out.mono ?_
    rintro e w4 ⟨H, va, vb, rfl, hT, hb4⟩
    have HT4 := Lib.hid hT
    have HB4 := Lib.hid (below_on HB3.out hb4)
    have hz4 : w3.heap.size ≤ w4.heap.size := hb4.size
    have hown0 : (w4.alloc (Obj.cells #[] 5)).ownsRow w4.heap.size 5 1 (.slice (some ⟨w4.heap.size, 0, none⟩) 0 0) 0 [] := World.ownsRow_lit w4 #[] 0 (Nat.le_refl _) (by unfold maxLen; omega) rfl
    have HO5 := Lib.hid hown0
    have HS5 := Lib.hid ((HSc3.out.on hb4).on (below_box w4 (Obj.cells #[] 5)))
    have HC5 := Lib.hid (Chg.of_below (S := (· = w1'.heap.size)) (below_box w4 (Obj.cells #[] 5)))
    clear hT hb4 hown0 HNw
    go_wp2_with fail
    go_loopw [5, 6, 7, 26] (fun av hv zv iv wr => ∃ i : Nat, i ≤ ps.length ∧ iv = .int .i64 i ∧ (FeedsA ps w1' w4 w1'.heap.size i av hv zv wr ∨ FeedsB w1' w w1'.heap.size zv wr)) (fun _ _ _ iv _ => ps.length - (intOf iv).toNat)
    case atStart => exact ⟨0, Nat.zero_le _, rfl, .inl ⟨.slice none 0 0, [], 0, rfl, rfl, rfl, HO5.out, by simpa using HS5.out, fun k hk => (by cases hk), HC5.out⟩⟩
    case round =>
      obtain ⟨i, hi, rfl, hrel⟩ := hrel
      by_cases hlt : i < ps.length
      · have hpm := HNm.out _ (List.getElem_mem hlt)
        obtain ⟨Ap, cp, hcs, hrp, hcp⟩ := HSl.out.2 i hlt
        have htk : (ps.take (i + 1)).flatten = (ps.take i).flatten ++ ps[i] := by rw [List.take_succ_eq_append_getElem hlt, List.flatten_append, List.flatten_cons, List.flatten_nil, List.append_nil]
        obtain ⟨p, hp⟩ : ∃ p, p = ps[i] := ⟨_, rfl⟩
        rw [← hp] at hcs hrp hcp htk hpm
        have hf1 := HFl.out (i + 1)
        rw [htk, List.length_append] at hf1
        have hplen : p.length ≤ 20000 := by omega
        have i0 : (0 : Int) ≤ (i : Int) := by omega
        have i1 : (i : Int) < (ps.length : Int) := by omega
        have i3 : IntKind.i64.wrap ((i : Int) + 1) = (i : Int) + 1 := IntWalk.i64_in _ (by omega)
        have HRp := Lib.hid hrp
        obtain ⟨ad, rfl, hadb, hcc⟩ := HV.out (by intro e; rw [e] at hcs; simp at hcs)
        have hcell0 := hcc i _ hcs
        clear hcc hcs hrp hp
        rcases hrel with hA | hB
        · obtain ⟨v, fs, n, hsb, rfl, rfl, hown, hsc, hvk, hchg⟩ := hA
          generalize (ps.take i).flatten = bi at *
          have HTk := Lib.hid htk
          have HSb := Lib.hid hsb
          have HOw := Lib.hid hown
          have HSc := Lib.hid hsc
          have HVk := Lib.hid hvk
          have HChg := Lib.hid hchg
          obtain ⟨Aa, ca, rfl, hca, _⟩ := own_slice hown
          have hzr : w4.heap.size ≤ wr.heap.size := hchg.size
          have hBw : Below w.heap.size w wr := HB4.out.trans (hchg.below HB4.out.size (fun k hk e => by rw [e]; exact hz1))
          have HBw := Lib.hid hBw
          have hcell := (hBw.cell (p := ad.add i) (by rw [add_block]; exact hadb)).trans hcell0
          have hadr : (ad.add i).block < wr.heap.size := by rw [add_block]; have := hBw.size; omega
          have HBy := Lib.hid (bytes_any wr Ap p.length cp p rfl (by omega) (HRp.out.step hBw))
          clear hsb hown hsc hvk hchg hBw hcell0 htk
          go_wp2_with fail
          refine HBy.out.mono ?_
          rintro e w6 ⟨hb6, A6, cin, rfl, hcin, hcm, hr6⟩
          have hr6b : RdC (· < w6.heap.size) w6 A6 (bvs p) := by
            have h := (hr6.mono (ok' := (· < w6.heap.size)) (fun k hk => hk.2)).take p.length
            rw [bvs_append, ← bvs_length p, List.take_left] at h
            exact h
          have hz6 : wr.heap.size ≤ w6.heap.size := hb6.size
          have HB6 := Lib.hid (below_on HBw.out hb6)
          have HSc6 := Lib.hid (HSc.out.on hb6)
          have HO6 := Lib.hid (own_below HOw.out hb6)
          have HR6 := Lib.hid hr6
          have HC6 := Lib.hid (HChg.out.trans (Chg.of_below (S := (· = w1'.heap.size)) hb6) (fun k _ e => e))
          have hfe := feed_any es w1'.heap.size w6 w1'.heap.size v (bi.drop n) p A6 cin w HE.out HB6.out hz1 HSc6.out hr6b (by rw [List.length_drop]; omega)
          obtain ⟨⟨fs', n', er⟩, hsb2⟩ : ∃ r, r = scanB (bi.drop n ++ p) := ⟨_, rfl⟩
          have hmore := scan_more (c := p) HSb.out hsb2.symm
          have HMo2 := Lib.hid (by rw [HTk.out]; exact hmore : scanB (ps.take (i + 1)).flatten = (fs ++ fs', n + n', er))
          unfold FeedP at hfe
          rw [← hsb2] at hfe
          have HFe := Lib.hid hfe
          have HSb2 := Lib.hid hsb2.symm
          have HMo := Lib.hid hmore
          have htk2 := (scan_took hsb2.symm).1.le
          have hfsl := (scan_took HSb.out).1.le
          have hf2 : fs'.length ≤ 20000 := by have h := htk2.1; rw [List.length_append, List.length_drop] at h; omega
          have hf3 : fs.length ≤ 20000 := by omega
          clear hfe hsb2 hmore hb6 hr6 hr6b HBy
          go_wp2_with fail
          refine HFe.out.mono ?_
          rintro e w7 ⟨L, cs, hol, hfr, hch, hres⟩
          obtain ⟨AL, cL, rfl, hcL, _⟩ := own_slice hol
          have hz7 : w6.heap.size ≤ w7.heap.size := hch.size
          have hvlt : ∀ k, v.ownBlock = some k → k < wr.heap.size := fun k hk => (HSc.out.own.lt k hk).2
          have hB7 : Below w.heap.size w w7 := HB6.out.trans (hch.below HB6.out.size (fun k hk e => by
            rcases e with rfl | e
            · exact hz1
            · have := (HVk.out k e.symm).1; omega))
          have HB7 := Lib.hid hB7
          have HC7 := Lib.hid (show Chg (· = w1'.heap.size) w4 w7 from HC6.out.trans hch (fun k hk e => by
            rcases e with e | e
            · exact e
            · have := (HVk.out k e.symm).1; omega))
          have hr7 := HR6.out.move (w' := w7) (fun k hk => hch.block k hk.2 (by
            rintro (e | e)
            · have := HSc.out.lt; omega
            · have := hvlt k e.symm; omega))
          have HO7 := Lib.hid (own_of_block (w' := w7) HO6.out (fun k hk => hch.block k (by have := (HOw.out.lt k hk).2; omega) (by
            rintro (e | e)
            · have := (HOw.out.lt k hk).1; omega
            · exact (HVk.out k e.symm).2 hk)))
          have HKp := Lib.hid (kept_any w7 A6 Ap p.length cin cp p rfl (by omega) hcin (hr7.mono (fun k hk => by omega)) (HRp.out.step hB7))
          have HOl := Lib.hid hol
          have HFr := Lib.hid hfr
          rcases hres with hg | hg
          · obtain ⟨rfl, rfl, v', hs7, hv7⟩ := hg
            have HS7 := Lib.hid hs7
            have HV7 := Lib.hid hv7
            clear hs7 hv7
            go_wp2_with fail
            refine HKp.out.mono ?_
            rintro e w8 ⟨rfl, hb8⟩
            have HB8 := Lib.hid (below_on HB7.out hb8)
            have HB78 := Lib.hid hb8
            have H78 := Lib.hid hb8.size
            have HO8 := Lib.hid (own_below HO7.out hb8)
            have HRl8 := Lib.hid (show RdFs w8 AL fs' from (RdFs.step ⟨cs, (RdC.of_own HOl.out).mono (fun k hk => hk.2), HFr.out.mono (fun k hk => hk.2)⟩ hb8))
            have HC8 := Lib.hid (HC7.out.trans (Chg.of_below (S := (· = w1'.heap.size)) hb8) (fun k _ e => e))
            have HS8 := Lib.hid (HS7.out.on hb8)
            have HRp8 := Lib.hid (HRp.out.step HB8.out)
            have hz8 : w4.heap.size ≤ w8.heap.size := HC8.out.size
            have hol8 : ∀ k, (Value.slice AL fs'.length cL).ownBlock = some k → w6.heap.size ≤ k := fun k hk => (HOl.out.lt k hk).1
            obtain ⟨i0', hi0, hq0, hq1, hq2⟩ := info_parts infoU8
            clear hb8 HKp
            go_wp2_with (at_builtin; refine wpList_appS (ok := (· < w8.heap.size)) _ w4.heap.size (.tmp 62) (.tmp 63) 23 5 i0' (.int .u8 0) 1 1 rfl (by rfl) Tryd.underlying23 hi0 hq0 hq1 hq2 rfl (by omega) (by omega) _ bi.length (bvs bi) (by rfl) HO8.out _ p.length _ (bvs p) (by rfl) (by simp) HRp8.out (bvs_one _) (by omega) (by omega) ?_; intro v9 w9 hown9 hg9; obtain ⟨A9, c9, rfl, hc9, _⟩ := own_slice hown9)
            have hz9 : w8.heap.size ≤ w9.heap.size := hg9.by_.size
            have hal : ∀ k, (Value.slice Aa bi.length ca).ownBlock = some k → w4.heap.size ≤ k ∧ k < w8.heap.size := fun k hk => HO8.out.lt k hk
            have HB9 := Lib.hid (show Below w.heap.size w w9 from hg9.below HB8.out HB8.out.size (fun k hk => by have := (hal k hk).1; have := HB4.out.size; omega))
            have HC9 := Lib.hid (show Chg (· = w1'.heap.size) w4 w9 from HC8.out.trans (Chg.of_grown (S := fun k => some k = (Value.slice Aa bi.length ca).ownBlock) hg9.by_ (fun k e => e)) (fun k hk e => by have := (hal k e.symm).1; omega))
            have hk9 : ∀ k, k < w8.heap.size → some k ≠ (Value.slice Aa bi.length ca).ownBlock → w9.heap[k]? = w8.heap[k]? := fun k hk hn => hg9.by_.block k hk hn
            have hvk' : ∀ k, v'.ownBlock = some k → w4.heap.size ≤ k ∧ (Value.slice Aa bi.length ca).ownBlock ≠ some k := fun k hk => by
              rcases HV7.out k hk with h | h
              · exact HVk.out k h
              · exact ⟨by omega, fun e => by have := (HOw.out.lt k e).2; omega⟩
            have HS9 := Lib.hid (show ScanAt w1'.heap.size w9 w1'.heap.size v' ((bi.drop n ++ p).drop n') false from ⟨(hk9 _ HS8.out.lt (fun e => by have := (hal _ e.symm).1; omega)).trans HS8.out.head, own_of_block HS8.out.own (fun k hk => hk9 k (HS8.out.own.lt k hk).2 (fun e => (hvk' k hk).2 e.symm)), HS8.out.le, HS8.out.ne⟩)
            have HVk9 := Lib.hid (show ∀ k, v'.ownBlock = some k → w4.heap.size ≤ k ∧ (Value.slice A9 (bi.length + p.length) c9).ownBlock ≠ some k from fun k hk => ⟨(hvk' k hk).1, fun e => hg9.ne (fun e2 => (hvk' k hk).2 e2.symm) (by have := (HS8.out.own.lt k hk).2; omega) e.symm⟩)
            have HRl9 := Lib.hid (show RdFs w9 AL fs' from by
              obtain ⟨cs8, h1, h2⟩ := (⟨cs, (RdC.of_own HOl.out), HFr.out⟩ : ∃ cs, RdC (fun k => w6.heap.size ≤ k ∧ k < w7.heap.size) w7 AL cs ∧ FrsV (fun k => w6.heap.size ≤ k ∧ k < w7.heap.size) w7 fs' cs)
              have hmv : ∀ k, w6.heap.size ≤ k ∧ k < w7.heap.size → w9.heap[k]? = w7.heap[k]? := fun k hk => (hk9 k (by have := H78.out; omega) (fun e => by have := (HOw.out.lt k e.symm).2; omega)).trans (HB78.out.block k hk.2)
              exact ⟨cs8, (h1.move hmv).mono (fun k hk => by have := H78.out; omega), (h2.move hmv).mono (fun k hk => by have := H78.out; omega)⟩)
            have HO9 := Lib.hid (show w9.ownsRow w4.heap.size 5 1 (.slice A9 (bi.length + p.length) c9) (bi ++ p).length (bvs (bi ++ p)) by rw [List.length_append, bvs_append]; exact hown9)
            have hrs := (rsplit_any w9 H w3.heap.size va vb A9 c9 (bi ++ p) (HT4.out.chg HC9.out (by omega)) ((RdC.of_own hown9).mono (ok' := (· < w9.heap.size)) (fun k hk => hk.2) |> fun h => by rw [bvs_append]; exact h) (by rw [List.length_append]; exact hc9) (by rw [List.length_append]; omega)).mono fun e w' h => h.as HMo.out
            rw [show ((code (erOpt false) : Nat) : Int) = 0 from rfl] at hrs
            obtain ⟨W, hW⟩ : ∃ W, W = (fs ++ fs').length := ⟨_, rfl⟩
            obtain ⟨N2, hN2⟩ : ∃ N2, N2 = n + n' := ⟨_, rfl⟩
            rw [← hW, ← hN2] at hrs
            have HW := Lib.hid hW.symm
            have HN2 := Lib.hid hN2.symm
            clear hW hN2
            rw [show (bi ++ p).length = bi.length + p.length from List.length_append] at hrs
            have HRs := Lib.hid hrs
            clear hrs hown9 hg9 hk9 hal hvk'
            refine HRs.out.mono ?_
            rintro e w10 ⟨hb10, AM, cM, csM, rfl, hom, hfm⟩
            have hcM : W ≤ cM := by
              obtain ⟨_, _, hev, hcM, _⟩ := own_slice hom
              injection hev with _ _ hev
              omega
            have HB10 := Lib.hid (below_on HB9.out hb10)
            have HS10 := Lib.hid (HS9.out.on hb10)
            have HO10 := Lib.hid (own_below HO9.out hb10)
            have HC10 := Lib.hid (HC9.out.trans (Chg.of_below (S := (· = w1'.heap.size)) hb10) (fun k _ e => e))
            have HRl10 := Lib.hid (HRl9.out.step hb10)
            have hrw0 := (RdFs.drop (w := w10) (A := AM) (fs := fs ++ fs') ⟨csM, (RdC.of_own hom).mono (fun k hk => hk.2), hfm.mono (fun k hk => hk.2)⟩ fs.length cM (by rw [HW.out]; exact hcM))
            rw [List.drop_left] at hrw0
            have HRw := Lib.hid hrw0
            have hWl : W = fs.length + fs'.length := by rw [← HW.out, List.length_append]
            have kw1 : IntKind.i64.wrap ((W : Int) - (fs.length : Int)) = (fs'.length : Int) := by rw [IntWalk.i64_in _ (by omega)]; omega
            have kw2 : (0 : Int) ≤ (fs.length : Int) := by omega
            have kw3 : (fs.length : Int) ≤ (W : Int) := by omega
            have HWl := Lib.hid hWl
            have HNu := Lib.hid (num_nil w10)
            clear hb10 hom hfm hrw0 hWl HRs
            go_wp2_with fail
            refine HNu.out.mono ?_
            rintro e w11 ⟨rfl, hw11⟩
            have hb11 : Below w10.heap.size w10 w11 := by rw [← hw11]; exact Below.refl _ _
            have HB11 := Lib.hid (below_on HB10.out hb11)
            have HS11 := Lib.hid (HS10.out.on hb11)
            have HO11 := Lib.hid (own_below HO10.out hb11)
            have HC11 := Lib.hid (HC10.out.trans (Chg.of_below (S := (· = w1'.heap.size)) hb11) (fun k _ e => e))
            by_cases hq : cM = fs.length
            · have hr2 := HRw.out
              rw [if_pos hq] at hr2
              have hsl := samelist_any fs' fs' AL AM cL 0 w11 (HRl10.out.step hb11) (hr2.step hb11) (by omega)
              rw [decide_eq_true rfl] at hsl
              have HSl2 := Lib.hid (show Calls Tryd.prog 30 #[.slice AL fs'.length cL, .slice AM (W - fs.length) 0] w11 (BoolP true w11) by rw [show W - fs.length = fs'.length by have := HWl.out; omega]; exact hsl)
              clear hb11 hsl hw11 HNu hr2
              go_wp2_with fail
              refine HSl2.out.mono ?_
              rintro e w12 ⟨rfl, hb12⟩
              have HB12 := Lib.hid (below_on HB11.out hb12)
              have HS12 := Lib.hid (HS11.out.on hb12)
              have HO12 := Lib.hid (own_below HO11.out hb12)
              have HC12 := Lib.hid (HC11.out.trans (Chg.of_below (S := (· = w1'.heap.size)) hb12) (fun k _ e => e))
              have HBr := Lib.hid (broken_any w1'.heap.size w12 w1'.heap.size _ _ _ HS12.out)
              have hhe := held_any w1'.heap.size w12 w1'.heap.size _ _ _ HS12.out
              obtain ⟨q, hq⟩ : ∃ q, q = ((bi.drop n ++ p).drop n').length := ⟨_, rfl⟩
              rw [← hq] at hhe
              have hql := scan_wait_lt HMo.out
              rw [List.length_append, HN2.out] at hql
              have hqe : q = bi.length + p.length - N2 := by rw [hq, List.length_drop, List.length_append, List.length_drop, ← HN2.out]; omega
              have kq : IntKind.i64.wrap ((bi.length : Int) + (p.length : Int) - (N2 : Int)) = (q : Int) := by rw [IntWalk.i64_in _ (by omega)]; omega
              have kq2 : ¬ (1024 : Int) ≤ (q : Int) := by omega
              clear hq hqe hql
              have HHe := Lib.hid hhe
              clear hb12 hhe HSl2
              go_wp2_with fail
              refine HBr.out.mono ?_
              rintro e w13 ⟨rfl, rfl⟩
              go_wp2_with fail
              refine HHe.out.mono ?_
              rintro e w13 ⟨rfl, rfl⟩
              go_wp2_with fail
              refine HHe.out.mono ?_
              rintro e w13 ⟨rfl, rfl⟩
              go_wp2_with fail
              go_roundw
              case rel =>
                refine ⟨i + 1, by omega, by go_num, .inl ⟨v', fs ++ fs', n + n', HMo2.out, by rw [HW.out], rfl, ?_, ?_, HVk9.out, HC12.out⟩⟩
                · rw [HTk.out]
                  exact HO12.out
                · rw [HTk.out, ← List.drop_drop, List.drop_append_of_le_length (by omega)]
                  exact HS12.out
              case measure => simp [intOf]; omega
            · have hr2 := HRw.out
              rw [if_neg hq] at hr2
              have hsl := samelist_any fs' fs' AL (AM.map (·.add (fs.length * 10))) cL (cM - fs.length) w11 (HRl10.out.step hb11) (hr2.step hb11) (by omega)
              rw [decide_eq_true rfl] at hsl
              have HSl2 := Lib.hid (show Calls Tryd.prog 30 #[.slice AL fs'.length cL, .slice (AM.map (·.add (fs.length * 10))) (W - fs.length) (cM - fs.length)] w11 (BoolP true w11) by rw [show W - fs.length = fs'.length by have := HWl.out; omega]; exact hsl)
              clear hb11 hsl hw11 HNu hr2
              go_wp2_with fail
              refine HSl2.out.mono ?_
              rintro e w12 ⟨rfl, hb12⟩
              have HB12 := Lib.hid (below_on HB11.out hb12)
              have HS12 := Lib.hid (HS11.out.on hb12)
              have HO12 := Lib.hid (own_below HO11.out hb12)
              have HC12 := Lib.hid (HC11.out.trans (Chg.of_below (S := (· = w1'.heap.size)) hb12) (fun k _ e => e))
              have HBr := Lib.hid (broken_any w1'.heap.size w12 w1'.heap.size _ _ _ HS12.out)
              have hhe := held_any w1'.heap.size w12 w1'.heap.size _ _ _ HS12.out
              obtain ⟨q, hq⟩ : ∃ q, q = ((bi.drop n ++ p).drop n').length := ⟨_, rfl⟩
              rw [← hq] at hhe
              have hql := scan_wait_lt HMo.out
              rw [List.length_append, HN2.out] at hql
              have hqe : q = bi.length + p.length - N2 := by rw [hq, List.length_drop, List.length_append, List.length_drop, ← HN2.out]; omega
              have kq : IntKind.i64.wrap ((bi.length : Int) + (p.length : Int) - (N2 : Int)) = (q : Int) := by rw [IntWalk.i64_in _ (by omega)]; omega
              have kq2 : ¬ (1024 : Int) ≤ (q : Int) := by omega
              clear hq hqe hql
              have HHe := Lib.hid hhe
              clear hb12 hhe HSl2
              go_wp2_with fail
              refine HBr.out.mono ?_
              rintro e w13 ⟨rfl, rfl⟩
              go_wp2_with fail
              refine HHe.out.mono ?_
              rintro e w13 ⟨rfl, rfl⟩
              go_wp2_with fail
              refine HHe.out.mono ?_
              rintro e w13 ⟨rfl, rfl⟩
              go_wp2_with fail
              go_roundw
              case rel =>
                refine ⟨i + 1, by omega, by go_num, .inl ⟨v', fs ++ fs', n + n', HMo2.out, by rw [HW.out], rfl, ?_, ?_, HVk9.out, HC12.out⟩⟩
                · rw [HTk.out]
                  exact HO12.out
                · rw [HTk.out, ← List.drop_drop, List.drop_append_of_le_length (by omega)]
                  exact HS12.out
              case measure => simp [intOf]; omega
          · obtain ⟨rfl, rfl, hs7⟩ := hg
            have HS7 := Lib.hid hs7
            clear hs7
            unfold errV
            go_wp2_with fail
            refine HKp.out.mono ?_
            rintro e w8 ⟨rfl, hb8⟩
            have HB8 := Lib.hid (below_on HB7.out hb8)
            have HB78 := Lib.hid hb8
            have H78 := Lib.hid hb8.size
            have HO8 := Lib.hid (own_below HO7.out hb8)
            have HRl8 := Lib.hid (show RdFs w8 AL fs' from (RdFs.step ⟨cs, (RdC.of_own HOl.out).mono (fun k hk => hk.2), HFr.out.mono (fun k hk => hk.2)⟩ hb8))
            have HC8 := Lib.hid (HC7.out.trans (Chg.of_below (S := (· = w1'.heap.size)) hb8) (fun k _ e => e))
            have HS8 := Lib.hid (HS7.out.on hb8)
            have HRp8 := Lib.hid (HRp.out.step HB8.out)
            have hz8 : w4.heap.size ≤ w8.heap.size := HC8.out.size
            have hol8 : ∀ k, (Value.slice AL fs'.length cL).ownBlock = some k → w6.heap.size ≤ k := fun k hk => (HOl.out.lt k hk).1
            obtain ⟨i0', hi0, hq0, hq1, hq2⟩ := info_parts infoU8
            clear hb8 HKp
            go_wp2_with (at_builtin; refine wpList_appS (ok := (· < w8.heap.size)) _ w4.heap.size (.tmp 62) (.tmp 63) 23 5 i0' (.int .u8 0) 1 1 rfl (by rfl) Tryd.underlying23 hi0 hq0 hq1 hq2 rfl (by omega) (by omega) _ bi.length (bvs bi) (by rfl) HO8.out _ p.length _ (bvs p) (by rfl) (by simp) HRp8.out (bvs_one _) (by omega) (by omega) ?_; intro v9 w9 hown9 hg9; obtain ⟨A9, c9, rfl, hc9, _⟩ := own_slice hown9)
            have hz9 : w8.heap.size ≤ w9.heap.size := hg9.by_.size
            have hal : ∀ k, (Value.slice Aa bi.length ca).ownBlock = some k → w4.heap.size ≤ k ∧ k < w8.heap.size := fun k hk => HO8.out.lt k hk
            have HB9 := Lib.hid (show Below w.heap.size w w9 from hg9.below HB8.out HB8.out.size (fun k hk => by have := (hal k hk).1; have := HB4.out.size; omega))
            have HC9 := Lib.hid (show Chg (· = w1'.heap.size) w4 w9 from HC8.out.trans (Chg.of_grown (S := fun k => some k = (Value.slice Aa bi.length ca).ownBlock) hg9.by_ (fun k e => e)) (fun k hk e => by have := (hal k e.symm).1; omega))
            have hk9 : ∀ k, k < w8.heap.size → some k ≠ (Value.slice Aa bi.length ca).ownBlock → w9.heap[k]? = w8.heap[k]? := fun k hk hn => hg9.by_.block k hk hn
            have HS9 := Lib.hid (show ScanAt w1'.heap.size w9 w1'.heap.size (.slice none 0 0) [] true from ⟨(hk9 _ HS8.out.lt (fun e => by have := (hal _ e.symm).1; omega)).trans HS8.out.head, ⟨rfl, .inl ⟨rfl, rfl⟩⟩, HS8.out.le, by simp [Value.ownBlock]⟩)
            have HRl9 := Lib.hid (show RdFs w9 AL fs' from by
              obtain ⟨cs8, h1, h2⟩ := (⟨cs, (RdC.of_own HOl.out), HFr.out⟩ : ∃ cs, RdC (fun k => w6.heap.size ≤ k ∧ k < w7.heap.size) w7 AL cs ∧ FrsV (fun k => w6.heap.size ≤ k ∧ k < w7.heap.size) w7 fs' cs)
              have hmv : ∀ k, w6.heap.size ≤ k ∧ k < w7.heap.size → w9.heap[k]? = w7.heap[k]? := fun k hk => (hk9 k (by have := H78.out; omega) (fun e => by have := (HOw.out.lt k e.symm).2; omega)).trans (HB78.out.block k hk.2)
              exact ⟨cs8, (h1.move hmv).mono (fun k hk => by have := H78.out; omega), (h2.move hmv).mono (fun k hk => by have := H78.out; omega)⟩)
            have HO9 := Lib.hid (show w9.ownsRow w4.heap.size 5 1 (.slice A9 (bi.length + p.length) c9) (bi ++ p).length (bvs (bi ++ p)) by rw [List.length_append, bvs_append]; exact hown9)
            have hrs := (rsplit_any w9 H w3.heap.size va vb A9 c9 (bi ++ p) (HT4.out.chg HC9.out (by omega)) ((RdC.of_own hown9).mono (ok' := (· < w9.heap.size)) (fun k hk => hk.2) |> fun h => by rw [bvs_append]; exact h) (by rw [List.length_append]; exact hc9) (by rw [List.length_append]; omega)).mono fun e w' h => h.as HMo.out
            rw [show ((code (erOpt true) : Nat) : Int) = 7 from rfl] at hrs
            obtain ⟨W, hW⟩ : ∃ W, W = (fs ++ fs').length := ⟨_, rfl⟩
            obtain ⟨N2, hN2⟩ : ∃ N2, N2 = n + n' := ⟨_, rfl⟩
            rw [← hW, ← hN2] at hrs
            have HW := Lib.hid hW.symm
            have HN2 := Lib.hid hN2.symm
            clear hW hN2
            rw [show (bi ++ p).length = bi.length + p.length from List.length_append] at hrs
            have HRs := Lib.hid hrs
            clear hrs hown9 hg9 hk9 hal
            refine HRs.out.mono ?_
            rintro e w10 ⟨hb10, AM, cM, csM, rfl, hom, hfm⟩
            have hcM : W ≤ cM := by
              obtain ⟨_, _, hev, hcM, _⟩ := own_slice hom
              injection hev with _ _ hev
              omega
            have HB10 := Lib.hid (below_on HB9.out hb10)
            have HS10 := Lib.hid (HS9.out.on hb10)
            have HO10 := Lib.hid (own_below HO9.out hb10)
            have HC10 := Lib.hid (HC9.out.trans (Chg.of_below (S := (· = w1'.heap.size)) hb10) (fun k _ e => e))
            have HRl10 := Lib.hid (HRl9.out.step hb10)
            have hrw0 := (RdFs.drop (w := w10) (A := AM) (fs := fs ++ fs') ⟨csM, (RdC.of_own hom).mono (fun k hk => hk.2), hfm.mono (fun k hk => hk.2)⟩ fs.length cM (by rw [HW.out]; exact hcM))
            rw [List.drop_left] at hrw0
            have HRw := Lib.hid hrw0
            have hWl : W = fs.length + fs'.length := by rw [← HW.out, List.length_append]
            have kw1 : IntKind.i64.wrap ((W : Int) - (fs.length : Int)) = (fs'.length : Int) := by rw [IntWalk.i64_in _ (by omega)]; omega
            have kw2 : (0 : Int) ≤ (fs.length : Int) := by omega
            have kw3 : (fs.length : Int) ≤ (W : Int) := by omega
            have HWl := Lib.hid hWl
            have HNu := Lib.hid (show Calls Tryd.prog 29 #[.iface 147 (.pointer (some (es .frame)))] w10 (fun e w' => e = .returned (.int .i64 7) ∧ Below w10.heap.size w10 w') from num_err es w10 .frame (H18.out.step HB10.out))
            clear hb10 hom hfm hrw0 hWl HRs
            go_wp2_with fail
            refine HNu.out.mono ?_
            rintro e w11 ⟨rfl, hb11⟩
            have HB11 := Lib.hid (below_on HB10.out hb11)
            have HS11 := Lib.hid (HS10.out.on hb11)
            have HO11 := Lib.hid (own_below HO10.out hb11)
            have HC11 := Lib.hid (HC10.out.trans (Chg.of_below (S := (· = w1'.heap.size)) hb11) (fun k _ e => e))
            by_cases hq : cM = fs.length
            · have hr2 := HRw.out
              rw [if_pos hq] at hr2
              have hsl := samelist_any fs' fs' AL AM cL 0 w11 (HRl10.out.step hb11) (hr2.step hb11) (by omega)
              rw [decide_eq_true rfl] at hsl
              have HSl2 := Lib.hid (show Calls Tryd.prog 30 #[.slice AL fs'.length cL, .slice AM (W - fs.length) 0] w11 (BoolP true w11) by rw [show W - fs.length = fs'.length by have := HWl.out; omega]; exact hsl)
              clear hb11 hsl HNu hr2
              go_wp2_with fail
              refine HSl2.out.mono ?_
              rintro e w12 ⟨rfl, hb12⟩
              have HB12 := Lib.hid (below_on HB11.out hb12)
              have HS12 := Lib.hid (HS11.out.on hb12)
              have HO12 := Lib.hid (own_below HO11.out hb12)
              have HC12 := Lib.hid (HC11.out.trans (Chg.of_below (S := (· = w1'.heap.size)) hb12) (fun k _ e => e))
              have HBr := Lib.hid (broken_any w1'.heap.size w12 w1'.heap.size _ _ _ HS12.out)
              have hhe := held_any w1'.heap.size w12 w1'.heap.size _ _ _ HS12.out
              have HHe := Lib.hid hhe
              clear hb12 hhe HSl2
              go_wp2_with fail
              refine HBr.out.mono ?_
              rintro e w13 ⟨rfl, rfl⟩
              go_wp2_with fail
              refine HHe.out.mono ?_
              rintro e w13 ⟨rfl, rfl⟩
              go_wp2_with fail
              refine HHe.out.mono ?_
              rintro e w13 ⟨rfl, rfl⟩
              go_wp2_with fail
              go_roundw
              case rel => exact ⟨i + 1, by omega, by go_num, .inr ⟨rfl, HS12.out, HB12.out⟩⟩
              case measure => simp [intOf]; omega
            · have hr2 := HRw.out
              rw [if_neg hq] at hr2
              have hsl := samelist_any fs' fs' AL (AM.map (·.add (fs.length * 10))) cL (cM - fs.length) w11 (HRl10.out.step hb11) (hr2.step hb11) (by omega)
              rw [decide_eq_true rfl] at hsl
              have HSl2 := Lib.hid (show Calls Tryd.prog 30 #[.slice AL fs'.length cL, .slice (AM.map (·.add (fs.length * 10))) (W - fs.length) (cM - fs.length)] w11 (BoolP true w11) by rw [show W - fs.length = fs'.length by have := HWl.out; omega]; exact hsl)
              clear hb11 hsl HNu hr2
              go_wp2_with fail
              refine HSl2.out.mono ?_
              rintro e w12 ⟨rfl, hb12⟩
              have HB12 := Lib.hid (below_on HB11.out hb12)
              have HS12 := Lib.hid (HS11.out.on hb12)
              have HO12 := Lib.hid (own_below HO11.out hb12)
              have HC12 := Lib.hid (HC11.out.trans (Chg.of_below (S := (· = w1'.heap.size)) hb12) (fun k _ e => e))
              have HBr := Lib.hid (broken_any w1'.heap.size w12 w1'.heap.size _ _ _ HS12.out)
              have hhe := held_any w1'.heap.size w12 w1'.heap.size _ _ _ HS12.out
              have HHe := Lib.hid hhe
              clear hb12 hhe HSl2
              go_wp2_with fail
              refine HBr.out.mono ?_
              rintro e w13 ⟨rfl, rfl⟩
              go_wp2_with fail
              refine HHe.out.mono ?_
              rintro e w13 ⟨rfl, rfl⟩
              go_wp2_with fail
              refine HHe.out.mono ?_
              rintro e w13 ⟨rfl, rfl⟩
              go_wp2_with fail
              go_roundw
              case rel => exact ⟨i + 1, by omega, by go_num, .inr ⟨rfl, HS12.out, HB12.out⟩⟩
              case measure => simp [intOf]; omega
        · obtain ⟨rfl, hsc, hBw⟩ := hB
          have HBw := Lib.hid hBw
          have HSc := Lib.hid hsc
          have hcell := (hBw.cell (p := ad.add i) (by rw [add_block]; exact hadb)).trans hcell0
          have hadr : (ad.add i).block < wr.heap.size := by rw [add_block]; have := hBw.size; omega
          have HBy := Lib.hid (bytes_any wr Ap p.length cp p rfl (by omega) (HRp.out.step hBw))
          clear hsc hBw hcell0 htk
          go_wp2_with fail
          refine HBy.out.mono ?_
          rintro e w6 ⟨hb6, A6, cin, rfl, hcin, hcm, hr6⟩
          have HB6 := Lib.hid (below_on HBw.out hb6)
          have HS6 := Lib.hid (HSc.out.on hb6)
          have HR6 := Lib.hid (hr6.mono (ok' := (· < w6.heap.size)) (fun k hk => hk.2))
          have hbk := (HBk.out.below HB6.out).at
          have HFb := Lib.hid (feed_broken (es .broken) w1'.heap.size w6 w1'.heap.size (.slice none 0 0) (.slice A6 p.length cin) [] hbk HS6.out)
          clear hb6 hr6 hbk HBy
          go_wp2_with fail
          refine HFb.out.mono ?_
          rintro e w7 ⟨rfl, n7, hw7⟩
          have hb7 : Below w6.heap.size w6 w7 := by rw [hw7]; exact below_drewN (Below.refl _ _) _
          have HB7 := Lib.hid (below_on HB6.out hb7)
          have HS7 := Lib.hid (HS6.out.on hb7)
          have HKp := Lib.hid (kept_any w7 A6 Ap p.length cin cp p rfl (by omega) hcin (HR6.out.step hb7) (HRp.out.step HB7.out))
          clear hw7 hb7 HFb
          unfold errV
          go_wp2_with fail
          refine HKp.out.mono ?_
          rintro e w8 ⟨rfl, hb8⟩
          have HB8 := Lib.hid (below_on HB7.out hb8)
          have HS8 := Lib.hid (HS7.out.on hb8)
          have hbk8 := (HBk.out.below HB8.out).at
          have HBr := Lib.hid (broken_any w1'.heap.size w8 w1'.heap.size _ _ _ HS8.out)
          have HHe := Lib.hid (held_any w1'.heap.size w8 w1'.heap.size _ _ _ HS8.out)
          unfold errV at hbk8
          clear hb8 HKp
          go_wp2_with fail
          refine HBr.out.mono ?_
          rintro e w9 ⟨rfl, rfl⟩
          go_wp2_with fail
          refine HHe.out.mono ?_
          rintro e w9 ⟨rfl, rfl⟩
          go_wp2_with fail
          go_roundw
          case rel => exact ⟨i + 1, by omega, by go_num, .inr ⟨rfl, HS8.out, HB8.out⟩⟩
          case measure => simp [intOf]; omega
      · have i1 : ¬ (i : Int) < (ps.length : Int) := by omega
        have hBe : Below w.heap.size w wr := by
          rcases hrel with ⟨v, fs, n, _, _, _, _, _, _, hchg⟩ | ⟨_, _, hb⟩
          · exact HB4.out.trans (hchg.below HB4.out.size (fun k hk e => by rw [e]; exact hz1))
          · exact hb
        clear hrel
        go_wp2_with fail
        go_ret
        exact ⟨rfl, hBe⟩
end Go.Proofs.YtpekagkhgegefaaDoor
