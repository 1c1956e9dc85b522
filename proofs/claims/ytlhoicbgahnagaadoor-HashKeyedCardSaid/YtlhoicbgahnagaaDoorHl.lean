/- Digest and Keyed at rows that are laid for the call; alive of law 02. -/
import Derived.Test.YtlhoicbgahnagaaDoorHy
import Derived.Stop.BytesEq
import Derived.Lib.SlBytesConst
set_option linter.unusedVariables false
set_option linter.unusedSimpArgs false
set_option linter.unnecessarySimpa false
namespace Go.Proofs.YtlhoicbgahnagaaDoor
open Go.RowKit

def OkPost (w : World) (e : Ending) (w' : World) : Prop := e = .returned (.bool true) ∧ Below w.heap.size w w'
theorem eql_bytes {t : TypeId} {n : Nat} (ht : Tryd.prog.underlying t = some (.array n 5)) (xs ys : Bs) (hx : xs.length = n) (hy : ys.length = n) (w : World) :
    (binOp .eql t (.agg (bvs xs).toArray) (.agg (bvs ys).toArray)).run Tryd.prog w = .ok (.bool (xs == ys)) w := by
  obtain ⟨i0, hi⟩ := Option.isSome_iff_exists.1 (show (Tryd.prog.info? 5).isSome = true by kernel_rfl)
  exact run_eql_bytes w t 5 n ht Tryd.underlying5 (fun w => by rw [run_sizeOf w hi]; rw [show Tryd.prog.cellsOf 5 = 1 by kernel_rfl]) xs ys hx hy
/-- A row of rows in a new block. -/
theorem rows_new {w : World} {vs : List Value} {ps : List Bs} (hV : RowsOf (· < w.heap.size) w vs ps) : RdC (· < (w.alloc (.cells vs.toArray 22)).heap.size) (w.alloc (.cells vs.toArray 22)) (some ⟨w.heap.size, 0, none⟩) vs ∧ RowsOf (· < (w.alloc (.cells vs.toArray 22)).heap.size) (w.alloc (.cells vs.toArray 22)) vs ps :=
  ⟨(RdC.new w vs.toArray 22).mono (fun k hk => by simp; omega), hV.toBelow ((Below.refl _ _).alloc (Nat.le_refl _) _) (by simp)⟩
theorem digest_new (w : World) (vs : List Value) (ps : List Bs) (n : Nat) (hn : ps.length = n) (hRo : RoundAt w) (hV : RowsOf (· < w.heap.size) w vs ps) (hk : ps.length ≤ 140737488355328) (hl : ps.flatten.length ≤ 35184372088832) :
    Calls Tryd.prog 18 #[.slice (some ⟨w.heap.size, 0, none⟩) n n] (w.alloc (.cells vs.toArray 22)) (DigestP w ps.flatten) := by
  subst hn
  have hb : Below w.heap.size w (w.alloc (.cells vs.toArray 22)) := (Below.refl _ _).alloc (Nat.le_refl _) _
  obtain ⟨h1, h2⟩ := rows_new hV
  exact (digest_any _ _ ps.length vs ps (hRo.below hb hRo.lt) h1 h2 hk hl).mono fun e w' ⟨he, hb2⟩ => ⟨he, hb.trans (hb2.mono hb.size)⟩
theorem check_new (w : World) (vs : List Value) (ps : List Bs) (n : Nat) (hn : ps.length = n) (hRo : RoundAt w) (hV : RowsOf (· < w.heap.size) w vs ps) (hk : ps.length ≤ 140737488355328) (hl : ps.flatten.length ≤ 35184372088832) :
    Calls Tryd.prog 20 #[.slice (some ⟨w.heap.size, 0, none⟩) n n] (w.alloc (.cells vs.toArray 22)) (CheckP w ps.flatten) := by
  subst hn
  have hb : Below w.heap.size w (w.alloc (.cells vs.toArray 22)) := (Below.refl _ _).alloc (Nat.le_refl _) _
  obtain ⟨h1, h2⟩ := rows_new hV
  exact (check_any _ _ ps.length vs ps (hRo.below hb hRo.lt) h1 h2 hk hl).mono fun e w' ⟨he, hb2⟩ => ⟨he, hb.trans (hb2.mono hb.size)⟩
theorem keyed_new (w : World) (K : Option Addr) (kc : Nat) (key : Bs) (vs : List Value) (ps : List Bs) (n m : Nat) (hn : ps.length = n) (hm : key.length = m) (hRo : RoundAt w) (hK : RdC (· < w.heap.size) w K (bvs key)) (hkc : key.length ≤ kc)
    (hV : RowsOf (· < w.heap.size) w vs ps) (hk : ps.length ≤ 1099511627000) (hl : ps.flatten.length ≤ 1099511627776) (hkl : key.length ≤ 1099511627776) :
    Calls Tryd.prog 13 #[.slice K m kc, .slice (some ⟨w.heap.size, 0, none⟩) n n] (w.alloc (.cells vs.toArray 22)) (KeyedP w key ps.flatten) := by
  subst hn hm
  have hb : Below w.heap.size w (w.alloc (.cells vs.toArray 22)) := (Below.refl _ _).alloc (Nat.le_refl _) _
  obtain ⟨h1, h2⟩ := rows_new hV
  exact (keyed_any _ K kc key _ ps.length vs ps (hRo.below hb hRo.lt) (hK.toBelow hb hb.size) hkc h1 h2 (Nat.le_refl _) hk hl hkl).mono fun e w' ⟨he, hb2⟩ => ⟨he, hb.trans (hb2.mono hb.size)⟩
/-- .. at one row. -/
theorem rows_one {ok : Nat → Prop} {w : World} {A : Option Addr} {c n : Nat} {b : Bs} (hA : RdC ok w A (bvs b)) (hc : b.length ≤ c) (hn : b.length = n) : RowsOf ok w [.slice A n c] [b] := by
  subst hn
  exact RowsOf.cons (RowsOf.nil _ _) hA hc
/-- A literal row of bytes. -/
theorem lit_new (w : World) (b : Bs) : RdC (· < (w.alloc (.cells (bvs b).toArray 5)).heap.size) (w.alloc (.cells (bvs b).toArray 5)) (some ⟨w.heap.size, 0, none⟩) (bvs b) :=
  (RdC.new w (bvs b).toArray 5).mono (fun k hk => by simp; omega)
def jefe : Bs := [74, 101, 102, 101]
def wantNothing : Bs := [119, 104, 97, 116, 32, 100, 111, 32, 121, 97, 32, 119, 97, 110, 116, 32, 102, 111, 114, 32, 110, 111, 116, 104, 105, 110, 103, 63]
theorem abc_hex : hex (sha [97, 98, 99]) = [98, 97, 55, 56, 49, 54, 98, 102, 56, 102, 48, 49, 99, 102, 101, 97, 52, 49, 52, 49, 52, 48, 100, 101, 53, 100, 97, 101, 50, 50, 50, 51, 98, 48, 48, 51, 54, 49, 97, 51, 57, 54, 49, 55, 55, 97, 57, 99, 98, 52, 49, 48, 102, 102, 54, 49, 102, 50, 48, 48, 49, 53, 97, 100] := by
  rw [sha_abc]; decide +kernel
theorem jefe_hex : hex (keyed jefe wantNothing) = [53, 98, 100, 99, 99, 49, 52, 54, 98, 102, 54, 48, 55, 53, 52, 101, 54, 97, 48, 52, 50, 52, 50, 54, 48, 56, 57, 53, 55, 53, 99, 55, 53, 97, 48, 48, 51, 102, 48, 56, 57, 100, 50, 55, 51, 57, 56, 51, 57, 100, 101, 99, 53, 56, 98, 57, 54, 52, 101, 99, 51, 56, 52, 51] := by
  have := keyed_jefe
  rw [show jefe = "Jefe".toUTF8.data.toList by decide +kernel, show wantNothing = "what do ya want for nothing?".toUTF8.data.toList by decide +kernel, this]
  decide +kernel
set_option maxRecDepth 8000 in
set_option maxHeartbeats 2000000 in
theorem alive_any (w : World) (hRo : RoundAt w) : Calls Tryd.prog 10 #[] w (OkPost w) := by
  have kc := fun (w : World) (C : Array Value) (n c : Nat) => Lib.run_convert_bytes_const (P := Tryd.prog) w 22 5 C n c Tryd.underlying22 Tryd.underlying5
  have kc2 : ∀ (w : World) (o : Obj) (C : Array Value) (n c : Nat), (convert 22 22 (.slice (some ⟨w.heap.size + 1, 0, none⟩) n c)).run Tryd.prog ((w.alloc o).alloc (.cells C 5)) = .ok (.slice (some ⟨w.heap.size + 1, 0, none⟩) n c) ((w.alloc o).alloc (.cells C 5 (C.size, C.size + 1))) := fun w o C n c => by
    have := kc (w.alloc o) C n c
    simp only [size_alloc1] at this
    exact this
  have kc3 : ∀ (w : World) (o o' : Obj) (C : Array Value) (n c : Nat), (convert 22 22 (.slice (some ⟨w.heap.size + 1 + 1, 0, none⟩) n c)).run Tryd.prog (((w.alloc o).alloc o').alloc (.cells C 5)) = .ok (.slice (some ⟨w.heap.size + 1 + 1, 0, none⟩) n c) (((w.alloc o).alloc o').alloc (.cells C 5 (C.size, C.size + 1))) := fun w o o' C n c => by
    have := kc ((w.alloc o).alloc o') C n c
    simp only [size_alloc1] at this
    exact this
  obtain ⟨w1, hw1⟩ : ∃ W, W = (w.alloc (.cells (bvs [97]).toArray 5 (1, 2))).alloc (.cells (bvs [98, 99]).toArray 5 (2, 3)) := ⟨_, rfl⟩
  have hs1 : w1.heap.size = w.heap.size + 1 + 1 := by rw [hw1]; simp
  have hb1 : Below w.heap.size w w1 := by rw [hw1]; exact ((Below.refl _ _).alloc (Nat.le_refl _) _).alloc (by simp) _
  have hr1 : RowsOf (· < w1.heap.size) w1 [.slice (some ⟨w.heap.size, 0, none⟩) 1 1, .slice (some ⟨w.heap.size + 1, 0, none⟩) 2 2] [[97], [98, 99]] := by
    rw [hs1, hw1]
    refine RowsOf.cons (p := [97]) (RowsOf.cons (p := [98, 99]) (RowsOf.nil _ _) ?_ (Nat.le_refl _)) ?_ (Nat.le_refl _)
    · exact fun _ => ⟨_, rfl, (show w.heap.size + 1 < _ by omega), World.news_of_block (cs := (bvs [98, 99]).toArray) (t := 5) (fr := (2, 3)) (heap_alloc2_new _ _ _)⟩
    · exact fun _ => ⟨_, rfl, (show w.heap.size < _ by omega), World.news_of_block (cs := (bvs [97]).toArray) (t := 5) (fr := (1, 2)) (heap_alloc2_old _ _ _)⟩
  have hd1 := digest_new w1 _ _ 2 rfl (hRo.below hb1 hRo.lt) hr1 (by decide) (by decide)
  rw [show ([[97], [98, 99]] : List Bs).flatten = [97, 98, 99] from rfl, hs1, hw1] at hd1
  rw [hw1] at hb1
  have HB1w := Lib.hid hb1
  have HD1 := Lib.hid hd1
  have HRo := Lib.hid hRo
  clear hRo hw1 hs1 hb1 hr1 hd1 w1
  go_enter Tryd.func10, Tryd.ntmps10
  go_wp2_with fail
  refine HD1.out.mono ?_
  rintro e w2 ⟨rfl, hb2⟩
  have hdl := sha_length [97, 98, 99]
  generalize hd : sha [97, 98, 99] = d at *
  have hi32 : (Tryd.prog.info? 27).map (·.size) = some ((bvs d).toArray).size := by rw [info32]; simp [hdl]
  have HD := Lib.hid hd
  have HDl := Lib.hid hdl
  have HI32 := Lib.hid hi32
  have HB2 := Lib.hid (HB1w.out.trans (hb2.mono HB1w.out.size))
  clear hd hdl hi32 hb2
  go_wp2_with (with_reducible refine wpList_store_new (op := ⟨none, .store 27 (.tmp 1) _, _, _, _, _⟩) rfl 27 _ _ rfl _ (bvs d).toArray _ rfl rfl (by simp; exact HDl.out.symm) HI32.out (by simpa using bv_one d) ?_)
  obtain ⟨w3, hw3⟩ : ∃ W, W = ((w2.alloc (.cells (bvs d).toArray 27 (0, 0))).alloc (.cells (bvs jefe).toArray 5 (4, 5))).alloc (.cells (bvs wantNothing).toArray 5 (28, 29)) := ⟨_, rfl⟩
  have hs3 : w3.heap.size = w2.heap.size + 1 + 1 + 1 := by rw [hw3]; simp
  have hb3 : Below w2.heap.size w2 w3 := by rw [hw3]; exact (((Below.refl _ _).alloc (Nat.le_refl _) _).alloc (by simp) _).alloc (by simp; omega) _
  have hr3 : RowsOf (· < w3.heap.size) w3 [.slice (some ⟨w2.heap.size + 1 + 1, 0, none⟩) 28 28] [wantNothing] := by
    refine RowsOf.cons (p := wantNothing) (RowsOf.nil _ _) ?_ (Nat.le_refl _)
    rw [hs3, hw3]
    exact fun _ => ⟨_, rfl, (show w2.heap.size + 1 + 1 < _ by omega), World.news_of_block (cs := (bvs wantNothing).toArray) (t := 5) (fr := (28, 29)) (by have := heap_alloc2_new (w2.alloc (.cells (bvs d).toArray 27 (0, 0))) (.cells (bvs jefe).toArray 5 (4, 5)) (.cells (bvs wantNothing).toArray 5 (28, 29)); simp only [size_alloc1] at this; exact this)⟩
  have hj3 : RdC (· < w3.heap.size) w3 (some ⟨w2.heap.size + 1, 0, none⟩) (bvs jefe) := by
    rw [hs3, hw3]
    exact fun _ => ⟨_, rfl, (show w2.heap.size + 1 < _ by omega), World.news_of_block (cs := (bvs jefe).toArray) (t := 5) (fr := (4, 5)) (by have := heap_alloc2_old (w2.alloc (.cells (bvs d).toArray 27 (0, 0))) (.cells (bvs jefe).toArray 5 (4, 5)) (.cells (bvs wantNothing).toArray 5 (28, 29)); simp only [size_alloc1] at this; exact this)⟩
  have hd3 : BArr w3 w2.heap.size 27 d := by
    rw [hw3]
    exact (heap_alloc_old _ _ (by simp; omega)).trans (heap_alloc2_old _ _ _)
  have hk3 := keyed_new w3 (some ⟨w2.heap.size + 1, 0, none⟩) 4 jefe _ [wantNothing] 1 4 rfl rfl (HRo.out.below (HB2.out.trans (hb3.mono HB2.out.size)) HRo.out.lt) hj3 (Nat.le_refl _) hr3 (by decide) (by decide) (by decide)
  rw [show ([wantNothing] : List Bs).flatten = wantNothing from rfl, hs3] at hk3
  have hbw3 : Below w.heap.size w w3 := HB2.out.trans (hb3.mono HB2.out.size)
  have HB3 := Lib.hid hbw3
  have HD3 := Lib.hid hd3
  have HW3 := Lib.hid hw3
  have HS3 := Lib.hid hs3
  rw [hw3] at hk3
  have HK3 := Lib.hid hk3
  clear hw3 hs3 hb3 hr3 hj3 hd3 hk3 hbw3
  refine HK3.out.mono ?_
  rintro e w4 ⟨rfl, hb4⟩
  rw [← HW3.out] at hb4
  have hkl : (keyed jefe wantNothing).length = 32 := by unfold keyed; exact sha_length _
  generalize hkk : keyed jefe wantNothing = k at *
  have hi32 : (Tryd.prog.info? 27).map (·.size) = some ((bvs k).toArray).size := by rw [info32]; simp [hkl]
  have hd4 : BArr w4 w2.heap.size 27 d := HD3.out.move (hb4.block _ HD3.out.lt)
  have hbw4 : Below w.heap.size w w4 := HB3.out.trans (hb4.mono HB3.out.size)
  have hlt : w2.heap.size < w4.heap.size := hd4.lt
  have hb5 : Below w4.heap.size w4 (w4.alloc (.cells (bvs k).toArray 27 (0, 0))) := (Below.refl _ _).alloc (Nat.le_refl _) _
  have hx := hex_any (w4.alloc (.cells (bvs k).toArray 27 (0, 0))) (some ⟨w2.heap.size, 0, none⟩) 32 d (by rw [HDl.out]; omega) ((hd4.move (hb5.block _ hlt)).reads.mono (fun k hk => by simp; omega))
  rw [HDl.out] at hx
  have hbk : BArr (w4.alloc (.cells (bvs k).toArray 27 (0, 0))) w4.heap.size 27 k := heap_alloc_new _ _
  have HX := Lib.hid hx
  have HKK := Lib.hid hkk
  have HKl := Lib.hid hkl
  have HI := Lib.hid hi32
  have HB4 := Lib.hid (hbw4.alloc (by have := hbw4.size; omega) (.cells (bvs k).toArray 27 (0, 0)))
  have HBk := Lib.hid hbk
  clear hx hkk hkl hi32 hd4 hbw4 hb4 hb5 hbk
  go_wp2_with (with_reducible refine wpList_store_new (op := ⟨none, .store 27 (.tmp 2) _, _, _, _, _⟩) rfl 27 _ _ rfl _ (bvs k).toArray _ rfl rfl (by simp; exact HKl.out.symm) HI.out (by simpa using bv_one k) ?_)
  refine HX.out.mono ?_
  rintro e w5 ⟨rfl, hb6⟩
  have hx2 := hex_any w5 (some ⟨w4.heap.size, 0, none⟩) 32 k (by rw [HKl.out]; omega) ((HBk.out.move (hb6.block _ HBk.out.lt)).reads.mono (fun k hk => by have := hb6.size; simp at this; omega))
  rw [HKl.out] at hx2
  have HX2 := Lib.hid hx2
  have HB5 := Lib.hid (HB4.out.trans (hb6.mono HB4.out.size))
  clear hx2 hb6
  rw [← HD.out, abc_hex]
  go_wp2_with fail
  refine HX2.out.mono ?_
  rintro e w6 ⟨rfl, hb7⟩
  have HB6 := Lib.hid (HB5.out.trans (hb7.mono HB5.out.size))
  clear hb7
  rw [← HKK.out, jefe_hex]
  go_wp2_with fail
  go_ret
  exact ⟨rfl, HB6.out⟩
end Go.Proofs.YtlhoicbgahnagaaDoor
