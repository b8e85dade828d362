/- What a Buffer's map says of the points that were written: their winners, time by time. -/
import Derived.Test.YtmocpglnoehknaaMap
import Derived.Test.YtmocpglnoehknaaQT0
import Derived.KernelRfl
import Derived.ProofKit
import Derived.DeepKeys5
import Derived.Test.YtmocpglnoehknaaAhead
import Derived.WalkKit
import Derived.Lib.Hide
import Derived.Outline
import Derived.BigRegion
import Derived.Test.YtmocpglnoehknaaMerge
import Derived.Test.YtmocpglnoehknaaRef06

/- A Buffer's map: its keys and elements as values; what may be a key. -/
namespace Go.Proofs.Ytmocpglnoehknaa
set_option linter.unusedVariables false
set_option linter.unusedSimpArgs false
open Go.RowKit Go.Proofs.YtmocpglnoehknaaW.PrintWords Go.Proofs.Ytmocpglnoehknaa.QT
namespace Buf
abbrev Pt := S24
structure Place where
  blk : Int
  idn : ByteArray
  tm : Int
deriving DecidableEq
structure Held where
  p : Pt
  ver : Int
def ekP (a : Place) : Value := .agg #[.int .i64 a.blk, .string a.idn, .int .i64 a.tm]
def evH (h : Held) : Value := .agg #[.int .i64 h.p.f0, .int .u64 h.p.f1, .int .u64 h.p.f2, .int .i64 h.ver]
theorem laidOut : laidOutB Try.prog = true := by kernel_rfl
theorem sizeP : decide (3 ≤ Try.prog.types.size ∧ Try.prog.types.size + 2 ≤ 10000) = true := by kernel_rfl
theorem rowP : decide (63 < Try.prog.types.size) = true := by kernel_rfl
theorem cells3 : Try.prog.cellsOf 3 = 1 := by kernel_rfl
theorem cells9 : Try.prog.cellsOf 9 = 1 := by kernel_rfl
theorem cellsPl : Try.prog.cellsOf 63 = 3 := by kernel_rfl
theorem keyTypeP : Try.prog.keyType 63 = true := by kernel_rfl
theorem ekP_inj (a a' : Place) (h : ekP a = ekP a') : a = a' := by
  obtain ⟨x, y, z⟩ := a
  obtain ⟨x', y', z'⟩ := a'
  simpa [ekP] using h
theorem encP : XM.Enc Try.prog 63 ekP :=
  ⟨Maps.Keyed.of_law (deep_law_gate laidOut (of_decide_eq_true sizeP).2 (of_decide_eq_true rowP) keyTypeP (by rw [Try.underlying63])), ekP_inj⟩
/-- What may be a place. -/
def OkP (a : Place) : Prop := (Lit.int .i64 a.blk).wf = true ∧ a.idn.size ≤ maxLen ∧ (Lit.int .i64 a.tm).wf = true
theorem isK (a : Place) (h : OkP a) : XM.IsK Try.prog 63 ekP a := by
  obtain ⟨h1, h2, h3⟩ := h
  refine ⟨.string (keyBytes [.int .i64 a.blk, .string a.idn.data.toList, .int .i64 a.tm]), ?_⟩
  have e : Try.prog.keyLits (Try.prog.types.size + 1) 63 [.int .i64 a.blk, .string a.idn, .int .i64 a.tm] = some [.int .i64 a.blk, .string a.idn.data.toList, .int .i64 a.tm] := by
    obtain ⟨m, hm⟩ : ∃ m, Try.prog.types.size = m + 3 := ⟨Try.prog.types.size - 3, by have := (of_decide_eq_true sizeP).1; omega⟩
    rw [hm]
    simp [Program.keyLits, Try.underlying63, Try.underlying3, Try.underlying9, cellsPl, cells3, cells9, h1, h2, h3]
  unfold keyOf
  rw [Try.underlying63]
  have hf : (Try.prog.keyType 63 && (ekP a).formed Try.prog 63) = true := by
    rw [keyTypeP]
    simp [Value.formed, ekP, Try.underlying63, cellsPl]
  have hc : (ekP a).cells.toList = [.int .i64 a.blk, .string a.idn, .int .i64 a.tm] := rfl
  dsimp only
  rw [if_pos hf, hc, e]
  rfl
end Buf
end Go.Proofs.Ytmocpglnoehknaa

/- buffer.New, Len, Write: contracts over a Buffer that is a list of pairs and a version. -/
namespace Go.Proofs.Ytmocpglnoehknaa
set_option linter.unusedVariables false
set_option linter.unusedSimpArgs false
open Go.RowKit Go.Proofs.YtmocpglnoehknaaW.PrintWords Go.Proofs.YtmocpglnoehknaaW.PrintLast Go.Proofs.YtmocpglnoehknaaW.PrintMore Go.Proofs.Ytmocpglnoehknaa.QT
namespace Buf
abbrev Mp := List (Place × Held)
def MI (w : World) (b : Nat) (m : Mp) : Prop := XM.MapIs Try.prog 63 ekP evH w b m
/-- Block g is a Buffer; its map is block b. -/
def Is (w : World) (g b : Nat) (m : Mp) (ver : Int) : Prop := w.heap[g]? = some (.cells #[.map (some b), .int .i64 ver] 61 (0, 0)) ∧ MI w b m
/-- Nothing that was there has turned but blocks g and b. -/
structure Fr (g b : Nat) (w w' : World) : Prop where
  os : w'.os = w.os
  tape : w'.tape = w.tape
  output : w'.output = w.output
  size : w.heap.size ≤ w'.heap.size
  block : ∀ i, i < w.heap.size → i ≠ g → i ≠ b → w'.heap[i]? = w.heap[i]?
theorem Is.below {w w' : World} {g b : Nat} {m : Mp} {ver : Int} (h : Is w g b m ver) (hb : Below w.heap.size w w') : Is w' g b m ver := ⟨blk_below h.1 hb, h.2.below hb⟩
theorem Is.lt {w : World} {g b : Nat} {m : Mp} {ver : Int} (h : Is w g b m ver) : g < w.heap.size ∧ b < w.heap.size := ⟨blk_lt h.1, h.2.lt⟩
theorem Is.ne {w : World} {g b : Nat} {m : Mp} {ver : Int} (h : Is w g b m ver) : b ≠ g := h.2.noCells h.1
theorem Fr.refl (g b : Nat) (w : World) : Fr g b w w := ⟨rfl, rfl, rfl, Nat.le_refl _, fun _ _ _ _ => rfl⟩
theorem Fr.trans {g b : Nat} {w w1 w2 : World} (h : Fr g b w w1) (k : Fr g b w1 w2) : Fr g b w w2 :=
  ⟨k.os.trans h.os, k.tape.trans h.tape, k.output.trans h.output, Nat.le_trans h.size k.size, fun i hi hg hb => (k.block i (Nat.lt_of_lt_of_le hi h.size) hg hb).trans (h.block i hi hg hb)⟩
theorem Fr.of_below {g b : Nat} {w w1 : World} (h : Below w.heap.size w w1) : Fr g b w w1 := ⟨h.os, h.tape, h.output, h.size, fun i hi _ _ => h.block i hi⟩
theorem Fr.below {g b B : Nat} {w0 w w1 : World} (h : Below B w0 w) (k : Fr g b w w1) (hB : B ≤ w.heap.size) (hg : B ≤ g) (hb : B ≤ b) : Below B w0 w1 :=
  ⟨k.os.trans h.os, k.tape.trans h.tape, k.output.trans h.output, Nat.le_trans h.size k.size, fun i hi => (k.block i (by omega) (by omega) (by omega)).trans (h.block i hi)⟩
theorem Is.other {w w' : World} {g b g' b' : Nat} {m : Mp} {ver : Int} (h : Is w g b m ver) (k : Fr g' b' w w') (h1 : g ≠ g') (h2 : g ≠ b') (h3 : b ≠ g') (h4 : b ≠ b') : Is w' g b m ver :=
  ⟨(k.block g h.lt.1 h1 h2).trans h.1, h.2.move (k.block b h.lt.2 h3 h4)⟩
set_option maxHeartbeats 1000000 in
theorem new_calls (w : World) : Calls Try.prog 8 #[] w fun e w' => e = .returned (.pointer (some ⟨w.heap.size + 1, 0, none⟩)) ∧ Is w' (w.heap.size + 1) w.heap.size [] 0 ∧ Below w.heap.size w w' := by
  have hmm := @run_makeMap Try.prog
  go_enter Try.func8, Try.ntmps8
  go_wp2
  go_ret
  have h1 := XM.MapIs.made Try.prog 63 ekP evH w
  have h2 := blk_new (w.alloc (.map #[] 0)) (.cells #[.map (some w.heap.size), .int .i64 0] 61)
  have esz : (w.alloc (.map #[] 0)).heap.size = w.heap.size + 1 := by simp
  rw [esz] at h2
  exact ⟨by simp, ⟨h2, h1.below (below_alloc (Below.refl _ _) _)⟩, below_alloc (below_alloc (Below.refl _ _) _) _⟩
set_option maxHeartbeats 1000000 in
theorem len_calls (w : World) (g b : Nat) (m : Mp) (ver : Int) (h : Is w g b m ver) : Calls Try.prog 10 #[.pointer (some ⟨g, 0, none⟩)] w fun e w' => e = .returned (.int .i64 m.length) ∧ w = w' := by
  obtain ⟨hg, hm⟩ := h
  have c0 : w.cell? ⟨g, 0, none⟩ = some (.map (some b)) := (blk_cell hg 0).trans rfl
  clear hg
  go_enter Try.func10, Try.ntmps10
  go_wp2_with (at_len; refine XM.wp_len _ rfl _ 59 rfl 63 65 Try.underlying59 b m rfl hm ?_)
  go_ret
  exact ⟨rfl, rfl⟩
theorem size_set (w : World) (a : Addr) (v : Value) : (w.setCell a v).heap.size = w.heap.size := by simp [World.setCell]
theorem size_alloc (w : World) (o : Obj) : (w.alloc o).heap.size = w.heap.size + 1 := by simp
/-- The world that Write looks its place up in. -/
def wW (w : World) (g : Nat) (ver blk : Int) (idn : ByteArray) (p : Pt) : World := ((w.setCell ⟨g, 1, none⟩ (.int .i64 (ver + 1))).alloc (.cells #[.int .i64 p.f0, .int .u64 p.f1, .int .u64 p.f2] 24)).alloc (.cells #[.int .i64 blk, .string idn, .int .i64 p.f0] 63)
theorem wW_facts {w : World} {g b : Nat} {m : Mp} {ver : Int} (h : Is w g b m ver) (blk : Int) (idn : ByteArray) (p : Pt) :
    (wW w g ver blk idn p).heap.size = w.heap.size + 2 ∧ (wW w g ver blk idn p).heap[g]? = some (.cells #[.map (some b), .int .i64 (ver + 1)] 61 (0, 0)) ∧
    (wW w g ver blk idn p).heap[w.heap.size]? = some (.cells #[.int .i64 p.f0, .int .u64 p.f1, .int .u64 p.f2] 24 (0, 0)) ∧
    (wW w g ver blk idn p).heap[w.heap.size + 1]? = some (.cells #[.int .i64 blk, .string idn, .int .i64 p.f0] 63 (0, 0)) ∧ MI (wW w g ver blk idn p) b m ∧ Fr g b w (wW w g ver blk idn p) := by
  have hlt := h.lt
  have hne := h.ne
  have hP := blk_new (w.setCell ⟨g, 1, none⟩ (.int .i64 (ver + 1))) (.cells #[.int .i64 p.f0, .int .u64 p.f1, .int .u64 p.f2] 24)
  rw [size_set] at hP
  have hK := blk_new ((w.setCell ⟨g, 1, none⟩ (.int .i64 (ver + 1))).alloc (.cells #[.int .i64 p.f0, .int .u64 p.f1, .int .u64 p.f2] 24)) (.cells #[.int .i64 blk, .string idn, .int .i64 p.f0] 63)
  rw [size_alloc, size_set] at hK
  unfold wW
  refine ⟨by rw [size_alloc, size_alloc, size_set], blk_alloc (blk_alloc (blk_set h.1 1 _) _) _, blk_alloc hP _, hK, ?_, ⟨rfl, rfl, rfl, by rw [size_alloc, size_alloc, size_set]; omega, fun i hi h1 h2 => ?_⟩⟩
  · refine h.2.move ?_
    rw [Below.heap_alloc _ _ _ (by rw [size_alloc, size_set]; omega), Below.heap_alloc _ _ _ (by rw [size_set]; omega)]
    exact Below.heap_setCell _ _ _ _ hne
  · rw [Below.heap_alloc _ _ _ (by rw [size_alloc, size_set]; omega), Below.heap_alloc _ _ _ (by rw [size_set]; omega)]
    exact Below.heap_setCell _ _ _ _ h1
theorem zHeld : ∀ w, (zeroValue 65).run Try.prog w = .ok (.agg #[.int .i64 0, .int .u64 0, .int .u64 0, .int .i64 0]) w := fun w => by kernel_rfl
set_option maxHeartbeats 1000000 in
theorem write_new (w : World) (g b : Nat) (m : Mp) (ver : Int) (h : Is w g b m ver) (blk : Int) (idn : ByteArray) (p : Pt) (hk : OkP ⟨blk, idn, p.f0⟩) (h0 : 0 ≤ ver) (h1 : ver < 4611686018427387904) (hget : XM.aget m ⟨blk, idn, p.f0⟩ = none) (hm : m.length < maxLen) :
    Calls Try.prog 9 #[.pointer (some ⟨g, 0, none⟩), .int .i64 blk, .string idn, .agg #[.int .i64 p.f0, .int .u64 p.f1, .int .u64 p.f2]] w fun e w' => e = .returned (.int .i64 (ver + 1)) ∧ Is w' g b (XM.aput m ⟨blk, idn, p.f0⟩ ⟨p, ver + 1⟩) (ver + 1) ∧ Fr g b w w' := by
  have hglt := h.lt.1
  have c0 : w.cell? ⟨g, 0, none⟩ = some (.map (some b)) := (blk_cell h.1 0).trans rfl
  have c1 : w.cell? ⟨g, 1, none⟩ = some (.int .i64 ver) := (blk_cell h.1 1).trans rfl
  have f1 : w.frozen? ⟨g, 1, none⟩ = false := blk_frozen h.1 1
  have HF := Lib.hid (wW_facts h blk idn p)
  have HG := Lib.hid hget
  have HN := Lib.hid h.lt
  clear h hget
  go_enter Try.func9, Try.ntmps9
  go_wp2_with fail
  obtain ⟨W, hW⟩ : ∃ W : World, W = wW w g ver blk idn p := ⟨_, rfl⟩
  unfold wW at hW HF
  rw [← hW]
  rw [← hW] at HF
  obtain ⟨hs, hG, hP, hK, hM, hF⟩ := HF.out
  clear hW c0 c1 f1
  have c0 : W.cell? ⟨g, 0, none⟩ = some (.map (some b)) := (blk_cell hG 0).trans rfl
  have c1 : W.cell? ⟨g, 1, none⟩ = some (.int .i64 (ver + 1)) := (blk_cell hG 1).trans rfl
  have k0 : W.cell? ⟨w.heap.size + 1, 0, none⟩ = some (.int .i64 blk) := (blk_cell hK 0).trans rfl
  have k1 : W.cell? ⟨w.heap.size + 1, 1, none⟩ = some (.string idn) := (blk_cell hK 1).trans rfl
  have k2 : W.cell? ⟨w.heap.size + 1, 2, none⟩ = some (.int .i64 p.f0) := (blk_cell hK 2).trans rfl
  have hrun1 := XM.MapIs.look_none (w := W.drew) hM encP Try.underlying59 (zHeld _) (isK _ hk) true HG.out
  have hrun2 := XM.MapIs.look_none (w := (W.alloc (.cells #[.int .i64 0, .int .u64 0, .int .u64 0, .int .i64 0] 65)).drew) (hM.move (Below.heap_alloc _ _ _ (by have := hM.lt; simpa using this))) encP Try.underlying59 (zHeld _) (isK _ hk) true HG.out
  simp only [if_true, ekP] at hrun1 hrun2
  have l1 : w.heap.size + 1 < W.heap.size := by omega
  have l2 : w.heap.size < W.heap.size := by omega
  have l3 : g < W.heap.size := by omega
  clear hs hG hP hK hM hF
  go_region
  all_goals
    go_wp2_with fail
    obtain ⟨X, hX⟩ : ∃ X : World, X = (W.alloc (.cells #[.int .i64 0, .int .u64 0, .int .u64 0, .int .i64 0] 65)).drew := ⟨_, rfl⟩
    rw [← hX]
    obtain ⟨hs, hG, hP, hK, hM, hF⟩ := HF.out
    have hbX : Below W.heap.size W X := by rw [hX]; exact below_drew (below_alloc (Below.refl _ _) _)
    have hG2 := blk_below hG hbX
    have hP2 := blk_below hP hbX
    have hK2 := blk_below hK hbX
    have hM2 : MI X b m := hM.below hbX
    obtain ⟨X2, hrun, hmap, hgr, hsz⟩ := XM.MapIs.store (w := X.drew) hM2 encP Try.underlying59 (isK _ hk) hm ⟨p, ver + 1⟩
    have hG3 : X2.heap[g]? = some (.cells #[.map (some b), .int .i64 (ver + 1)] 61 (0, 0)) := (hgr.block g (blk_lt hG2) (fun e => by have := hM.noCells hG; cases e; exact this rfl)).trans hG2
    have HE := Lib.hid (And.intro hG3 (And.intro hmap ((hF.trans (Fr.of_below hbX)).trans ⟨hgr.os, hgr.tape, hgr.output, hgr.size, fun i hi _ hb => hgr.block i hi (fun e => hb (by cases e; rfl))⟩)))
    have d0 : X.cell? ⟨g, 0, none⟩ = some (.map (some b)) := (blk_cell hG2 0).trans rfl
    have d1 : X.cell? ⟨g, 1, none⟩ = some (.int .i64 (ver + 1)) := (blk_cell hG2 1).trans rfl
    have e1 : X2.cell? ⟨g, 1, none⟩ = some (.int .i64 (ver + 1)) := (blk_cell hG3 1).trans rfl
    have k0 : X.cell? ⟨w.heap.size + 1, 0, none⟩ = some (.int .i64 blk) := (blk_cell hK2 0).trans rfl
    have k1 : X.cell? ⟨w.heap.size + 1, 1, none⟩ = some (.string idn) := (blk_cell hK2 1).trans rfl
    have k2 : X.cell? ⟨w.heap.size + 1, 2, none⟩ = some (.int .i64 p.f0) := (blk_cell hK2 2).trans rfl
    have p0 : X.cell? ⟨w.heap.size, 0, none⟩ = some (.int .i64 p.f0) := (blk_cell hP2 0).trans rfl
    have p1 : X.cell? ⟨w.heap.size, 1, none⟩ = some (.int .u64 p.f1) := (blk_cell hP2 1).trans rfl
    have p2 : X.cell? ⟨w.heap.size, 2, none⟩ = some (.int .u64 p.f2) := (blk_cell hP2 2).trans rfl
    simp only [evH, ekP] at hrun
    clear hX hs hG hP hK hM hF hbX hG2 hP2 hK2 hM2 hmap hgr hsz hG3 HF hrun1 hrun2
    go_region
    go_wp2
    go_ret
    obtain ⟨r1, r2, r3⟩ := HE.out
    exact ⟨rfl, ⟨r1, r2⟩, r3⟩
set_option maxHeartbeats 1000000 in
theorem write_some (w : World) (g b : Nat) (m : Mp) (ver : Int) (h : Is w g b m ver) (blk : Int) (idn : ByteArray) (p : Pt) (hk : OkP ⟨blk, idn, p.f0⟩) (h0 : 0 ≤ ver) (h1 : ver < 4611686018427387904) (hd : Held) (hget : XM.aget m ⟨blk, idn, p.f0⟩ = some hd) (hm : m.length < maxLen) :
    Calls Try.prog 9 #[.pointer (some ⟨g, 0, none⟩), .int .i64 blk, .string idn, .agg #[.int .i64 p.f0, .int .u64 p.f1, .int .u64 p.f2]] w fun e w' => e = .returned (.int .i64 (ver + 1)) ∧ Is w' g b (if winsP p hd.p = true then XM.aput m ⟨blk, idn, p.f0⟩ ⟨p, ver + 1⟩ else m) (ver + 1) ∧ Fr g b w w' := by
  have hglt := h.lt.1
  have c0 : w.cell? ⟨g, 0, none⟩ = some (.map (some b)) := (blk_cell h.1 0).trans rfl
  have c1 : w.cell? ⟨g, 1, none⟩ = some (.int .i64 ver) := (blk_cell h.1 1).trans rfl
  have f1 : w.frozen? ⟨g, 1, none⟩ = false := blk_frozen h.1 1
  have HF := Lib.hid (wW_facts h blk idn p)
  have HG := Lib.hid hget
  have HN := Lib.hid h.lt
  have HC := Lib.hid (fun w => wins_calls p hd.p w)
  obtain ⟨rw, hrw⟩ : ∃ r, winsP p hd.p = r := ⟨_, rfl⟩
  rw [hrw]
  rw [hrw] at HC
  clear hrw
  clear h hget
  go_enter Try.func9, Try.ntmps9
  go_wp2_with fail
  obtain ⟨W, hW⟩ : ∃ W : World, W = wW w g ver blk idn p := ⟨_, rfl⟩
  unfold wW at hW HF
  rw [← hW]
  rw [← hW] at HF
  obtain ⟨hs, hG, hP, hK, hM, hF⟩ := HF.out
  clear hW c0 c1 f1
  have c0 : W.cell? ⟨g, 0, none⟩ = some (.map (some b)) := (blk_cell hG 0).trans rfl
  have c1 : W.cell? ⟨g, 1, none⟩ = some (.int .i64 (ver + 1)) := (blk_cell hG 1).trans rfl
  have k0 : W.cell? ⟨w.heap.size + 1, 0, none⟩ = some (.int .i64 blk) := (blk_cell hK 0).trans rfl
  have k1 : W.cell? ⟨w.heap.size + 1, 1, none⟩ = some (.string idn) := (blk_cell hK 1).trans rfl
  have k2 : W.cell? ⟨w.heap.size + 1, 2, none⟩ = some (.int .i64 p.f0) := (blk_cell hK 2).trans rfl
  have p0 : W.cell? ⟨w.heap.size, 0, none⟩ = some (.int .i64 p.f0) := (blk_cell hP 0).trans rfl
  have p1 : W.cell? ⟨w.heap.size, 1, none⟩ = some (.int .u64 p.f1) := (blk_cell hP 1).trans rfl
  have p2 : W.cell? ⟨w.heap.size, 2, none⟩ = some (.int .u64 p.f2) := (blk_cell hP 2).trans rfl
  have hrun1 := XM.MapIs.look_some (w := W.drew) hM encP Try.underlying59 (isK _ hk) true HG.out
  have hrun2 := XM.MapIs.look_some (w := (W.alloc (.cells #[.int .i64 0, .int .u64 0, .int .u64 0, .int .i64 0] 65)).drew) (hM.move (Below.heap_alloc _ _ _ (by have := hM.lt; simpa using this))) encP Try.underlying59 (isK _ hk) true HG.out
  simp only [if_true, ekP, evH] at hrun1 hrun2
  have l1 : w.heap.size + 1 < W.heap.size := by omega
  have l2 : w.heap.size < W.heap.size := by omega
  have l3 : g < W.heap.size := by omega
  clear hs hG hP hK hM hF
  go_region
  all_goals
    go_wp2_with fail
    with_reducible refine (HC.out _).mono ?_
    rintro e X ⟨rfl, hl1⟩
    obtain ⟨hs, hG, hP, hK, hM, hF⟩ := HF.out
    have hbX : Below W.heap.size W X := below_then (below_drew (below_alloc (Below.refl _ _) (.cells #[.int .i64 hd.p.f0, .int .u64 hd.p.f1, .int .u64 hd.p.f2, .int .i64 hd.ver] 65))) (by simp) hl1.below
    have hG2 := blk_below hG hbX
    have hP2 := blk_below hP hbX
    have hK2 := blk_below hK hbX
    have hM2 : MI X b m := hM.below hbX
    obtain ⟨X2, hrun, hmap, hgr, hsz⟩ := XM.MapIs.store (w := X.drew) hM2 encP Try.underlying59 (isK _ hk) hm ⟨p, ver + 1⟩
    have hG3 : X2.heap[g]? = some (.cells #[.map (some b), .int .i64 (ver + 1)] 61 (0, 0)) := (hgr.block g (blk_lt hG2) (fun e => by have := hM.noCells hG; cases e; exact this rfl)).trans hG2
    have HE := Lib.hid (And.intro hG3 (And.intro hmap ((hF.trans (Fr.of_below hbX)).trans ⟨hgr.os, hgr.tape, hgr.output, hgr.size, fun i hi _ hb => hgr.block i hi (fun e => hb (by cases e; rfl))⟩)))
    have HE2 := Lib.hid (And.intro hG2 (And.intro hM2 (hF.trans (Fr.of_below hbX))))
    clear k0 k1 k2 p0 p1 p2
    have d0 : X.cell? ⟨g, 0, none⟩ = some (.map (some b)) := (blk_cell hG2 0).trans rfl
    have d1 : X.cell? ⟨g, 1, none⟩ = some (.int .i64 (ver + 1)) := (blk_cell hG2 1).trans rfl
    have e1 : X2.cell? ⟨g, 1, none⟩ = some (.int .i64 (ver + 1)) := (blk_cell hG3 1).trans rfl
    have k0 : X.cell? ⟨w.heap.size + 1, 0, none⟩ = some (.int .i64 blk) := (blk_cell hK2 0).trans rfl
    have k1 : X.cell? ⟨w.heap.size + 1, 1, none⟩ = some (.string idn) := (blk_cell hK2 1).trans rfl
    have k2 : X.cell? ⟨w.heap.size + 1, 2, none⟩ = some (.int .i64 p.f0) := (blk_cell hK2 2).trans rfl
    have p0 : X.cell? ⟨w.heap.size, 0, none⟩ = some (.int .i64 p.f0) := (blk_cell hP2 0).trans rfl
    have p1 : X.cell? ⟨w.heap.size, 1, none⟩ = some (.int .u64 p.f1) := (blk_cell hP2 1).trans rfl
    have p2 : X.cell? ⟨w.heap.size, 2, none⟩ = some (.int .u64 p.f2) := (blk_cell hP2 2).trans rfl
    simp only [evH, ekP] at hrun
    clear hl1 hs hG hP hK hM hF hbX hG2 hP2 hK2 hM2 hmap hgr hsz hG3 HF hrun1 hrun2
    cases rw with
    | true =>
      go_wp2_with fail
      go_region
      go_wp2
      go_ret
      obtain ⟨r1, r2, r3⟩ := HE.out
      exact ⟨rfl, ⟨r1, r2⟩, r3⟩
    | false =>
      clear hrun
      go_wp2
      go_ret
      obtain ⟨r1, r2, r3⟩ := HE2.out
      exact ⟨rfl, ⟨r1, r2⟩, r3⟩
/-- What Write makes of the map. -/
def wr (m : Mp) (blk : Int) (idn : ByteArray) (p : Pt) (v : Int) : Mp :=
  match XM.aget m ⟨blk, idn, p.f0⟩ with
  | none => XM.aput m ⟨blk, idn, p.f0⟩ ⟨p, v⟩
  | some h => if winsP p h.p = true then XM.aput m ⟨blk, idn, p.f0⟩ ⟨p, v⟩ else m
theorem write_calls (w : World) (g b : Nat) (m : Mp) (ver : Int) (h : Is w g b m ver) (blk : Int) (idn : ByteArray) (p : Pt) (hk : OkP ⟨blk, idn, p.f0⟩) (h0 : 0 ≤ ver) (h1 : ver < 4611686018427387904) (hm : m.length < maxLen) :
    Calls Try.prog 9 #[.pointer (some ⟨g, 0, none⟩), .int .i64 blk, .string idn, .agg #[.int .i64 p.f0, .int .u64 p.f1, .int .u64 p.f2]] w fun e w' => e = .returned (.int .i64 (ver + 1)) ∧ Is w' g b (wr m blk idn p (ver + 1)) (ver + 1) ∧ Fr g b w w' := by
  unfold wr
  cases hget : XM.aget m ⟨blk, idn, p.f0⟩ with
  | none => exact write_new w g b m ver h blk idn p hk h0 h1 hget hm
  | some hd => exact write_some w g b m ver h blk idn p hk h0 h1 hd hget hm
end Buf
end Go.Proofs.Ytmocpglnoehknaa

/- merge.Merge of one row, merge.Cut: contracts over rows of the call's own. -/
namespace Go.Proofs.Ytmocpglnoehknaa
set_option linter.unusedVariables false
set_option linter.unusedSimpArgs false
open Go.RowKit Go.Proofs.YtmocpglnoehknaaW.PrintWords Go.Proofs.YtmocpglnoehknaaW.PrintLast Go.Proofs.YtmocpglnoehknaaW.PrintMore Go.Proofs.Ytmocpglnoehknaa.QT
namespace Mg
/-- A row of one row. -/
theorem one_row {X : World} {base : Nat} {ok : Nat → Prop} {v : Value} {xs : List Pt} (hR : Kd.R k24 24 X base ok v xs) {q : Nat} (hX : X.heap[q]? = some (.cells #[v] 29 (0, 0))) : Kd.C (Kd.slice 24 k24) X (some ⟨q, 0, none⟩) [xs].length [xs] := by
  obtain ⟨A, c, rfl⟩ := Kd.R_slice hR
  obtain ⟨_, hc, hC⟩ := Kd.R_reads' hR
  refine ⟨rfl, by simp, fun _ => ⟨_, rfl, fun j p hj => ?_⟩⟩
  match j, hj with
  | 0, hj =>
    simp at hj
    subst hj
    refine ⟨_, rfl, ⟨A, c, rfl, hc, hC⟩, fun i u hu => ?_⟩
    match i, hu with
    | 0, hu =>
      simp at hu
      subst hu
      exact (blk_cell hX 0).trans rfl
/-- Merge of one row. -/
theorem merge_one {X : World} {base : Nat} {ok : Nat → Prop} {v : Value} {xs : List Pt} (hR : Kd.R k24 24 X base ok v xs) {q : Nat} (hX : X.heap[q]? = some (.cells #[v] 29 (0, 0))) (hl : xs.length ≤ 1099511627776) :
    Calls Try.prog 28 #[.slice (some ⟨q, 0, none⟩) 1 1] X fun e w' => ∃ v' : Value, e = .returned v' ∧ Kd.R k24 24 w' X.heap.size (fun _ => True) v' (Vw.view xs) ∧ Below X.heap.size X w' := by
  have h := merge_calls X (some ⟨q, 0, none⟩) 1 [xs] (one_row hR hX) (by simp) (by simpa using hl) (by simp)
  simpa using h
/-- Cut of an own row. -/
theorem cut_any {X : World} {base : Nat} {ok : Nat → Prop} {v : Value} {xs : List Pt} (hR : Kd.R k24 24 X base ok v xs) (lo hi : Int) (hl : xs.length ≤ 1099511627776) :
    Calls Try.prog 27 #[v, .agg #[.int .i64 lo, .int .i64 hi]] X fun e w' => ∃ v' : Value, e = .returned v' ∧ Kd.R k24 24 w' X.heap.size (fun _ => True) v' (Vw.cut xs lo hi) ∧ Below X.heap.size X w' := by
  obtain ⟨A, c, rfl⟩ := Kd.R_slice hR
  obtain ⟨_, hc, hC⟩ := Kd.R_reads' hR
  obtain ⟨k, hk⟩ := (Vw.cut_ev xs lo hi hl).rounds
  exact merge_Cut.calls k A c xs lo hi _ X hC hc hk
end Mg
end Go.Proofs.Ytmocpglnoehknaa

/- buffer.Read: the view of a name's points, cut. -/
namespace Go.Proofs.Ytmocpglnoehknaa
set_option linter.unusedVariables false
set_option linter.unusedSimpArgs false
open Go.RowKit Go.Proofs.YtmocpglnoehknaaW.PrintWords Go.Proofs.YtmocpglnoehknaaW.PrintLast Go.Proofs.YtmocpglnoehknaaW.PrintMore Go.Proofs.Ytmocpglnoehknaa.QT
namespace Buf
theorem below_of_grown_none {w w' : World} (h : w.grownBy w' none) : Below w.heap.size w w' := ⟨h.os, h.tape, h.output, h.size, fun i hi => h.block i hi (by simp)⟩
/-- The points of a name, whatever their order. -/
def pts (idn : ByteArray) (l : Mp) : List Pt := (l.filter (fun e => decide (e.1.idn = idn))).map (·.2.p)
theorem bytes_ne {a b : ByteArray} (h : a ≠ b) : (a.toList == b.toList) = false := by
  rw [beq_eq_false_iff_ne]
  intro e
  rw [ByteArray.toList_eq, ByteArray.toList_eq] at e
  exact h (ByteArray.ext (Array.toList_inj.mp e))
theorem pts_len (idn : ByteArray) (l : Mp) : (pts idn l).length ≤ l.length := by
  unfold pts
  rw [List.length_map]
  exact List.length_filter_le _ _
set_option maxHeartbeats 1000000 in
theorem read_calls (w : World) (g b : Nat) (m : Mp) (ver : Int) (h : Is w g b m ver) (idn : ByteArray) (lo hi : Int) (hm : m.length ≤ 1000000000) :
    Calls Try.prog 11 #[.pointer (some ⟨g, 0, none⟩), .string idn, .agg #[.int .i64 lo, .int .i64 hi]] w fun e w' => ∃ v : Value, e = .returned v ∧ Kd.R k24 24 w' w.heap.size (fun _ => True) v (Vw.cut (Vw.view (pts idn m)) lo hi) ∧ Below w.heap.size w w' := by
  have HI := Lib.hid h
  have HM := Lib.hid hm
  clear h hm
  go_enter Try.func11, Try.ntmps11
  go_wp2_with (first
    | ((with_reducible refine gate_dst (N := 5) rfl ?_); refine box_event rfl (N := 5) rfl (cs := #[.int .i64 lo, .int .i64 hi]) (t := 32) ?hr ?_; (case hr => first | (go_simp; done) | (go_simp; rfl)); intro g5 hg5 w5 hbox hb5; have HB5 := Lib.hid (And.intro hg5 (And.intro hbox hb5)); have c0 : w5.cell? ⟨g, 0, none⟩ = some (.map (some b)) := (blk_cell (HI.out.below hb5).1 0).trans rfl; clear hg5 hbox hb5)
    | (at_range; refine XM.wp_range _ rfl _ 59 rfl 63 65 Try.underlying59 b m rfl (HI.out.below HB5.out.2.2).2 ?_; intro w0 hrg0 hg0 hs0; have HR0 := Lib.hid (And.intro hrg0 hg0); clear hrg0 hg0 hs0))
  go_frame
  obtain ⟨hg5, hbox, hb5⟩ := HB5.out
  obtain ⟨hrg0, hg0⟩ := HR0.out
  obtain ⟨r, hr⟩ : ∃ r, r = w5.heap.size := ⟨_, rfl⟩
  rw [← hr]
  rw [← hr] at HR0 hrg0
  have hlt := HI.out.lt
  have hrw : w.heap.size < r := by rw [hr, ← hg5]; exact blk_lt hbox
  have hg5r : g5 ≠ r := by have := blk_lt hbox; omega
  have HB0 := Aside0.mk (below_then hb5 (hb5.size) (below_of_grown_none hg0))
  have HX0 := Aside0.mk (blk_grown hbox hg0 (by simp))
  have HG5 := Aside0.mk (And.intro (show w.heap.size ≤ g5 by omega) (And.intro hg5r (And.intro (show w.heap.size ≤ r by omega) hlt)))
  have HS0 := Aside0.mk hrg0
  clear hg5 hbox hb5 hrg0 hg0 hr hlt hrw hg5r HR0 HB5 c0
  go_loopg [7] m.length (fun gn v wr => ∃ (left done : Mp), Aside0 (XM.RangeIs Try.prog 63 ekP evH wr b r m left) ∧ Aside0 ((done ++ left).Perm m) ∧ Aside0 (gn = left.length) ∧ Aside0 (Kd.R k24 24 wr w.heap.size (fun k => k ≠ r ∧ k ≠ g5) v (pts idn done)) ∧ Aside0 (wr.heap[g5]? = some (.cells #[.int .i64 lo, .int .i64 hi] 32 (0, 0))) ∧ Aside0 (Below w.heap.size w wr))
  case atStart => exact ⟨m, [], HS0, ⟨List.Perm.refl _⟩, ⟨rfl⟩, ⟨Kd.R_nil _ _ _ _ _⟩, HX0, HB0⟩
  case round =>
    obtain ⟨left, done, HS, HP, HN, HO, HX, HB⟩ := hrel
    clear HS0 HX0 HB0
    go_wp2_with (at_next; refine XM.wp_next _ rfl _ rfl 63 b r m left rfl HS.out ?_ ?_)
    · intro hleft
      have HL := Aside0.mk hleft
      clear hleft
      obtain ⟨A7, c7, rfl⟩ := Kd.R_slice HO.out
      rw [HL.out, List.append_nil] at HP
      clear HL
      have hdom := Vw.view_dom (Vw.Dom.perm (show (pts idn done).Perm (pts idn m) from (HP.out.filter _).map _))
      have HD := Aside0.mk hdom
      have hdl : (pts idn done).length ≤ 1099511627776 := by have q1_ := pts_len idn done; have q2_ := HP.out.length_eq; have q3_ := HM.out; omega
      have HDL := Aside0.mk hdl
      have hc0 : wr.cell? ⟨g5, 0, none⟩ = some (.int .i64 lo) := (blk_cell HX.out 0).trans rfl
      have hc1 : wr.cell? ⟨g5, 1, none⟩ = some (.int .i64 hi) := (blk_cell HX.out 1).trans rfl
      have hg5l : g5 < wr.heap.size := blk_lt HX.out
      have HMR := Aside0.mk (fun (X : World) (hX : Below wr.heap.size wr X) (hq : X.heap[wr.heap.size]? = some (.cells #[.slice A7 (pts idn done).length c7] 29 (0, 0))) => Mg.merge_one (Kd.R_below HO.out hX) hq HDL.out)
      clear hdom hdl HS
      go_wp2_with fail
      go_region_with (first
        | (go_at_call 28; refine (HMR.out _ ?_ ?_).mono ?_; exact below_drew (below_alloc (Below.refl _ _) _); exact blk_new _ _; rintro e w3 ⟨v3, rfl, hR3, hB3⟩; have hd0 : w3.cell? ⟨g5, 0, none⟩ = some (.int .i64 lo) := (blk_cell (blk_below (blk_drew (blk_alloc HX.out _)) hB3) 0).trans rfl; have hd1 : w3.cell? ⟨g5, 1, none⟩ = some (.int .i64 hi) := (blk_cell (blk_below (blk_drew (blk_alloc HX.out _)) hB3) 1).trans rfl; have HR3 := Aside0.mk hR3; have HB3 := Aside0.mk hB3; clear hR3 hB3)
        | (go_at_call 27; refine (Mg.cut_any HR3.out lo hi ?_).mono ?_; exact Nat.le_trans (Vw.view_len _) HDL.out; rintro e w4 ⟨v4, rfl, hR4, hB4⟩; have HR4 := Aside0.mk hR4; have HB4 := Aside0.mk hB4; clear hR4 hB4))
      all_goals
        go_wp2
        go_ret
        have hsz : w.heap.size ≤ (wr.alloc (.cells #[.slice A7 (pts idn done).length c7] 29)).drew.heap.size := by have := HB.out.size; simp [World.drew]; omega
        have hbA : Below w.heap.size w w3 := below_then (below_drew (below_alloc HB.out _)) hsz HB3.out
        refine ⟨_, rfl, ?_, below_then hbA hbA.size HB4.out⟩
        rw [← HD.out]
        exact Kd.R_lower HR4.out hbA.size
    · intro l1 l2 x y w1 hl hrg hg1 hs1 hen
      have HL := Aside0.mk hl
      have HS1 := Aside0.mk hrg
      have HG1 := Aside0.mk hg1
      clear hl hrg hg1 hs1
      have hev : pts idn (done ++ [(x, y)]) = pts idn done ++ (if x.idn = idn then [y.p] else []) := by
        unfold pts
        rw [List.filter_append, List.map_append]
        congr 1
        by_cases hx : x.idn = idn
        · rw [if_pos hx, List.filter_cons, if_pos (by simpa using hx)]; rfl
        · rw [if_neg hx, List.filter_cons, if_neg (by simpa using hx)]; rfl
      have HEV := Aside0.mk hev
      clear hev
      simp only [ekP, evH] at hen ⊢
      have hPerm : (done ++ [(x, y)] ++ (l1 ++ l2)).Perm m := by
        refine List.Perm.trans ?_ HP.out
        rw [HL.out, List.append_assoc]
        exact List.Perm.append_left _ (show ((x, y) :: (l1 ++ l2)).Perm (l1 ++ (x, y) :: l2) from List.perm_middle.symm)
      have hgn : (l1 ++ l2).length < gk := by rw [HN.out, HL.out]; simp
      have hb1 : Below w.heap.size w w1 := HB.out.grown HG1.out HB.out.size (fun j hj => by cases hj; exact HG5.out.2.2.1)
      have hO1 : Kd.R k24 24 w1 w.heap.size (fun k => k ≠ r ∧ k ≠ g5) u7 (pts idn done) := Kd.R_grown HO.out HG1.out (fun k hk e => hk.1 (by cases e; rfl))
      have hX1 := blk_grown HX.out HG1.out (fun e => HG5.out.2.1 (by cases e; rfl))
      have HGN := Aside0.mk hgn
      have HPM := Aside0.mk hPerm
      have HB1 := Aside0.mk hb1
      have HO1 := Aside0.mk hO1
      have HX1 := Aside0.mk hX1
      clear hPerm hgn hb1 hO1 hX1 HB HO HX HN HP HG1 HS
      by_cases hx : x.idn = idn
      · have hw : (x.idn.toList == idn.toList) = true := by rw [hx]; simp
        rw [if_pos hx] at HEV
        clear hx
        go_wp2_with (at_builtin; refine (Kd.R_append k24 (w0 := w) w.heap.size rfl (.tmp 24) (.tmp 27) 29 24 (.agg #[.int .i64 0, .int .u64 0, .int .u64 0]) 24 rfl Try.underlying29 info24 rfl (by decide) (by omega) u7 (pts idn done) y.p [.int .i64 y.p.f0, .int .u64 y.p.f1, .int .u64 y.p.f2] (fun k => k ≠ r ∧ k ≠ g5) (fun _ => False) rfl ?aX ?aP (fun _ hk => hk.elim) ?aF ?aO ?aB ?aS ?aL ?_); (case aX => first | rfl | (go_simp; done) | (simp; done)); (case aP => exact k24_mkM _ _ _ y.p); (case aF => exact (fun k hk => ⟨fun e => by have := HS1.out.lt; simp at hk; omega, fun e => by have := blk_lt HX1.out; simp at hk; omega⟩)); (case aO => exact Kd.R_alloc (Kd.R_alloc HO1.out _) _); (case aB => exact below_alloc (below_alloc HB1.out _) _); (case aS => have := HB1.out.size; simp; omega); (case aL => have q1_ := pts_len idn done; have q2_ := HPM.out.length_eq; rw [List.length_append, List.length_append] at q2_; have q3_ := HM.out; omega); intro v1 w2 hR2 hB2 hg2 hat2; have HR2 := Aside0.mk hR2; have HB2 := Aside0.mk hB2; have HG2 := Aside0.mk hg2; clear hR2 hB2 hg2 hat2)
        go_roundg (l1 ++ l2).length
        case measure => exact HGN.out
        case rel =>
          have hbb : Below w1.heap.size w1 ((w1.alloc (.cells #[.int .i64 x.blk, .string x.idn, .int .i64 x.tm] 63)).alloc (.cells #[.int .i64 y.p.f0, .int .u64 y.p.f1, .int .u64 y.p.f2, .int .i64 y.ver] 65)) := below_alloc (below_alloc (Below.refl _ _) _) _
          refine ⟨l1 ++ l2, done ++ [(x, y)], ⟨?_⟩, HPM, ⟨rfl⟩, ⟨?_⟩, ⟨?_⟩, HB2⟩
          · refine (HS1.out.below hbb).kept HG2.out ?_ ?_
            · intro e; have := Kd.R_base HO1.out b e.symm; have := HG5.out.2.2.2; omega
            · intro e; exact (HO1.out.1 r e.symm).1 rfl
          · rw [HEV.out]; exact HR2.out
          · exact blk_grown (blk_below HX1.out hbb) HG2.out (fun e => (HO1.out.1 g5 e.symm).2 rfl)
      · have hw := bytes_ne hx
        rw [if_neg hx, List.append_nil] at HEV
        clear hx
        go_wp2_with fail
        go_roundg (l1 ++ l2).length
        case measure => exact HGN.out
        case rel =>
          have hbb : Below w1.heap.size w1 ((w1.alloc (.cells #[.int .i64 x.blk, .string x.idn, .int .i64 x.tm] 63)).alloc (.cells #[.int .i64 y.p.f0, .int .u64 y.p.f1, .int .u64 y.p.f2, .int .i64 y.ver] 65)) := below_alloc (below_alloc (Below.refl _ _) _) _
          refine ⟨l1 ++ l2, done ++ [(x, y)], ⟨HS1.out.below hbb⟩, HPM, ⟨rfl⟩, ⟨?_⟩, ⟨blk_below HX1.out hbb⟩, ⟨below_alloc (below_alloc HB1.out _) _⟩⟩
          rw [HEV.out]; exact Kd.R_alloc (Kd.R_alloc HO1.out _) _
end Buf
end Go.Proofs.Ytmocpglnoehknaa
namespace Go.Proofs.Ytmocpglnoehknaa
set_option linter.unusedVariables false
set_option linter.unusedSimpArgs false
open Go.RowKit Go.Proofs.YtmocpglnoehknaaW.PrintWords Go.Proofs.Ytmocpglnoehknaa.QT
namespace Buf
theorem mem_aput_other {m : Mp} {a : Place} {v : Held} {e : Place × Held} (he : e ∈ m) (hn : e.1 ≠ a) : e ∈ XM.aput m a v := by
  induction m with
  | nil => cases he
  | cons q r ih =>
    rw [XM.aput]
    rcases List.mem_cons.1 he with rfl | he
    · rw [if_neg hn]; simp
    · split
      · exact List.mem_cons_of_mem _ he
      · exact List.mem_cons_of_mem _ (ih he)
theorem mem_pts {idn : ByteArray} {m : Mp} {p : Pt} : p ∈ pts idn m ↔ ∃ e ∈ m, e.1.idn = idn ∧ e.2.p = p := by
  unfold pts
  rw [List.mem_map]
  constructor
  · rintro ⟨e, he, rfl⟩
    exact ⟨e, (List.mem_filter.1 he).1, of_decide_eq_true (List.mem_filter.1 he).2, rfl⟩
  · rintro ⟨e, he, h1, rfl⟩
    exact ⟨e, List.mem_filter.2 ⟨he, decide_eq_true h1⟩, rfl⟩
theorem key_inj {m : Mp} (hn : (XM.keys m).Nodup) {e e' : Place × Held} (he : e ∈ m) (he' : e' ∈ m) (h : e.1 = e'.1) : e = e' := by
  have h1 := XM.aget_mem hn he
  have h2 := XM.aget_mem hn he'
  rw [h, h2] at h1
  exact Prod.ext h (Option.some.inj h1).symm
/-- The map stands for the points l that were written at the name; the blocks are told by the times. -/
structure Inv (f : Int → Int) (xb : ByteArray) (m : Mp) (l : List Pt) : Prop where
  dom : Vw.Dom l (pts xb m)
  key : ∀ e ∈ m, e.1.tm = e.2.p.f0
  blk : ∀ e ∈ m, e.1.blk = f e.2.p.f0
theorem Inv.nil (f : Int → Int) (xb : ByteArray) : Inv f xb [] [] := ⟨⟨by simp [pts], by simp⟩, by simp, by simp⟩
theorem Inv.perm {f : Int → Int} {xb : ByteArray} {m : Mp} {l l' : List Pt} (h : Inv f xb m l) (hp : l'.Perm l) : Inv f xb m l' := ⟨(Vw.Dom.perm hp).trans h.dom, h.key, h.blk⟩
theorem wr_len (m : Mp) (b : Int) (i : ByteArray) (p : Pt) (v : Int) : (wr m b i p v).length ≤ m.length + 1 := by
  unfold wr
  split
  · exact XM.length_aput _ _ _
  · split
    · exact XM.length_aput _ _ _
    · omega
theorem wr_keys {f : Int → Int} {m : Mp} (h1 : ∀ e ∈ m, e.1.tm = e.2.p.f0) (h2 : ∀ e ∈ m, e.1.blk = f e.2.p.f0) (i : ByteArray) (p : Pt) (v : Int) : (∀ e ∈ wr m (f p.f0) i p v, e.1.tm = e.2.p.f0) ∧ ∀ e ∈ wr m (f p.f0) i p v, e.1.blk = f e.2.p.f0 := by
  have put : (∀ e ∈ XM.aput m ⟨f p.f0, i, p.f0⟩ ⟨p, v⟩, e.1.tm = e.2.p.f0) ∧ ∀ e ∈ XM.aput m ⟨f p.f0, i, p.f0⟩ ⟨p, v⟩, e.1.blk = f e.2.p.f0 := by
    refine ⟨fun e he => ?_, fun e he => ?_⟩
    · rcases XM.mem_aput he with he | rfl
      · exact h1 e he
      · rfl
    · rcases XM.mem_aput he with he | rfl
      · exact h2 e he
      · rfl
  unfold wr
  split
  · exact put
  · split
    · exact put
    · exact ⟨h1, h2⟩
theorem Inv.other {f : Int → Int} {xb yb : ByteArray} (hxy : yb ≠ xb) {m : Mp} {l : List Pt} (h : Inv f xb m l) (p : Pt) (v : Int) : Inv f xb (wr m (f p.f0) yb p v) l := by
  obtain ⟨k1, k2⟩ := wr_keys h.key h.blk yb p v
  refine ⟨?_, k1, k2⟩
  have put : Vw.Dom l (pts xb (XM.aput m ⟨f p.f0, yb, p.f0⟩ ⟨p, v⟩)) := by
    refine ⟨fun q hq => ?_, fun q hq => ?_⟩
    · obtain ⟨e, he, h1, rfl⟩ := mem_pts.1 hq
      rcases XM.mem_aput he with he | rfl
      · exact h.dom.1 _ (mem_pts.2 ⟨e, he, h1, rfl⟩)
      · exact absurd h1 hxy
    · obtain ⟨r, hr, h1, h2⟩ := h.dom.2 q hq
      obtain ⟨e, he, h3, rfl⟩ := mem_pts.1 hr
      exact ⟨e.2.p, mem_pts.2 ⟨e, mem_aput_other he (fun ha => hxy (by rw [← h3, ha])), h3, rfl⟩, h1, h2⟩
  unfold wr
  split
  · exact put
  · split
    · exact put
    · exact h.dom
theorem Inv.view {f : Int → Int} {xb : ByteArray} {m : Mp} {l : List Pt} (h : Inv f xb m l) : Vw.view (pts xb m) = Vw.view l := (Vw.view_dom h.dom).symm
/-- Points of different times: the view has just as many. -/
theorem view_len_apart {c : List Pt} (h : c.Pairwise (fun a b => a.f0 ≠ b.f0)) : (Vw.view c).length = c.length := by
  have hv := Vw.view_is c
  have inj : ∀ {p q : Pt}, p ∈ c → q ∈ c → p.f0 = q.f0 → p = q := by
    intro p q hp hq ht
    have hn : (c.map (·.f0)).Nodup := List.pairwise_map.2 h
    induction c with
    | nil => cases hp
    | cons a r ih =>
      obtain ⟨h1, h2⟩ := List.pairwise_cons.1 h
      rcases List.mem_cons.1 hp with ep | hp2
      · rcases List.mem_cons.1 hq with eq | hq2
        · rw [ep, eq]
        · exact absurd ht (by rw [ep]; exact h1 q hq2)
      · rcases List.mem_cons.1 hq with eq | hq2
        · exact absurd ht.symm (by rw [eq]; exact h1 p hp2)
        · exact ih h2 (Vw.view_is r) hp2 hq2 (List.pairwise_map.2 h2)
  have n1 : (Vw.view c).Nodup := hv.1.imp (fun hlt e => by rw [e] at hlt; omega)
  have n2 : c.Nodup := h.imp (fun hne e => hne (by rw [e]))
  refine ((List.perm_ext_iff_of_nodup n1 n2).2 (fun p => ⟨hv.2.1 p, fun hp => ?_⟩)).length_eq
  obtain ⟨q, hq, h1, h2⟩ := hv.2.2 p hp
  rw [← inj (hv.2.1 q hq) hp h1]
  exact hq
/-- Where all are of one name. -/
theorem Inv.len {f : Int → Int} {xb : ByteArray} {m : Mp} {l : List Pt} (h : Inv f xb m l) (hn : (XM.keys m).Nodup) (hx : ∀ e ∈ m, e.1.idn = xb) : (Vw.view l).length = m.length := by
  have e1 : pts xb m = m.map (·.2.p) := by
    unfold pts
    rw [List.filter_eq_self.2 (fun e he => decide_eq_true (hx e he))]
  rw [← h.view, view_len_apart, e1, List.length_map]
  rw [e1, List.pairwise_map]
  have : m.Pairwise (fun a b => a ∈ m ∧ b ∈ m ∧ a.1 ≠ b.1) := List.Pairwise.imp_of_mem (fun {a b} ha hb hh => ⟨ha, hb, hh⟩) (List.pairwise_map.1 hn)
  refine this.imp (fun {a b} ⟨ha, hb, hne⟩ ht => hne ?_)
  have h1 := h.key a ha
  have h2 := h.key b hb
  have h3 := h.blk a ha
  have h4 := h.blk b hb
  have h5 := hx a ha
  have h6 := hx b hb
  obtain ⟨⟨_, _, _⟩, _⟩ := a
  obtain ⟨⟨_, _, _⟩, _⟩ := b
  simp only at h1 h2 h3 h4 h5 h6
  rw [h1, h2, h3, h4, h5, h6, ht]
end Buf
end Go.Proofs.Ytmocpglnoehknaa
