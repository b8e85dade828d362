/- fileset.Name: which names a volume's files have. -/
import Derived.Test.YtgfaocfdknckpaaDoorE1
import Derived.Test.YtgfaocfdknckpaaDoorQA
import Derived.WalkSpells
import Derived.WalkLawsBesides
import Derived.Lib.Hide
namespace Go.Proofs.YtgfaocfdknckpaaDoor
open Go.RowKit Go.Proofs.YtgfaocfdknckpaaDoorW.PrintWords Go.Proofs.YtgfaocfdknckpaaDoorW.PrintLast Go.Proofs.YtgfaocfdknckpaaDoorW.PrintMore
open Go.Proofs.YtgfaocfdknckpaaDoor.QA

def scan : List ByteArray → ByteArray → Bool → ByteArray → ByteArray × Int
  | [], _, _, _ => (⟨#[]⟩, 1)
  | p :: ps, s, b, fl => if p.toList = s.toList ∧ b = true then (fl, 0) else scan ps s b fl
def fileset_Name.f (a0 a1 a2 a3 : Int) (s : ByteArray) : Option (ByteArray × Int) :=
  (fileset_Key_fits.f a0 a1 a2 a3).bind fun b => if b = true then (fileset_Key_file.f a0 a1 a2 a3 s).bind fun fl => some (scan partNames s b fl) else some (⟨#[]⟩, 1)
theorem scan_no (fl : ByteArray) : ∀ (l : List ByteArray) (s : ByteArray), scan l s false fl = (⟨#[]⟩, 1)
  | [], _ => rfl
  | _ :: l, s => by unfold scan; rw [if_neg (by simp)]; exact scan_no fl l s
theorem part0 (w : World) : (Instr.index 30 (.agg partsCells) (.int .i64 0)).run Tryd.prog w = .ok (.string ⟨#[105, 110, 102, 111]⟩) w := by kernel_rfl
theorem part1 (w : World) : (Instr.index 30 (.agg partsCells) (.int .i64 1)).run Tryd.prog w = .ok (.string ⟨#[105, 110, 100, 101, 120]⟩) w := by kernel_rfl
theorem part2 (w : World) : (Instr.index 30 (.agg partsCells) (.int .i64 2)).run Tryd.prog w = .ok (.string ⟨#[115, 117, 109, 109, 97, 114, 121]⟩) w := by kernel_rfl
theorem part3 (w : World) : (Instr.index 30 (.agg partsCells) (.int .i64 3)).run Tryd.prog w = .ok (.string ⟨#[98, 108, 111, 111, 109]⟩) w := by kernel_rfl
theorem part4 (w : World) : (Instr.index 30 (.agg partsCells) (.int .i64 4)).run Tryd.prog w = .ok (.string ⟨#[100, 97, 116, 97]⟩) w := by kernel_rfl
theorem part5 (w : World) : (Instr.index 30 (.agg partsCells) (.int .i64 5)).run Tryd.prog w = .ok (.string ⟨#[100, 105, 103, 101, 115, 116]⟩) w := by kernel_rfl
theorem part6 (w : World) : (Instr.index 30 (.agg partsCells) (.int .i64 6)).run Tryd.prog w = .ok (.string ⟨#[99, 104, 101, 99, 107]⟩) w := by kernel_rfl
theorem part_index (k : Nat) (hk : k < 7) (w : World) : (Instr.index 30 (.agg partsCells) (.int .i64 k)).run Tryd.prog w = .ok (.string (partNames.getD k ByteArray.empty)) w := by
  have h : k = 0 ∨ k = 1 ∨ k = 2 ∨ k = 3 ∨ k = 4 ∨ k = 5 ∨ k = 6 := by omega
  rcases h with rfl | rfl | rfl | rfl | rfl | rfl | rfl
  · exact part0 w
  · exact part1 w
  · exact part2 w
  · exact part3 w
  · exact part4 w
  · exact part5 w
  · exact part6 w

set_option maxHeartbeats 1000000 in
theorem name_walk (a0 a1 a2 a3 : Int) (s : ByteArray) (b : Bool) (fl r1 : ByteArray) (r2 : Int) (w : World) (hG : Glob w) (hb : fileset_Key_fits.f a0 a1 a2 a3 = some b) (hf : b = true → fileset_Key_file.f a0 a1 a2 a3 s = some fl) (hr : scan partNames s b fl = (r1, r2)) :
    Calls Tryd.prog 4 #[.agg #[.int .i64 a0, .int .i64 a1, .int .i64 a2, .int .i64 a3], .string s] w fun e w' => e = .returned (.tuple #[.string r1, .int .i64 r2]) ∧ Below w.heap.size w w' := by
  have HG := Lib.hid hG
  have Hb := Lib.hid hb
  have Hf := Lib.hid hf
  have Hr := Lib.hid hr
  obtain ⟨t, fr, hg⟩ := hG.here.parts
  have hlt : 0 < w.heap.size := (Array.getElem?_eq_some_iff.1 hg).1
  have HP : ∀ o, (w.alloc o).heap[0]? = some (.cells partsCells t fr) := fun o => blk_alloc hg o
  have hu := Tryd.underlying23
  clear hG hb hf hr hg
  go_enter Tryd.func4, Tryd.ntmps4
  go_wp2_with (refine wpList_load_row rfl 30 _ rfl 0 rfl t partsCells fr _ (HP _) Tryd.underlying30 rfl (by kernel_rfl) ?_)
  go_loopw [7, 9] (fun _ i wr => ∃ k : Nat, k ≤ 7 ∧ i = .int .i64 k ∧ Hid (scan (partNames.drop k) s b fl = (r1, r2)) ∧ Hid (Below w.heap.size w wr) ∧ Hid (wr.heap[w.heap.size]? = some (.cells #[.int .i64 a0, .int .i64 a1, .int .i64 a2, .int .i64 a3] 23 (0, 0)))) (fun _ i _ => 7 - (intOf i).toNat)
  case atStart => exact ⟨0, by omega, rfl, Lib.hid Hr.out, Lib.hid ((Below.refl _ _).alloc (Nat.le_refl _) _), Lib.hid (blk_new w _)⟩
  case round =>
    obtain ⟨k, hk, rfl, hs, hb, hx⟩ := hrel
    by_cases hlt7 : k < 7
    · have hi := fun W => part_index k hlt7 W
      obtain ⟨p, hp⟩ : ∃ p, p = partNames.getD k ByteArray.empty := ⟨_, rfl⟩
      rw [← hp] at hi
      have Hp := Lib.hid hp
      clear hp
      have hd : scan (partNames.drop k) s b fl = if p.toList = s.toList ∧ b = true then (fl, 0) else scan (partNames.drop (k + 1)) s b fl := by
        have e : partNames.drop k = p :: partNames.drop (k + 1) := by
          rw [Hp.out]; exact List.drop_eq_getElem_cons (by simpa [partNames] using hlt7) |>.trans (by rw [List.getD_eq_getElem?_getD, List.getElem?_eq_getElem (by simpa [partNames] using hlt7)]; rfl)
        rw [e]; rfl
      have hd := Lib.hid hd
      by_cases hps : p.toList = s.toList
      · have hps1 : (p.toList == s.toList) = true := by simpa using hps
        have Hps := Lib.hid hps
        clear hps
        have c0 : wr.cell? ⟨w.heap.size, 0, none⟩ = some (.int .i64 a0) := (blk_cell hx.out 0).trans rfl
        have c1 : wr.cell? ⟨w.heap.size, 1, none⟩ = some (.int .i64 a1) := (blk_cell hx.out 1).trans rfl
        have c2 : wr.cell? ⟨w.heap.size, 2, none⟩ = some (.int .i64 a2) := (blk_cell hx.out 2).trans rfl
        have c3 : wr.cell? ⟨w.heap.size, 3, none⟩ = some (.int .i64 a3) := (blk_cell hx.out 3).trans rfl
        have hFit := Lib.hid (fun W => fileset_Key_fits.calls a0 a1 a2 a3 b W Hb.out)
        cases b with
        | true =>
          have hr0 : (fl, (0 : Int)) = (r1, r2) := by rw [← hs.out, hd.out, if_pos ⟨Hps.out, rfl⟩]
          obtain ⟨rfl, rfl⟩ := Prod.mk.inj hr0
          clear hr0
          go_wp2_with fail
          refine (hFit.out _).mono ?_
          rintro e w1 ⟨rfl, hb1⟩
          have c0 : w1.cell? ⟨w.heap.size, 0, none⟩ = some (.int .i64 a0) := (blk_cell (blk_below hx.out hb1) 0).trans rfl
          have c1 : w1.cell? ⟨w.heap.size, 1, none⟩ = some (.int .i64 a1) := (blk_cell (blk_below hx.out hb1) 1).trans rfl
          have c2 : w1.cell? ⟨w.heap.size, 2, none⟩ = some (.int .i64 a2) := (blk_cell (blk_below hx.out hb1) 2).trans rfl
          have c3 : w1.cell? ⟨w.heap.size, 3, none⟩ = some (.int .i64 a3) := (blk_cell (blk_below hx.out hb1) 3).trans rfl
          have hB1 := Lib.hid (below_then hb.out hb.out.size hb1)
          have hFile := Lib.hid (fileset_Key_file.calls a0 a1 a2 a3 s fl w1 (Glob.mono HG.out hB1.out) (Hf.out trivial))
          clear hb1
          go_wp2_with fail
          refine hFile.out.mono ?_
          rintro e w2 ⟨rfl, hb2⟩
          have hB2 := Lib.hid (below_then hB1.out hB1.out.size hb2)
          clear hb2
          go_wp2
          go_ret2
          exact ⟨rfl, hB2.out⟩
        | false =>
          go_wp2_with fail
          refine (hFit.out _).mono ?_
          rintro e w1 ⟨rfl, hb1⟩
          have hB1 := Lib.hid (below_then hb.out hb.out.size hb1)
          have hx1 := Lib.hid (blk_below hx.out hb1)
          clear hb1 c0 c1 c2 c3
          go_wp2
          go_roundw
          case rel => exact ⟨k + 1, by omega, by go_num, Lib.hid (by rw [← hs.out, hd.out, if_neg (fun h => by cases h.2)]), hB1, hx1⟩
          case measure => simp [intOf]; omega
      · have hps1 : (p.toList == s.toList) = false := by simpa using hps
        have Hps := Lib.hid hps
        clear hps
        go_wp2
        go_roundw
        case rel => exact ⟨k + 1, by omega, by go_num, Lib.hid (by rw [← hs.out, hd.out, if_neg (fun h => Hps.out h.1)]), hb, hx⟩
        case measure => simp [intOf]; omega
    · have hk7 : k = 7 := by omega
      subst hk7
      have hfin : r1 = ⟨#[]⟩ ∧ r2 = 1 := by have := hs.out; simp [partNames, scan] at this; exact ⟨this.1.symm, this.2.symm⟩
      obtain ⟨rfl, rfl⟩ := hfin
      go_wp2
      go_ret2
      exact ⟨rfl, hb.out⟩

theorem fileset_Name.calls (a0_0 a0_1 a0_2 a0_3 : Int) (a1 : ByteArray) (r1 : ByteArray) (r2 : Int) (w : World) (hG : Glob w) (h : fileset_Name.f a0_0 a0_1 a0_2 a0_3 a1 = some (r1, r2)) :
    Calls Tryd.prog 4 #[.agg #[.int .i64 a0_0, .int .i64 a0_1, .int .i64 a0_2, .int .i64 a0_3], .string a1] w fun e w' => e = .returned (.tuple #[.string r1, .int .i64 r2]) ∧ Below w.heap.size w w' := by
  unfold fileset_Name.f at h
  obtain ⟨b, hb, h⟩ := Option.bind_eq_some_iff.mp h
  cases b with
  | true =>
    rw [if_pos rfl] at h
    obtain ⟨fl, hf, h⟩ := Option.bind_eq_some_iff.mp h
    exact name_walk _ _ _ _ _ true fl r1 r2 w hG hb (fun _ => hf) (Option.some.inj h)
  | false =>
    rw [if_neg (by simp)] at h
    exact name_walk _ _ _ _ _ false ByteArray.empty r1 r2 w hG hb (fun h => by cases h) ((scan_no _ _ _).trans (Option.some.inj h))
end Go.Proofs.YtgfaocfdknckpaaDoor
