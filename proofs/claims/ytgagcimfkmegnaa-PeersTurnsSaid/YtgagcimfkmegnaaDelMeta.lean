/- slices.DeleteFunc at Metas, whatever the predicate: the slice cut to what is kept. -/
import Derived.Test.YtgagcimfkmegnaaQT0
import Derived.Test.YtgagcimfkmegnaaRowLaws
import Derived.Test.YtgagcimfkmegnaaLayE
import Derived.WalkKit
import Derived.Lib.Hide
import Derived.Outline
import Derived.Maps.RangeWalk
import Derived.Deep.LoopGhost
namespace Go.Proofs.Ytgagcimfkmegnaa
open Go.RowKit Go.Proofs.YtgagcimfkmegnaaW.PrintWords Go.Proofs.YtgagcimfkmegnaaW.PrintLast Go.Proofs.YtgagcimfkmegnaaW.PrintMore Go.Proofs.Ytgagcimfkmegnaa.QT
instance : Inhabited S25 := ⟨z25⟩
def cellsMeta (x : S25) : List Value := [.string x.f0, .int .i64 x.f1, .int .i64 x.f2, .int .u32 x.f3]
theorem isAggMeta : ∀ w, (isAgg 25).run Try.prog w = .ok true w := fun w => by kernel_rfl
theorem sizeMeta : ∀ w, (Go.sizeOf 25).run Try.prog w = .ok 4 w := fun w => by kernel_rfl
theorem zeroMeta : ∀ w, (zeroValue 25).run Try.prog w = .ok (.agg #[.string ⟨#[]⟩, .int .i64 0, .int .i64 0, .int .u32 0]) w := fun w => by kernel_rfl
/-- What is asked of the function value: in whatever world comes of w0 by growth and by writes to block gb alone it answers p. -/
def Answers (w0 : World) (gb : Option Nat) (g : Nat) (cb : Array Value) (p : S25 → Bool) : Prop :=
  ∀ W, w0.grownBy W gb → ∀ x : S25, Calls Try.prog g (#[.agg #[.string x.f0, .int .i64 x.f1, .int .i64 x.f2, .int .u32 x.f3]] ++ cb) W fun e w' => e = .returned (.bool (p x)) ∧ Below W.heap.size W w'
theorem first_of {α : Type} [Inhabited α] (p : α → Bool) : ∀ (l : List α) (i : Nat), (Lib.idxByFrom (fun _ y => p y) default l i = -1 ∧ ∀ x ∈ l, p x = false) ∨ ∃ k, k < l.length ∧ Lib.idxByFrom (fun _ y => p y) default l i = ((i + k : Nat) : Int) ∧ l.filter (fun x => !p x) = l.take k ++ (l.drop (k + 1)).filter (fun x => !p x)
  | [], _ => .inl ⟨rfl, fun x h => by cases h⟩
  | y :: r, i => by
    cases h : p y with
    | true => exact .inr ⟨0, by simp, by simp [Lib.idxByFrom, h], by simp [h]⟩
    | false =>
      rcases first_of p r (i + 1) with ⟨e, ha⟩ | ⟨k, hk, e, hf⟩
      · exact .inl ⟨by simp [Lib.idxByFrom, h, e], fun x hx => by rcases List.mem_cons.1 hx with rfl | hx; exact h; exact ha x hx⟩
      · refine .inr ⟨k + 1, by simpa using hk, by simp only [Lib.idxByFrom, h]; rw [show (if false = true then (i : Int) else Lib.idxByFrom (fun _ y => p y) default r (i + 1)) = Lib.idxByFrom (fun _ y => p y) default r (i + 1) from rfl, e]; congr 1; omega, by simp [h, hf]⟩

/-- slices.IndexFunc at Metas. -/
theorem index_meta (p : S25 → Bool) (g : Nat) (cb : Array Value) (eg : ∀ args w, (callFunc g args).run Try.prog w = .ok (.enter g args) w) (base : Nat) (P0 : Nat → Prop) (gb cap n : Nat) (l : List S25) (w : World)
    (hR : Kd.R k25 25 w base P0 (.slice (some ⟨gb, 0, none⟩) n cap) l) (hp : Answers w none g cb p) :
    Calls Try.prog 39 #[.slice (some ⟨gb, 0, none⟩) n cap, .func (.func g) #[] cb] w fun e w' => e = .returned (.int .i64 (Lib.idxByFrom (fun _ y => p y) default l 0)) ∧ Below w.heap.size w w' := by
  obtain ⟨hn, hnc, hC⟩ := Kd.R_reads' hR
  have hlt : gb < w.heap.size := by
    obtain ⟨_, inner, ho, _⟩ := hR
    exact own_lt ho gb rfl
  have h := AnyQ.slices_IndexFunc Try.indexMeta 4 isAggMeta sizeMeta cellsMeta (fun _ => rfl) p g cb eg gb 0 n cap l w
    (fun W x hb => (hp W (grown_of_below hb none) x).mono fun _ _ h => ⟨h.1, below_then hb hb.size h.2⟩) (by omega) (by have := hC.2.1; omega) hlt (fun j hj i v hv => by
      obtain ⟨c, hcl, hM, hcc, _⟩ := Kd.R_elem hR z25 (j : Int) (by omega) (by omega)
      obtain rfl := k25_openM hM
      have : w.cell? ⟨gb, (j : Int).toNat * 4 + i, none⟩ = some v := hcc i v (by rw [← hv]; simp only [cellsMeta]; rw [show l[j]! = l.getD (j : Int).toNat z25 from by simp [List.getD_eq_getElem?_getD, List.getElem!_eq_getElem?_getD]; rfl])
      simpa using this)
  rw [List.take_of_length_le (by omega)] at h
  exact h

set_option maxHeartbeats 2000000 in
theorem delete_meta (p : S25 → Bool) (g : Nat) (cb : Array Value) (eg : ∀ args w, (callFunc g args).run Try.prog w = .ok (.enter g args) w) (base : Nat) (P0 : Nat → Prop) (gb cap n : Nat) (l : List S25) (w : World)
    (hR : Kd.R k25 25 w base P0 (.slice (some ⟨gb, 0, none⟩) n cap) l) (hp : Answers w (some gb) g cb p) :
    Calls Try.prog 24 #[.slice (some ⟨gb, 0, none⟩) n cap, .func (.func g) #[] cb] w fun e w' => e = .returned (.slice (some ⟨gb, 0, none⟩) (l.filter fun x => !p x).length cap) ∧ Kd.R k25 25 w' base P0 (.slice (some ⟨gb, 0, none⟩) (l.filter fun x => !p x).length cap) (l.filter fun x => !p x) ∧ w.grownBy w' (some gb) := by
  have hI := index_meta p g cb eg base P0 gb cap n l w hR (fun W hg x => hp W ⟨hg.os, hg.tape, hg.output, hg.size, fun k hk _ => hg.block k hk (by simp)⟩ x)
  obtain ⟨hn, hnc, hC⟩ := Kd.R_reads' hR
  have hmax := hC.2.1
  clear hC
  have HR := Lib.hid hR
  have HP := Lib.hid hp
  have Hn := Lib.hid hn
  clear hR hp hn
  rcases first_of p l 0 with ⟨e1, hall⟩ | ⟨k0, hk0, e1, hf⟩
  · rw [e1] at hI
    have hall' : l.filter (fun x => !p x) = l := List.filter_eq_self.2 fun x hx => by rw [hall x hx]; rfl
    have HI := Lib.hid hI
    clear hI e1 hall
    go_enter Try.func24, Try.ntmps24
    go_wp2_with fail
    with_reducible refine HI.out.mono ?_
    rintro e w1 ⟨rfl, hb1⟩
    have Hb1 := Lib.hid hb1
    clear hb1
    go_wp2
    go_ret
    rw [hall', ← Hn.out]
    exact ⟨rfl, Kd.R_below HR.out Hb1.out, grown_of_below Hb1.out _⟩
  · rw [e1, Nat.zero_add] at hI
    have HI := Lib.hid hI
    have Hf := Lib.hid hf
    clear hI e1 hf
    have hne1 : ((k0 : Int) == -1) = false := beq_eq_false_iff_ne.2 (by omega)
    have hkn : k0 < n := by have := Hn.out; omega
    go_enter Try.func24, Try.ntmps24
    go_wp2_with fail
    with_reducible refine HI.out.mono ?_
    rintro e w1 ⟨rfl, hb1⟩
    have Hb1 := Lib.hid hb1
    clear hb1
    go_wp2
    go_loopg [5, 6, 7] n (fun gg s5 s6 _ wr => ∃ (i j : Nat) (dk : List S25), s5 = .int .i64 i ∧ s6 = .int .i64 j ∧ i < j ∧ j ≤ n ∧ n - j ≤ gg ∧ Hid (i = ((l.take j).filter (fun x => !p x)).length) ∧ Hid (dk.length = n) ∧ Hid (dk.take i = (l.take j).filter (fun x => !p x)) ∧ Hid (dk.drop j = l.drop j) ∧ Hid (Kd.R k25 25 wr base P0 (.slice (some ⟨gb, 0, none⟩) n cap) dk) ∧ Hid (w.grownBy wr (some gb)))
    case atStart =>
      have hk : (l.take (k0 + 1)).filter (fun x => !p x) = l.take k0 := by
        have h2 := Hf.out
        have h3 : l.filter (fun x => !p x) = (l.take (k0 + 1)).filter (fun x => !p x) ++ (l.drop (k0 + 1)).filter (fun x => !p x) := by rw [← List.filter_append, List.take_append_drop]
        rw [h3] at h2
        exact List.append_cancel_right h2
      exact ⟨k0, k0 + 1, l, rfl, by go_num, by omega, by omega, by omega, Lib.hid (by rw [hk, List.length_take]; have := Hn.out; omega), Lib.hid Hn.out.symm, Lib.hid hk.symm, Lib.hid rfl, Lib.hid (Kd.R_below HR.out Hb1.out), Lib.hid (grown_of_below Hb1.out _)⟩
    case round =>
      obtain ⟨i, j, dk, rfl, rfl, hij, hjn, hgg, Hi, Hl, Ht, Hd, HD, HG⟩ := hrel
      by_cases hlt : j < n
      · have hlti : (j : Int) < (n : Int) := by omega
        have hjd : j < dk.length := by have := Hl.out; omega
        have hjl : j < l.length := by have := Hn.out; omega
        obtain ⟨x, hx⟩ : ∃ x, dk.getD j z25 = x := ⟨_, rfl⟩
        have hxl : l[j]? = some x := by
          have h1 : dk[j]? = some x := by rw [← hx, List.getD_eq_getElem?_getD, List.getElem?_eq_getElem hjd]; rfl
          have h2 := congrArg (·[0]?) Hd.out
          simpa [List.getElem?_drop, h1] using h2.symm
        have hstep : (l.take (j + 1)).filter (fun x => !p x) = (l.take j).filter (fun x => !p x) ++ (if p x = true then [] else [x]) := by
          rw [List.take_add_one, hxl, Option.toList_some, List.filter_append]
          congr 1
          cases h : p x <;> simp [h]
        have Hstep := Lib.hid hstep
        obtain ⟨c, hcl, hM, hcc, hfr⟩ := Kd.R_elem HD.out z25 (j : Int) (by omega) (by omega)
        rw [Int.toNat_natCast, hx] at hM
        obtain rfl := k25_openM hM
        have c0 : wr.cell? ⟨gb, j * 4, none⟩ = some (.string x.f0) := hcc 0 _ rfl
        have c1 : wr.cell? ⟨gb, j * 4 + 1, none⟩ = some (.int .i64 x.f1) := hcc 1 _ rfl
        have c2 : wr.cell? ⟨gb, j * 4 + 2, none⟩ = some (.int .i64 x.f2) := hcc 2 _ rfl
        have c3 : wr.cell? ⟨gb, j * 4 + 3, none⟩ = some (.int .u32 x.f3) := hcc 3 _ rfl
        have hgbl : gb < wr.heap.size := by
          obtain ⟨_, inner, ho, _⟩ := HD.out
          exact own_lt ho gb rfl
        have Hxl := Lib.hid hxl
        clear hx hxl hcl hM hcc hfr hstep
        have hag : w.grownBy (wr.alloc (.cells #[.string x.f0, .int .i64 x.f1, .int .i64 x.f2, .int .u32 x.f3] 25)) (some gb) :=
          ⟨HG.out.os, HG.out.tape, HG.out.output, by have := HG.out.size; simp; omega, fun k hk hne => (Below.heap_alloc wr _ k (Nat.lt_of_lt_of_le hk HG.out.size)).trans (HG.out.block k hk hne)⟩
        have HC := Lib.hid (HP.out _ hag x)
        have Hag := Lib.hid hag
        have HDa := Lib.hid (Kd.R_alloc HD.out (.cells #[.string x.f0, .int .i64 x.f1, .int .i64 x.f2, .int .u32 x.f3] 25))
        have Hbx := Lib.hid (blk_new wr (.cells #[.string x.f0, .int .i64 x.f1, .int .i64 x.f2, .int .u32 x.f3] 25))
        clear hag
        cases hpx : p x with
        | true =>
          have HC2 : Hid _ := Lib.hid HC.out
          rw [hpx] at HC2
          have Hpx := Lib.hid hpx
          clear hpx HC
          go_wp2_with fail
          with_reducible refine HC2.out.mono ?_
          rintro e w2 ⟨rfl, hb2⟩
          have Hb2 := Lib.hid hb2
          clear hb2 c0 c1 c2 c3
          go_wp2
          go_roundg (n - (j + 1))
          case measure => omega
          case rel =>
            exact ⟨i, j + 1, dk, rfl, by go_num, by omega, by omega, Nat.le_refl _, Lib.hid (by rw [Hstep.out, Hpx.out, if_pos rfl, List.append_nil]; exact Hi.out), Hl, Lib.hid (by rw [Hstep.out, Hpx.out, if_pos rfl, List.append_nil]; exact Ht.out), Lib.hid (by rw [← List.drop_drop, Hd.out, List.drop_drop]), Lib.hid (Kd.R_below HDa.out Hb2.out), Lib.hid ⟨Hb2.out.os.trans Hag.out.os, Hb2.out.tape.trans Hag.out.tape, Hb2.out.output.trans Hag.out.output, Nat.le_trans Hag.out.size Hb2.out.size, fun k hk hne => (Hb2.out.block k (Nat.lt_of_lt_of_le hk Hag.out.size)).trans (Hag.out.block k hk hne)⟩⟩
        | false =>
          have HC2 : Hid _ := Lib.hid HC.out
          rw [hpx] at HC2
          have Hpx := Lib.hid hpx
          clear hpx HC
          go_wp2_with fail
          with_reducible refine HC2.out.mono ?_
          rintro e w2 ⟨rfl, hb2⟩
          have Hb2 := Lib.hid hb2
          have HD2 := Lib.hid (Kd.R_below HDa.out hb2)
          have HG2 : Hid (w.grownBy w2 (some gb)) := Lib.hid ⟨hb2.os.trans Hag.out.os, hb2.tape.trans Hag.out.tape, hb2.output.trans Hag.out.output, Nat.le_trans Hag.out.size hb2.size, fun k hk hne => (hb2.block k (Nat.lt_of_lt_of_le hk Hag.out.size)).trans (Hag.out.block k hk hne)⟩
          have hbx := blk_below Hbx.out hb2
          have b0 : w2.cell? ⟨wr.heap.size, 0, none⟩ = some (.string x.f0) := (blk_cell hbx 0).trans rfl
          have b1 : w2.cell? ⟨wr.heap.size, 1, none⟩ = some (.int .i64 x.f1) := (blk_cell hbx 1).trans rfl
          have b2 : w2.cell? ⟨wr.heap.size, 2, none⟩ = some (.int .i64 x.f2) := (blk_cell hbx 2).trans rfl
          have b3 : w2.cell? ⟨wr.heap.size, 3, none⟩ = some (.int .u32 x.f3) := (blk_cell hbx 3).trans rfl
          obtain ⟨c, hcl, hM, hcc, hfr⟩ := Kd.R_elem HD2.out z25 (i : Int) (by omega) (by omega)
          rw [Int.toNat_natCast] at hM hcc hfr
          have Hseg := Lib.hid (Kd.R_seg HD2.out (i : Int) (by omega) (by omega) (seg := [.string x.f0, .int .i64 x.f1, .int .i64 x.f2, .int .u32 x.f3]) (j := 0) hcl (by rw [Int.toNat_natCast]; exact hcc) (by rw [show k25.sz = 4 from rfl]; exact Nat.le_refl 4) (x' := x) (okp := fun k_ => (P0 k_ ∧ k_ ≠ gb)) (by have e1 : c.drop 4 = [] := List.drop_eq_nil_of_le (by rw [hcl]; exact Nat.le_refl 4); simp only [List.take_zero, List.nil_append]; rw [show 0 + [Value.string x.f0, .int .i64 x.f1, .int .i64 x.f2, .int .u32 x.f3].length = 4 from rfl, e1, List.append_nil]; exact k25_mkM _ _ _ x) (fun _ hk => hk))
          obtain rfl := k25_openM hM
          have d0 : w2.cell? ⟨gb, i * 4, none⟩ = some (.string (dk.getD i z25).f0) := hcc 0 _ rfl
          have d1 : w2.cell? ⟨gb, i * 4 + 1, none⟩ = some (.int .i64 (dk.getD i z25).f1) := hcc 1 _ rfl
          have d2 : w2.cell? ⟨gb, i * 4 + 2, none⟩ = some (.int .i64 (dk.getD i z25).f2) := hcc 2 _ rfl
          have d3 : w2.cell? ⟨gb, i * 4 + 3, none⟩ = some (.int .u32 (dk.getD i z25).f3) := hcc 3 _ rfl
          have f0 : w2.frozen? ⟨gb, i * 4, none⟩ = false := hfr 0
          have f1 : w2.frozen? ⟨gb, i * 4 + 1, none⟩ = false := hfr 1
          have f2 : w2.frozen? ⟨gb, i * 4 + 2, none⟩ = false := hfr 2
          have f3 : w2.frozen? ⟨gb, i * 4 + 3, none⟩ = false := hfr 3
          clear hb2 c0 c1 c2 c3 hbx hcl hM hcc hfr
          go_wp2
          go_roundg (n - (j + 1))
          case measure => omega
          case rel =>
            refine ⟨i + 1, j + 1, dk.set i x, by go_num, by go_num, by omega, by omega, Nat.le_refl _, Lib.hid ?_, Lib.hid (by rw [List.length_set]; exact Hl.out), Lib.hid ?_, Lib.hid ?_, ?_, ?_⟩
            · rw [Hstep.out, Hpx.out, if_neg (by simp), List.length_append, ← Hi.out]; rfl
            · have hid : i < dk.length := by have := Hl.out; omega
              rw [Hstep.out, Hpx.out, if_neg (by simp), ← Ht.out, List.take_add_one, List.getElem?_set_self hid, Option.toList_some, List.take_set_of_le (Nat.le_refl i)]
            · rw [List.drop_set_of_lt (by omega), ← List.drop_drop, Hd.out, List.drop_drop]
            · have h := Hseg.out.1
              rw [Int.toNat_natCast] at h
              exact Lib.hid h
            · have h := Hseg.out.2
              rw [Int.toNat_natCast] at h
              have h3 : w.grownBy (w2.setCells gb (i * k25.sz + 0) [.string x.f0, .int .i64 x.f1, .int .i64 x.f2, .int .u32 x.f3]) (some gb) := ⟨h.os.trans HG2.out.os, h.tape.trans HG2.out.tape, h.output.trans HG2.out.output, Nat.le_trans HG2.out.size h.size, fun k hk hne => (h.block k (Nat.lt_of_lt_of_le hk HG2.out.size) hne).trans (HG2.out.block k hk hne)⟩
              exact Lib.hid h3
      · obtain rfl : j = n := by omega
        have hlti : ¬ (j : Int) < (j : Int) := by omega
        have hid : i ≤ dk.length := by have := Hl.out; omega
        have hfin : (l.take j).filter (fun x => !p x) = l.filter (fun x => !p x) := by rw [List.take_of_length_le (by have := Hn.out; omega)]
        have Hfin := Lib.hid hfin
        obtain ⟨vs, hvs⟩ : ∃ vs, (Builtin.zeroCells #[Value.string ⟨#[]⟩, .int .i64 0, .int .i64 0, .int .u32 0] (j - i)).toList = vs := ⟨_, rfl⟩
        have hcl : ∀ ty, (Builtin.clear_ #[22] ty #[.slice (some ⟨gb, i * 4, none⟩) (j - i) (cap - i)]).run Try.prog wr = .ok (.tuple #[]) (wr.setCells gb (i * 4) vs) := fun ty => by
          rw [← hvs]
          refine run_clear_row wr 22 25 ty _ _ Try.underlying22 zeroMeta rfl (by decide +kernel) gb (i * 4) (j - i) (cap - i) (by omega) (fun t ht => ?_) (fun t ht => ?_)
          · have ht4 : t < (j - i) * 4 := ht
            obtain ⟨c, hc1, hM, hcc, hfr⟩ := Kd.R_elem HD.out z25 ((i + t / 4 : Nat) : Int) (by omega) (by omega)
            rw [Int.toNat_natCast] at hcc
            have h4 : t % 4 < c.length := by rw [hc1]; exact Nat.mod_lt _ (by decide)
            have := hcc (t % 4) c[t % 4] (List.getElem?_eq_getElem h4)
            rw [show (i + t / 4) * k25.sz + t % 4 = i * 4 + t from by show (i + t / 4) * 4 + t % 4 = _; omega] at this
            rw [this]; rfl
          · have ht4 : t < (j - i) * 4 := ht
            obtain ⟨c, hc1, hM, hcc, hfr⟩ := Kd.R_elem HD.out z25 ((i + t / 4 : Nat) : Int) (by omega) (by omega)
            have := hfr (t % 4)
            rw [Int.toNat_natCast, show (i + t / 4) * k25.sz + t % 4 = i * 4 + t from by show (i + t / 4) * 4 + t % 4 = _; omega] at this
            exact this
        have Hp := Lib.hid (Past.R_past vs (i * 4) wr (Kd.R_take HD.out hid) (by rw [List.length_take, Nat.min_eq_left hid]; exact Nat.le_refl _))
        clear hvs hid
        go_wp2
        go_ret
        have h := Hp.out
        rw [Ht.out, Hfin.out] at h
        have hi := Hi.out
        rw [Hfin.out] at hi
        rw [← hi]
        exact ⟨rfl, h.1, ⟨h.2.os.trans HG.out.os, h.2.tape.trans HG.out.tape, h.2.output.trans HG.out.output, Nat.le_trans HG.out.size h.2.size, fun k hk hne => (h.2.block k (Nat.lt_of_lt_of_le hk HG.out.size) hne).trans (HG.out.block k hk hne)⟩⟩
end Go.Proofs.Ytgagcimfkmegnaa
