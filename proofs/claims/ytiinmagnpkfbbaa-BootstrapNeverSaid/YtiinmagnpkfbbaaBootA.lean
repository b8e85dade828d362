/- The boots: the state in memory; initializing, gave. -/
import Derived.Test.YtiinmagnpkfbbaaNormal
import Derived.Test.YtiinmagnpkfbbaaFnd
import Derived.Test.YtiinmagnpkfbbaaMap
namespace Go.Proofs.Ytiinmagnpkfbbaa
set_option linter.unusedVariables false
set_option linter.unusedSimpArgs false
open Go.RowKit Go.Proofs.YtiinmagnpkfbbaaW.PrintWords Go.Proofs.YtiinmagnpkfbbaaW.PrintLast Go.Proofs.YtiinmagnpkfbbaaW.PrintMore Go.Proofs.Ytiinmagnpkfbbaa.QT Go.Sort
namespace Bt
abbrev Ow := Pl.Ow
abbrev R := Rg.R
abbrev kI : Kd Int := Kd.int .i64
abbrev Im := List (Int × Unit)
abbrev Pm := List (ByteArray × Value)
def ekI (n : Int) : Value := .int .i64 n
def evU (_ : Unit) : Value := .agg #[]
theorem encI : XM.Enc Try.prog 3 ekI := ⟨Maps.int_keyed Try.underlying3, fun a a' h => by unfold ekI at h; cases h; rfl⟩
theorem keyI (n : Int) (h : (Lit.int .i64 n).wf = true) : keyOf Try.prog 3 (.int .i64 n) = some (.int .i64 n) := by
  unfold keyOf
  rw [Try.underlying3]
  simp [mapKey, Try.underlying3, h]
theorem isKI (n : Int) (h : (Lit.int .i64 n).wf = true) : XM.IsK Try.prog 3 ekI n := ⟨_, keyI n h⟩
def ekS (s : ByteArray) : Value := .string s
def evV (v : Value) : Value := v
theorem encS : XM.Enc Try.prog 9 ekS := ⟨Maps.string_keyed Try.underlying9, fun a a' h => by unfold ekS at h; cases h; rfl⟩
theorem keyS (s : ByteArray) (h : s.size ≤ maxLen) : keyOf Try.prog 9 (.string s) = some (.string s.data.toList) := by
  unfold keyOf
  rw [Try.underlying9]
  simp [mapKey, Try.underlying9, h]
theorem isKS (s : ByteArray) (h : s.size ≤ maxLen) : XM.IsK Try.prog 9 ekS s := ⟨_, keyS s h⟩
def IM (w : World) (b : Nat) (gm : Im) : Prop := XM.MapIs Try.prog 3 ekI evU w b gm
def PM (w : World) (b : Nat) (pm : Pm) : Prop := XM.MapIs Try.prog 9 ekS evV w b pm
/-- A boot: who it is; who else may give; who has given; what it needs; what it lacks by itself; what it holds. -/
structure Bo where
  own : Ow
  oth : List Int
  gv : Im
  need : R
  left : List R
  pts : Pm
def bcells (o : Ow) (n : R) (gm gp : Nat) (vO vL : Value) : Array Value := #[.int .i64 o.f0, .int .i64 o.f1, .int .i64 o.f2, vO, .map (some gm), .int .i64 n.f0, .int .i64 n.f1, vL, .map (some gp)]
structure Is (w : World) (B g gm gp : Nat) (vO vL : Value) (b : Bo) : Prop where
  blk : w.heap[g]? = some (.cells (bcells b.own b.need gm gp vO vL) 60 (0, 0))
  oth : Kd.R kI 3 w B (fun _ => True) vO b.oth
  left : Kd.R k29 29 w B (fun _ => True) vL b.left
  gv : IM w gm b.gv
  pts : PM w gp b.pts
  bg : B ≤ g
  bm : B ≤ gm
  bp : B ≤ gp
  ne : gm ≠ gp
theorem Is.below {w w' : World} {B g gm gp : Nat} {vO vL : Value} {b : Bo} (h : Is w B g gm gp vO vL b) (hb : Below w.heap.size w w') : Is w' B g gm gp vO vL b :=
  ⟨blk_below h.blk hb, Kd.R_below h.oth hb, Kd.R_below h.left hb, XM.MapIs.below h.gv hb, XM.MapIs.below h.pts hb, h.bg, h.bm, h.bp, h.ne⟩
/-- A cells' block is no map's. -/
theorem row_map {α : Type} {d : Kd α} {e : Nat} {w : World} {B : Nat} {ok : Nat → Prop} {v : Value} {xs : List α} (hR : d.R e w B ok v xs) {β γ : Type} {k : TypeId} {ek : β → Value} {ev : γ → Value} {b : Nat} {m : List (β × γ)} (hM : XM.MapIs Try.prog k ek ev w b m) : some b ≠ v.ownBlock := by
  intro hk
  obtain ⟨_, _, _, ⟨q, _, cells, hc⟩⟩ := (Kd.R_bound hR).1 b hk.symm
  exact hM.noCells hc rfl
theorem Is.held {w w' : World} {B g gm gp : Nat} {vO vL : Value} {b : Bo} (h : Is w B g gm gp vO vL b) (hg : w.grownBy w' (some gp)) {pm : Pm} (hm : PM w' gp pm) : Is w' B g gm gp vO vL { b with pts := pm } :=
  ⟨(hg.block g (blk_lt h.blk) (fun e => by cases e; exact h.pts.noCells h.blk rfl)).trans h.blk, Kd.R_grown1 h.oth rfl hg (row_map h.oth h.pts), Kd.R_grown1 h.left rfl hg (row_map h.left h.pts), XM.MapIs.kept h.gv hg (fun e => h.ne (by cases e; rfl)), hm, h.bg, h.bm, h.bp, h.ne⟩
theorem init_calls (w : World) (g : Nat) (st : Int) (h : w.cell? ⟨g, 1, none⟩ = some (.int .i64 st)) : Calls Try.prog 20 #[.pointer (some ⟨g, 0, none⟩)] w fun e w' => e = .returned (.bool (st == 1)) ∧ w = w' := by
  go_enter Try.func20, Try.ntmps20
  go_wp2
  go_ret
  exact ⟨rfl, rfl⟩
theorem z68 (w : World) : (zeroValue 68).run Try.prog w = .ok (.agg #[]) w := by kernel_rfl
def gave (gv : Im) (n : Int) : Bool := (XM.aget gv n).isSome
theorem gave_calls (w : World) (g gm : Nat) (gv : Im) (h : w.cell? ⟨g, 4, none⟩ = some (.map (some gm))) (hM : IM w gm gv) (n : Int) (hn : (Lit.int .i64 n).wf = true) :
    Calls Try.prog 22 #[.pointer (some ⟨g, 0, none⟩), .int .i64 n] w fun e w' => e = .returned (.bool (gave gv n)) ∧ Below w.heap.size w w' := by
  have HM := Lib.hid hM
  have HN := Lib.hid (isKI n hn)
  cases hg : XM.aget gv n with
  | none =>
    have HG := Lib.hid hg
    have HE := Lib.hid (show gave gv n = false by unfold gave; rw [hg]; rfl)
    have HB := Lib.hid (below_alloc (Below.refl w.heap.size w) (.cells #[] 68))
    clear hM hn hg
    go_enter Try.func22, Try.ntmps22
    go_wp2_with (at_lookup; go_loud (refine XM.wp_look_none_ok _ rfl _ _ 56 rfl 3 68 encI Try.underlying56 (.agg #[]) (z68 _) gm gv rfl HM.out n rfl HN.out HG.out ?_))
    go_ret
    rw [HE.out]
    exact ⟨rfl, HB.out⟩
  | some u =>
    have HG := Lib.hid hg
    have HE := Lib.hid (show gave gv n = true by unfold gave; rw [hg]; rfl)
    have HB := Lib.hid (below_alloc (Below.refl w.heap.size w) (.cells #[] 68))
    clear hM hn hg
    go_enter Try.func22, Try.ntmps22
    go_wp2_with (at_lookup; go_loud (refine XM.wp_look_some_ok _ rfl _ _ 56 rfl 3 68 encI Try.underlying56 gm gv rfl HM.out n rfl HN.out u HG.out ?_); simp only [evU])
    go_ret
    rw [HE.out]
    exact ⟨rfl, HB.out⟩
end Bt
end Go.Proofs.Ytiinmagnpkfbbaa
