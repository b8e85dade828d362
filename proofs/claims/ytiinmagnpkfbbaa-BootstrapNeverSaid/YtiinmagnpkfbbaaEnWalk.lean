/- BootstrapEnough: the walk. -/
import Derived.Test.YtiinmagnpkfbbaaBootF
namespace Go.Proofs.Ytiinmagnpkfbbaa
set_option linter.unusedVariables false
set_option linter.unusedSimpArgs false
open Go.RowKit Go.Proofs.YtiinmagnpkfbbaaW.PrintWords Go.Proofs.YtiinmagnpkfbbaaW.PrintLast Go.Proofs.YtiinmagnpkfbbaaW.PrintMore Go.Proofs.Ytiinmagnpkfbbaa.QT
namespace Bt
open Rg (normR)
theorem large_l0 (V : Int) (nodes : List Int) (shards : List (List Ow)) (hl : shards.length ≤ 9223372036854775807) : ∀ (d : Nat) (x i : Int), 0 ≤ i → i ≤ shards.length → (shards.length : Int) - i = d → ∃ r, Ev (fun k => thermographlaw18_large.l0 k x i V nodes shards) r
  | 0, x, i, h0, h1, h2 => ⟨_, Ev.step (f := fun _ => some (decide (x > 1024))) (fun k => by rw [thermographlaw18_large.l0, if_neg (by omega)]) (Ev.now _)⟩
  | d + 1, x, i, h0, h1, h2 => by
    by_cases h : x ≤ 1024
    · obtain ⟨r, hr⟩ := large_l0 V nodes shards hl d (wrap64 (x + (mn ((rd_L4 shards i).length : Int) 1048576))) (i + 1) (by omega) (by omega) (by omega)
      refine ⟨r, Ev.step (fun k => ?_) hr⟩
      rw [thermographlaw18_large.l0, if_pos (by omega), if_pos h, if_pos h0]
      have : wrap64 (i + 1) = i + 1 := by unfold wrap64; omega
      rw [this]
    · exact ⟨_, Ev.step (f := fun _ => some (decide (x > 1024))) (fun k => by rw [thermographlaw18_large.l0, if_pos (by omega), if_neg h]) (Ev.now _)⟩
theorem large_any (w : World) (V : Int) (An : Option Addr) (cn : Nat) (nodes : List Int) (As : Option Addr) (cs : Nat) (shards : List (List Ow)) (hP : Pl.PlAt w An cn nodes As cs shards) :
    ∃ r : Bool, Calls Try.prog 5 #[.agg #[.int .i64 V, .slice An nodes.length cn, .slice As shards.length cs]] w fun e w' => e = .returned (.bool r) ∧ Below w.heap.size w w' := by
  obtain ⟨r, hr⟩ := large_l0 V nodes shards hP.ls shards.length (wrap64 ((nodes.length : Int) + (shards.length : Int))) 0 (Int.le_refl _) (by omega) (by omega)
  have hf : Ev (fun k => thermographlaw18_large.f k V nodes shards) r := Ev.congr (fun k => by unfold thermographlaw18_large.f; rfl) hr
  obtain ⟨k, hk⟩ := hf.rounds
  exact ⟨r, thermographlaw18_large.calls k V An cn nodes As cs shards r w hP.hn hP.hcn hP.hs hP.hcs hk⟩
/-- Where there is no boot, both say why, and the same. -/
theorem news_err (V : Int) (An : Option Addr) (cn : Nat) (nodes : List Int) (As : Option Addr) (cs : Nat) (shards : List (List Ow)) (sh n : Int) (need : R) (h : ¬ (Pl.checkP V nodes shards = 0 ∧ Pl.ownsP shards sh n = true)) :
    ∃ er : Int, er ≠ 0 ∧ ∀ w, Pl.PlAt w An cn nodes As cs shards → (Calls Try.prog 6 #[.agg #[.int .i64 V, .slice An nodes.length cn, .slice As shards.length cs], .int .i64 sh, .int .i64 n, .agg #[.int .i64 need.f0, .int .i64 need.f1]] w fun e w' => e = .returned (.tuple #[.pointer none, .int .i64 er]) ∧ Below w.heap.size w w') ∧
      (Calls Try.prog 7 #[.agg #[.int .i64 V, .slice An nodes.length cn, .slice As shards.length cs], .int .i64 sh, .int .i64 n, .agg #[.int .i64 need.f0, .int .i64 need.f1]] w fun e w' => e = .returned (.tuple #[.pointer none, .int .i64 er]) ∧ Below w.heap.size w w') := by
  by_cases hc : Pl.checkP V nodes shards = 0
  · have ho : Pl.ownsP shards sh n = false := by
      rw [← Bool.not_eq_true]
      exact fun ho => h ⟨hc, ho⟩
    exact ⟨140, by decide, fun w hP => ⟨new_nodes w V An cn nodes As cs shards hP sh n need hc ho, rnew_nodes w V An cn nodes As cs shards hP sh n need hc ho⟩⟩
  · exact ⟨50, by decide, fun w hP => ⟨new_form w V An cn nodes As cs shards hP sh n need hc, rnew_form w V An cn nodes As cs shards hP sh n need hc⟩⟩
def bo (o : Ow) (A : List Int) (gv : Im) : Bo := ⟨o, A, gv, ⟨5, 50⟩, [⟨5, 50⟩], []⟩
theorem wf_bo {w : World} {An : Option Addr} {cn : Nat} {nodes : List Int} {As : Option Addr} {cs : Nat} {shards : List (List Ow)} (hP : Pl.PlAt w An cn nodes As cs shards) {l : List Ow} (hlm : l ∈ shards) {o : Ow} (ho : o ∈ l) (hlen : l.length ≤ 8) (n : Int) (gv : Im) : Wf (bo o (othersL l n) gv) := by
  refine ⟨(hP.wf l hlm o ho).1, fun x hx => ?_, ?_, by simp [bo]⟩
  · obtain ⟨y, hy, rfl⟩ := List.mem_map.1 hx
    exact (hP.wf l hlm y (List.mem_filter.1 hy).1).2
  · have : (othersL l n).length ≤ l.length := by unfold othersL; rw [List.length_map]; exact List.length_filter_le _ _
    show (othersL l n).length ≤ 1000000
    omega
end Bt
end Go.Proofs.Ytiinmagnpkfbbaa
