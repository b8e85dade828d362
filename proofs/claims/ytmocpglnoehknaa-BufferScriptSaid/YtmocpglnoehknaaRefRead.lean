/- thermographref11.Buffer.Blocks, Read: what they tell, and that the program's Buffer tells the same. -/
import Derived.Test.YtmocpglnoehknaaRefC
import Derived.Test.YtmocpglnoehknaaQR1
import Derived.Test.YtmocpglnoehknaaBufBlocks
namespace Go.Proofs.Ytmocpglnoehknaa
set_option linter.unusedVariables false
set_option linter.unusedSimpArgs false
open Go.RowKit Go.Proofs.YtmocpglnoehknaaW.PrintWords Go.Proofs.YtmocpglnoehknaaW.PrintLast Go.Proofs.YtmocpglnoehknaaW.PrintMore Go.Proofs.Ytmocpglnoehknaa.QT Go.Proofs.Ytmocpglnoehknaa.QR
namespace Rf
open Buf (Mp)
/-- A number laid into rising numbers, once. -/
def insI (n : Int) : List Int → List Int
  | [] => [n]
  | q :: r => if q < n then q :: insI n r else if q = n then q :: r else n :: q :: r
theorem insI_mem (n : Int) : ∀ (l : List Int) (x : Int), x ∈ insI n l ↔ x = n ∨ x ∈ l
  | [], x => by simp [insI]
  | q :: r, x => by
    unfold insI
    split
    · rw [List.mem_cons, insI_mem n r x, List.mem_cons]
      constructor
      · rintro (h | h | h)
        · exact .inr (.inl h)
        · exact .inl h
        · exact .inr (.inr h)
      · rintro (h | h | h)
        · exact .inr (.inl h)
        · exact .inl h
        · exact .inr (.inr h)
    · split
      · rename_i h2
        rw [List.mem_cons, h2]
        constructor
        · rintro (h | h)
          · exact .inl h
          · exact .inr (.inr h)
        · rintro (h | h | h)
          · exact .inl h
          · exact .inl h
          · exact .inr h
      · simp
theorem insI_up (n : Int) : ∀ (l : List Int), l.Pairwise (· < ·) → (insI n l).Pairwise (· < ·)
  | [], _ => by simp [insI]
  | q :: r, h => by
    obtain ⟨h1, h2⟩ := List.pairwise_cons.1 h
    unfold insI
    split
    · rename_i hq
      refine List.pairwise_cons.2 ⟨fun x hx => ?_, insI_up n r h2⟩
      rcases (insI_mem n r x).1 hx with rfl | hx
      · exact hq
      · exact h1 x hx
    · split
      · exact h
      · rename_i hq hne
        refine List.pairwise_cons.2 ⟨fun x hx => ?_, h⟩
        rcases List.mem_cons.1 hx with rfl | hx
        · omega
        · have := h1 x hx; omega
theorem insI_len (n : Int) : ∀ (l : List Int), (insI n l).length ≤ l.length + 1
  | [] => by simp [insI]
  | q :: r => by
    unfold insI
    split
    · have := insI_len n r; simp only [List.length_cons]; omega
    · split <;> simp
def blocksR (L : List One) : List Int := L.foldl (fun acc o => insI o.f0 acc) []
theorem blocksR0 : ∀ (L : List One) (acc : List Int), acc.Pairwise (· < ·) → (L.foldl (fun acc o => insI o.f0 acc) acc).Pairwise (· < ·) ∧ ∀ n, n ∈ L.foldl (fun acc o => insI o.f0 acc) acc ↔ n ∈ acc ∨ ∃ o ∈ L, o.f0 = n
  | [], acc, h => ⟨h, by simp⟩
  | o :: L, acc, h => by
    obtain ⟨h1, h2⟩ := blocksR0 L (insI o.f0 acc) (insI_up _ _ h)
    rw [List.foldl_cons]
    refine ⟨h1, fun n => ?_⟩
    rw [h2, insI_mem]
    constructor
    · rintro ((h | h) | ⟨p, hp, h⟩)
      · exact .inr ⟨o, by simp, h.symm⟩
      · exact .inl h
      · exact .inr ⟨p, List.mem_cons_of_mem _ hp, h⟩
    · rintro (h | ⟨p, hp, h⟩)
      · exact .inl (.inr h)
      · rcases List.mem_cons.1 hp with rfl | hp
        · exact .inl (.inl h.symm)
        · exact .inr ⟨p, hp, h⟩
theorem blocksR_is (L : List One) : (blocksR L).Pairwise (· < ·) ∧ ∀ n, n ∈ blocksR L ↔ ∃ o ∈ L, o.f0 = n := by
  obtain ⟨h1, h2⟩ := blocksR0 L [] List.Pairwise.nil
  exact ⟨h1, fun n => by rw [show blocksR L = L.foldl (fun acc o => insI o.f0 acc) [] from rfl, h2]; simp⟩
/-- Rising numbers are told by which they are. -/
theorem blocks_same {m : Mp} {L : List One} (h : m.Perm (toMp L)) {ns : List Int} (hs : ns.Pairwise (· ≤ ·)) (hd : ns.Nodup) (hm : ∀ n, n ∈ ns ↔ ∃ e ∈ m, e.1.blk = n) : ns = blocksR L := by
  obtain ⟨h1, h2⟩ := blocksR_is L
  have hd2 : (blocksR L).Nodup := h1.imp (fun {a b} hab => by intro e; omega)
  refine List.Perm.eq_of_pairwise (le := fun a b : Int => a ≤ b) (fun a b _ _ h1 h2 => by omega) hs (h1.imp (fun {a b} hab => by omega)) ((List.perm_ext_iff_of_nodup hd hd2).2 (fun n => ?_))
  rw [hm, h2]
  constructor
  · rintro ⟨e, he, hb⟩
    obtain ⟨o, ho, rfl⟩ := List.mem_map.1 (h.mem_iff.1 he)
    exact ⟨o, ho, hb⟩
  · rintro ⟨o, ho, hb⟩
    exact ⟨ent o, h.mem_iff.2 (List.mem_map.2 ⟨o, ho, rfl⟩), hb⟩
theorem rdI_mid (P S : List Int) (x : Int) (i : Int) (hi : i = P.length) : rd (P ++ x :: S) i = x := by subst hi; unfold rd; simp
theorem blk_l1 (L : List One) (v i n : Int) (r : List Int × Int) : ∀ (R P out : List Int), out = P ++ R → out.length ≤ 1000000 → Ev (fun k => thermographref11_Buffer_Blocks.l0 k (P ++ insI n R) (wrap64 (i + 1)) L v) r → Ev (fun k => thermographref11_Buffer_Blocks.l1 k out i n (P.length : Int) L v) r
  | [], P, out, ho, hn, h => by
    subst ho
    rw [List.append_nil] at hn ⊢
    have ht : P.take ((P.length : Int)).toNat = P := by simp
    have hd : P.drop ((P.length : Int)).toNat = [] := by simp
    refine Ev.step (f := fun k => thermographref11_Buffer_Blocks.l0 k (P ++ insI n []) (wrap64 (i + 1)) L v) (fun k => ?_) h
    rw [thermographref11_Buffer_Blocks.l1, if_neg (by omega), Option.bind_some, if_pos (by omega), if_pos (by omega), Option.bind_some, ht, if_pos (by rw [List.length_nil]; omega), Option.bind_some, List.nil_append, if_pos (by omega), Option.bind_some, hd, Option.bind_some, if_pos (by rw [List.length_append, List.length_singleton, List.length_nil]; omega), List.append_nil]
    rfl
  | q :: R, P, out, ho, hn, h => by
    have hll : out.length = P.length + R.length + 1 := by rw [ho]; simp; omega
    have e : rd out (P.length : Int) = q := by rw [ho]; exact rdI_mid P R q _ rfl
    by_cases h1 : q < n
    · rw [insI, if_pos h1] at h
      have ih := blk_l1 L v i n r R (P ++ [q]) out (by rw [ho]; simp) hn (by simpa using h)
      rw [List.length_append, List.length_singleton] at ih
      refine Ev.step (fun k => ?_) ih
      rw [thermographref11_Buffer_Blocks.l1, if_pos (by omega), if_pos (by omega), e, if_pos h1, Vw.w1 _ (by omega)]
    · rw [insI, if_neg h1] at h
      by_cases h2 : q = n
      · rw [if_pos h2, ← ho] at h
        refine Ev.step (fun k => ?_) h
        rw [thermographref11_Buffer_Blocks.l1, if_pos (by omega), if_pos (by omega), e, if_neg h1, if_pos h2]
      · rw [if_neg h2] at h
        have ht : out.take ((P.length : Int)).toNat = P := by rw [ho]; simp
        have hd : out.drop ((P.length : Int)).toNat = q :: R := by rw [ho]; simp
        refine Ev.step (f := fun k => thermographref11_Buffer_Blocks.l0 k (P ++ n :: q :: R) (wrap64 (i + 1)) L v) (fun k => ?_) h
        rw [thermographref11_Buffer_Blocks.l1, if_pos (by omega), if_pos (by omega), e, if_neg h1, if_neg h2, Option.bind_some, if_pos (by omega), Option.bind_some, ht, if_pos (by rw [List.length_nil]; omega), Option.bind_some, List.nil_append, if_pos (by omega), Option.bind_some, hd, Option.bind_some, if_pos (by rw [List.length_append, List.length_singleton, List.length_cons]; omega)]
        simp
theorem rd54_mid (P S : List One) (x : One) (i : Int) (hi : i = P.length) : rd_T54 (P ++ x :: S) i = x := by subst hi; unfold rd_T54; simp
theorem blk_l0 (L : List One) (v : Int) (hl : L.length ≤ 100000) : ∀ (S P : List One) (out : List Int), L = P ++ S → out.length ≤ P.length → Ev (fun k => thermographref11_Buffer_Blocks.l0 k out (P.length : Int) L v) (S.foldl (fun acc o => insI o.f0 acc) out, v)
  | [], P, out, hL, hn => by
    rw [List.append_nil] at hL
    subst hL
    refine Ev.step (f := fun _ => some _) (fun k => ?_) (Ev.now _)
    rw [thermographref11_Buffer_Blocks.l0, if_neg (by omega)]
    rfl
  | o :: S, P, out, hL, hn => by
    have hll : L.length = P.length + S.length + 1 := by rw [hL]; simp; omega
    have e : rd_T54 L (P.length : Int) = o := by rw [hL]; exact rd54_mid P S o _ rfl
    have hi := insI_len o.f0 out
    have ih := blk_l0 L v hl S (P ++ [o]) (insI o.f0 out) (by rw [hL]; simp) (by rw [List.length_append, List.length_singleton]; omega)
    rw [List.length_append, List.length_singleton] at ih
    rw [List.foldl_cons]
    have h1 := blk_l1 L v (P.length : Int) o.f0 _ out [] out rfl (by omega) (by rw [Vw.w1 _ (by omega)]; exact ih)
    refine Ev.step (f := fun k => thermographref11_Buffer_Blocks.l1 k out (P.length : Int) o.f0 0 L v) (fun k => ?_) h1
    rw [thermographref11_Buffer_Blocks.l0, if_pos (by omega), if_pos (by omega), e]
theorem blocks_ev (L : List One) (v : Int) (hl : L.length ≤ 100000) : Ev (fun k => thermographref11_Buffer_Blocks.f k L v) (blocksR L, v) := by
  refine Ev.congr (fun k => ?_) (blk_l0 L v hl L [] [] rfl (Nat.zero_le _))
  unfold thermographref11_Buffer_Blocks.f
  rfl
theorem isS {w : World} {gr : Nat} {L : List One} {v : Int} (h : Is w gr L v) : IsS45 w w gr L v := by
  obtain ⟨v0, hv, hR⟩ := h.blk
  obtain ⟨A, c, rfl⟩ := Kd.R_slice hR
  exact ⟨A, c, hv, Nat.zero_le _, (Kd.R_reads' hR).2.2⟩
theorem rblocks_calls (w : World) (gr : Nat) (L : List One) (v : Int) (h : Is w gr L v) (hl : L.length ≤ 100000) :
    Calls Try.prog 40 #[.pointer (some ⟨gr, 0, none⟩)] w fun e w' => ∃ v0 : Value, e = .returned v0 ∧ Kd.R (Kd.int .i64) 3 w' w.heap.size (fun _ => True) v0 (blocksR L) ∧ Below w.heap.size w w' := by
  obtain ⟨k, hk⟩ := (blocks_ev L v hl).rounds
  refine (thermographref11_Buffer_Blocks.calls k gr L v _ _ w w (isS h) (Below.refl _ _) hk).mono ?_
  rintro e w' ⟨v0, rfl, h1, _, h2, _⟩
  exact ⟨v0, rfl, h1, h2⟩
/-! #### Read -/
def ptsR (idn : ByteArray) (L : List One) : List S24 := (L.filter (fun o => decide (o.f1 = idn))).map (·.f2)
theorem ptsR_eq (idn : ByteArray) (L : List One) : Buf.pts idn (toMp L) = ptsR idn L := by
  unfold Buf.pts toMp ptsR
  rw [List.filter_map, List.map_map]
  rfl
theorem read_same {m : Mp} {L : List One} (h : m.Perm (toMp L)) (idn : ByteArray) : Vw.view (Buf.pts idn m) = Vw.view (ptsR idn L) := by
  rw [← ptsR_eq]
  exact Vw.view_dom (Vw.Dom.perm ((h.filter _).map _))
theorem read_l0 (L : List One) (v : Int) (idn : ByteArray) (lo hi : Int) (hl : L.length ≤ 100000) : ∀ (S P : List One) (acc : List S24), L = P ++ S → acc.length ≤ P.length → Ev (fun k => thermographref11_Buffer_Read.l0 k idn acc (P.length : Int) L v lo hi) (Vw.cut (Vw.view (acc ++ ptsR idn S)) lo hi, v)
  | [], P, acc, hL, hn => by
    rw [List.append_nil] at hL
    subst hL
    have e : acc ++ ptsR idn [] = acc := by simp [ptsR]
    rw [e]
    have hv := Vw.view_ref acc (by omega)
    have hc := Vw.rcut_ev (Vw.view acc) lo hi (by have := Vw.view_len acc; omega)
    refine Ev.step (f := fun k => (thermographref06_View.f k acc).bind fun t158 => (thermographref06_Cut.f k t158 lo hi).bind fun t161 => some (t161, v)) (fun k => ?_) (Ev.bind (f := fun k t158 => (thermographref06_Cut.f k t158 lo hi).bind fun t161 => some (t161, v)) hv (Ev.bind (f := fun _ t161 => some (t161, v)) hc (Ev.now _)))
    rw [thermographref11_Buffer_Read.l0, if_neg (by omega)]
  | o :: S, P, acc, hL, hn => by
    have hll : L.length = P.length + S.length + 1 := by rw [hL]; simp; omega
    have e : rd_T54 L (P.length : Int) = o := by rw [hL]; exact rd54_mid P S o _ rfl
    by_cases hid : o.f1 = idn
    · have ih := read_l0 L v idn lo hi hl S (P ++ [o]) (acc ++ [o.f2]) (by rw [hL]; simp) (by simp; omega)
      rw [List.length_append, List.length_singleton, List.append_assoc] at ih
      have e2 : ptsR idn (o :: S) = [o.f2] ++ ptsR idn S := by unfold ptsR; rw [List.filter_cons, if_pos (by simpa using hid)]; rfl
      rw [e2]
      refine Ev.step (fun k => ?_) ih
      rw [thermographref11_Buffer_Read.l0, if_pos (by omega), if_pos (by omega), e, if_pos (by rw [hid]), if_pos (by omega), Vw.w1 _ (by omega)]
    · have ih := read_l0 L v idn lo hi hl S (P ++ [o]) acc (by rw [hL]; simp) (by simp; omega)
      rw [List.length_append, List.length_singleton] at ih
      have e2 : ptsR idn (o :: S) = ptsR idn S := by unfold ptsR; rw [List.filter_cons, if_neg (by simpa using hid)]
      rw [e2]
      refine Ev.step (fun k => ?_) ih
      rw [thermographref11_Buffer_Read.l0, if_pos (by omega), if_pos (by omega), e, if_neg (fun h => hid (Tk.bytes_iff.1 h)), Vw.w1 _ (by omega)]
theorem rread_calls (w : World) (gr : Nat) (L : List One) (v : Int) (h : Is w gr L v) (hl : L.length ≤ 100000) (idn : ByteArray) (lo hi : Int) :
    Calls Try.prog 41 #[.pointer (some ⟨gr, 0, none⟩), .string idn, .agg #[.int .i64 lo, .int .i64 hi]] w fun e w' => ∃ v0 : Value, e = .returned v0 ∧ Kd.R k24 24 w' w.heap.size (fun _ => True) v0 (Vw.cut (Vw.view (ptsR idn L)) lo hi) ∧ Below w.heap.size w w' := by
  have h0 := read_l0 L v idn lo hi hl L [] [] rfl (Nat.zero_le _)
  have h1 : Ev (fun k => thermographref11_Buffer_Read.f k L v idn lo hi) (Vw.cut (Vw.view (ptsR idn L)) lo hi, v) := Ev.congr (fun k => by unfold thermographref11_Buffer_Read.f; rfl) h0
  obtain ⟨k, hk⟩ := h1.rounds
  refine (thermographref11_Buffer_Read.calls k gr L v idn lo hi _ _ w w (isS h) (Below.refl _ _) hk).mono ?_
  rintro e w' ⟨v0, rfl, h1, _, h2, _⟩
  exact ⟨v0, rfl, h1, h2⟩
/-! #### sameInts at two rows of one list -/
theorem sameI_ev0 (l : List Int) (hn : l.length ≤ 1000000) : ∀ (R P : List Int), l = P ++ R → Ev (fun k => thermographlaw11_sameInts.l0 k l l (P.length : Int)) true
  | [], P, hl => by
    simp only [List.append_nil] at hl
    have hln : l.length = P.length := by rw [hl]
    refine Ev.step (f := fun _ => some true) (fun k => ?_) (Ev.now _)
    rw [thermographlaw11_sameInts.l0, if_neg (by omega)]
  | x :: R, P, hl => by
    have e : rd l (P.length : Int) = x := by rw [hl]; exact rdI_mid P R x _ rfl
    have hln : l.length = P.length + R.length + 1 := by rw [hl]; simp; omega
    have ih := sameI_ev0 l hn R (P ++ [x]) (by rw [hl]; simp)
    rw [List.length_append, List.length_singleton] at ih
    refine Ev.step (fun k => ?_) ih
    rw [thermographlaw11_sameInts.l0, if_pos (by omega), if_pos (by omega), if_pos (by omega), e, if_pos rfl, Vw.w1 _ (by omega)]
theorem sameI_any {X : World} {b1 b2 : Nat} {o1 o2 : Nat → Prop} {v1 v2 : Value} {l : List Int} (h1 : Kd.R (Kd.int .i64) 3 X b1 o1 v1 l) (h2 : Kd.R (Kd.int .i64) 3 X b2 o2 v2 l) (hn : l.length ≤ 1000000) :
    Calls Try.prog 39 #[v1, v2] X fun e w' => e = .returned (.bool true) ∧ Below X.heap.size X w' := by
  obtain ⟨A1, c1, rfl⟩ := Kd.R_slice h1
  obtain ⟨A2, c2, rfl⟩ := Kd.R_slice h2
  obtain ⟨_, hc1, hC1⟩ := Kd.R_reads' h1
  obtain ⟨_, hc2, hC2⟩ := Kd.R_reads' h2
  have h : Ev (fun k => thermographlaw11_sameInts.f k l l) true := by
    refine Ev.congr (fun k => ?_) (sameI_ev0 l hn l [] rfl)
    unfold thermographlaw11_sameInts.f
    rw [if_pos rfl]
    rfl
  obtain ⟨k, hk⟩ := h.rounds
  exact (thermographlaw11_sameInts.calls k A1 c1 l A2 c2 l true X hC1 hc1 hC2 hc2 hk).mono fun e w' ⟨he, hd⟩ => ⟨he, hd.below⟩
end Rf
end Go.Proofs.Ytmocpglnoehknaa
