/- What Take tells is told by the points alone. -/
import Derived.Test.YtmocpglnoehknaaTakeWalk
import Derived.Test.YtmocpglnoehknaaRefA
import Derived.Test.YtmocpglnoehknaaRefB
import Derived.Deep.Cut
namespace Go.Proofs.Ytmocpglnoehknaa
open Go.RowKit Go.Proofs.YtmocpglnoehknaaW.PrintWords Go.Proofs.YtmocpglnoehknaaW.PrintLast Go.Proofs.YtmocpglnoehknaaW.PrintMore Go.Proofs.Ytmocpglnoehknaa.QT Go.Proofs.Ytmocpglnoehknaa.QS
namespace Tk
open Buf (Mp pts)
theorem nodup_inj {l : List S24} (h : (l.map (·.f0)).Nodup) {a b : S24} (ha : a ∈ l) (hb : b ∈ l) (e : a.f0 = b.f0) : a = b := by
  induction l with
  | nil => cases ha
  | cons x r ih =>
    rw [List.map_cons, List.nodup_cons] at h
    rcases List.mem_cons.1 ha with ea | ha2
    · rcases List.mem_cons.1 hb with eb | hb2
      · rw [ea, eb]
      · exact absurd (List.mem_map.2 ⟨b, hb2, by rw [← e, ea]⟩) h.1
    · rcases List.mem_cons.1 hb with eb | hb2
      · exact absurd (List.mem_map.2 ⟨a, ha2, by rw [e, eb]⟩) h.1
      · exact ih h.2 ha2 hb2
theorem upT_unique {l r : List S24} (h : l.Perm r) (hl : UpT l) (hr : UpT r) (hd : (l.map (·.f0)).Nodup) : l = r :=
  List.Perm.eq_of_pairwise (le := fun a b : S24 => ¬ b.f0 < a.f0) (fun a b ha hb h1 h2 => nodup_inj hd ha (h.mem_iff.2 hb) (by omega)) hl hr h
/-- Of one block and one name the times are apart. -/
theorem pts_apart {m : Mp} (hn : (XM.keys m).Nodup) (hk : ∀ e ∈ m, e.1.tm = e.2.p.f0) (blk : Int) (i : ByteArray) : ((pts i (ofB blk m)).map (·.f0)).Nodup := by
  unfold pts ofB
  rw [List.map_map, List.filter_filter]
  have h1 : (m.filter (fun e => (decide (e.1.idn = i)) && (e.1.blk == blk))).Pairwise (fun a b => a.1 ≠ b.1) := (List.pairwise_map.1 hn).sublist List.filter_sublist
  refine List.pairwise_map.2 (h1.imp_of_mem (fun {a b} ha hb hne he => hne ?_))
  obtain ⟨ha1, ha2⟩ := List.mem_filter.1 ha
  obtain ⟨hb1, hb2⟩ := List.mem_filter.1 hb
  simp only [Bool.and_eq_true, decide_eq_true_eq, beq_iff_eq] at ha2 hb2
  have h3 := hk a ha1
  have h4 := hk b hb1
  have he : a.2.p.f0 = b.2.p.f0 := he
  obtain ⟨⟨_, _, _⟩, _⟩ := a
  obtain ⟨⟨_, _, _⟩, _⟩ := b
  simp only at ha2 hb2 h3 h4 he ⊢
  rw [ha2.1, ha2.2, hb2.1, hb2.2, h3, h4, he]
theorem takeIs_unique {blk : Int} {m m' : Mp} {l l' : List S79} (h : TakeIs blk m l) (h' : TakeIs blk m' l') (hp : m.Perm m') (hn : (XM.keys m).Nodup) (hk : ∀ e ∈ m, e.1.tm = e.2.p.f0) : l = l' := by
  have hq : (ofB blk m).Perm (ofB blk m') := hp.filter _
  have hnames : l.map (·.f0) = l'.map (·.f0) := by
    refine List.Perm.eq_of_pairwise (le := leN) (fun a b _ _ h1 h2 => ?_) h.le h'.le ((List.perm_ext_iff_of_nodup h.nodup h'.nodup).2 (fun n => ?_))
    · have e := List.le_antisymm h1 h2
      exact ByteArray.ext (Array.toList_inj.1 e)
    · rw [h.names, h'.names]
      exact ⟨fun ⟨x, hx, e⟩ => ⟨x, hq.mem_iff.1 hx, e⟩, fun ⟨x, hx, e⟩ => ⟨x, hq.mem_iff.2 hx, e⟩⟩
  have hs : ∀ s ∈ l, ∀ s' ∈ l', s.f0 = s'.f0 → s = s' := by
    intro s hs s' hs' e
    obtain ⟨p1, u1⟩ := h.pts s hs
    obtain ⟨p2, u2⟩ := h'.pts s' hs'
    have p3 : s.f1.Perm s'.f1 := p1.trans (((hq.filter _).map _).trans (by rw [e]; exact p2.symm))
    have hd : (s.f1.map (·.f0)).Nodup := (p1.map _).nodup_iff.2 (pts_apart hn hk blk s.f0)
    have := upT_unique p3 u1 u2 hd
    obtain ⟨_, _⟩ := s
    obtain ⟨_, _⟩ := s'
    simp only at e this
    rw [e, this]
  clear h h' hq hp hn hk
  induction l generalizing l' with
  | nil => cases l' with
    | nil => rfl
    | cons _ _ => cases hnames
  | cons s r ih => cases l' with
    | nil => cases hnames
    | cons s' r' =>
      rw [List.map_cons, List.map_cons] at hnames
      injection hnames with e1 e2
      rw [hs s (by simp) s' (by simp) e1, ih e2 (fun a ha b hb => hs a (by simp [ha]) b (by simp [hb]))]
end Tk
end Go.Proofs.Ytmocpglnoehknaa

/- The document's Take as a fold of Add over a block's points, and that it tells what Take tells. -/
namespace Go.Proofs.Ytmocpglnoehknaa
open Go.RowKit Go.Proofs.YtmocpglnoehknaaW.PrintWords Go.Proofs.YtmocpglnoehknaaW.PrintLast Go.Proofs.YtmocpglnoehknaaW.PrintMore Go.Proofs.Ytmocpglnoehknaa.QT Go.Proofs.Ytmocpglnoehknaa.QS Go.Proofs.Ytmocpglnoehknaa.QR
namespace Tk
open Rf (One ent toMp)
open Buf (Mp Held pts)
def tstep (blk : Int) (l : List S79) (o : One) : List S79 := if o.f0 = blk then insS ins o.f1 o.f2 l else l
def takeR (blk : Int) (L : List One) : List S79 := L.foldl (tstep blk) []
theorem takeR_take {blk : Int} {L : List One} {i : Nat} (h : i < L.length) : takeR blk (L.take (i + 1)) = tstep blk (takeR blk (L.take i)) L[i] := by
  unfold takeR
  rw [List.take_succ_eq_append_getElem h, List.foldl_append]
  rfl
theorem TakeIs.nil (blk : Int) : TakeIs blk [] [] := ⟨List.Pairwise.nil, List.nodup_nil, by simp, by simp [ofB]⟩
theorem TakeIs.other {blk : Int} {m : Mp} {l : List S79} (h : TakeIs blk m l) {e : Buf.Place × Held} (he : e.1.blk ≠ blk) : TakeIs blk (m ++ [e]) l := by
  have h1 : ofB blk (m ++ [e]) = ofB blk m := by rw [ofB_append, ofB_none he, List.append_nil]
  exact ⟨h.le, h.nodup, by rw [h1]; exact h.pts, by rw [h1]; exact h.names⟩
theorem takeR_is0 (blk : Int) : ∀ (S P : List One) (l : List S79), TakeIs blk (toMp P) l → TakeIs blk (toMp (P ++ S)) (S.foldl (tstep blk) l)
  | [], P, l, h => by rw [List.append_nil]; exact h
  | o :: S, P, l, h => by
    have e : toMp (P ++ [o]) = toMp P ++ [ent o] := by unfold toMp; rw [List.map_append]; rfl
    have h1 : TakeIs blk (toMp (P ++ [o])) (tstep blk l o) := by
      rw [e]
      unfold tstep
      by_cases hb : o.f0 = blk
      · rw [if_pos hb]
        exact takeIs_step ins ins_perm ins_up h (ent o) hb
      · rw [if_neg hb]
        exact h.other hb
    have h2 := takeR_is0 blk S (P ++ [o]) _ h1
    rw [List.append_assoc, List.singleton_append] at h2
    rw [List.foldl_cons]
    exact h2
theorem takeR_is (blk : Int) (L : List One) : TakeIs blk (toMp L) (takeR blk L) := by
  have := takeR_is0 blk L [] [] (TakeIs.nil blk)
  exact this
theorem ofB_len (blk : Int) (m : Mp) : (ofB blk m).length ≤ m.length := by unfold ofB; exact List.length_filter_le _ _
theorem nodup_len {α : Type} [DecidableEq α] : ∀ {l m : List α}, l.Nodup → (∀ x ∈ l, x ∈ m) → l.length ≤ m.length
  | [], _, _, _ => Nat.zero_le _
  | x :: l, m, hn, hs => by
    obtain ⟨h1, h2⟩ := List.nodup_cons.1 hn
    have hx : x ∈ m := hs x List.mem_cons_self
    have h3 := nodup_len (m := m.erase x) h2 (fun y hy => (List.mem_erase_of_ne (fun e => h1 (by rw [← e]; exact hy))).2 (hs y (List.mem_cons_of_mem _ hy)))
    rw [List.length_erase_of_mem hx] at h3
    have := List.length_pos_of_mem hx
    rw [List.length_cons]
    omega
theorem takeIs_lens {blk : Int} {m : Mp} {l : List S79} (h : TakeIs blk m l) : (∀ s ∈ l, s.f1.length ≤ m.length) ∧ l.length ≤ m.length := by
  refine ⟨fun s hs => ?_, ?_⟩
  · have h1 := (h.pts s hs).1.length_eq
    have h2 := Buf.pts_len s.f0 (ofB blk m)
    have h3 := ofB_len blk m
    omega
  · have h1 : (l.map (·.f0)).length ≤ ((ofB blk m).map (·.1.idn)).length := by
      refine nodup_len h.nodup (fun n hn => ?_)
      obtain ⟨x, hx, e⟩ := (h.names n).1 hn
      exact List.mem_map.2 ⟨x, hx, e⟩
    rw [List.length_map, List.length_map] at h1
    have h3 := ofB_len blk m
    omega
/-- What Add asks of the points that are there. -/
theorem takeR_apart {blk : Int} {L : List One} (hn : (XM.keys (toMp L)).Nodup) {i : Nat} (h : i < L.length) (hb : L[i].f0 = blk) : ∀ s ∈ takeR blk (L.take i), s.f0 = L[i].f1 → ∀ q ∈ s.f1, q.f0 ≠ L[i].f2.f0 := by
  intro s hs hf q hq he
  have h1 := ((takeR_is blk (L.take i)).pts s hs).1.mem_iff.1 hq
  obtain ⟨e, he1, he2, he3⟩ := Buf.mem_pts.1 h1
  obtain ⟨he4, he5⟩ := List.mem_filter.1 he1
  obtain ⟨o, ho, rfl⟩ := List.mem_map.1 he4
  have hL : L = L.take i ++ L[i] :: L.drop (i + 1) := by rw [← List.drop_eq_getElem_cons h, List.take_append_drop]
  rw [hL] at hn
  unfold XM.keys toMp at hn
  rw [List.map_map, List.map_append, List.map_cons, List.nodup_append] at hn
  obtain ⟨_, _, h3⟩ := hn
  refine h3 (ent o).1 (List.mem_map.2 ⟨o, ho, rfl⟩) (ent L[i]).1 List.mem_cons_self ?_
  have e1 : o.f0 = blk := by simpa [ent] using he5
  have e2 : o.f1 = s.f0 := he2
  have e3 : o.f2 = q := he3
  unfold ent
  simp only [Buf.Place.mk.injEq]
  exact ⟨e1.trans hb.symm, e2.trans hf, by rw [e3]; exact he⟩
end Tk
end Go.Proofs.Ytmocpglnoehknaa

/- thermographref11.Buffer.Take: what it tells. -/
namespace Go.Proofs.Ytmocpglnoehknaa
set_option linter.unusedVariables false
set_option linter.unusedSimpArgs false
open Go.RowKit Go.Proofs.YtmocpglnoehknaaW.PrintWords Go.Proofs.YtmocpglnoehknaaW.PrintLast Go.Proofs.YtmocpglnoehknaaW.PrintMore Go.Proofs.Ytmocpglnoehknaa.QT Go.Proofs.Ytmocpglnoehknaa.QS Go.Proofs.Ytmocpglnoehknaa.QR
namespace Rf
open Tk (takeR tstep insS ins takeR_take takeR_apart takeIs_lens takeR_is add11_ev0)
theorem add_any (w : World) (v : Value) (l : List S79) (n : ByteArray) (p : S24) (hV : Kd.V k79 79 w 0 (fun _ => True) v l) (hl : l.length ≤ 1000000) (hd : ∀ s ∈ l, s.f1.length ≤ 1000000 ∧ (s.f0 = n → ∀ q ∈ s.f1, q.f0 ≠ p.f0)) :
    Calls Try.prog 35 #[v, .string n, .agg #[.int .i64 p.f0, .int .u64 p.f1, .int .u64 p.f2]] w fun e w' => ∃ v' : Value, e = .returned v' ∧ Kd.V k79 79 w' 0 (fun _ => True) v' (insS ins n p l) ∧ Below w.heap.size w w' := by
  obtain ⟨A, c, rfl⟩ := Kd.V_slice hV
  have h0 := add11_ev0 n p l [] l rfl hl hd
  have h1 : Ev (fun k => thermographref11_Add.f k l n p.f0 p.f1 p.f2) (insS ins n p l) := Ev.congr (fun k => by unfold thermographref11_Add.f; rfl) h0
  obtain ⟨k, hk⟩ := h1.rounds
  refine (thermographref11_Add.calls k (fun _ => True) A c l n p.f0 p.f1 p.f2 _ w hV hk).mono ?_
  rintro e w' ⟨v', rfl, hN, hB⟩
  exact ⟨v', rfl, Kd.V_mono (Kd.N_V hN) (fun _ _ => trivial), hB⟩
structure RT (w wr : World) (L : List One) (blk : Int) (i : Nat) (v6 : Value) : Prop where
  i1 : i ≤ L.length
  out : Kd.V k79 79 wr 0 (fun _ => True) v6 (takeR blk (L.take i))
  bel : Below w.heap.size w wr
theorem takeR_lens (blk : Int) (L : List One) (i : Nat) (hl : L.length ≤ 1000000) : (takeR blk (L.take i)).length ≤ 1000000 ∧ ∀ s ∈ takeR blk (L.take i), s.f1.length ≤ 1000000 := by
  obtain ⟨h1, h2⟩ := takeIs_lens (takeR_is blk (L.take i))
  have h3 : (toMp (L.take i)).length ≤ L.length := by unfold toMp; rw [List.length_map, List.length_take]; omega
  exact ⟨by omega, fun s hs => by have := h1 s hs; omega⟩
def RTake_r.T6 : Bool × List (List Nat × List Nat) := (true, [([], []), ([], []), ([1], [1]), ([2], [2]), ([3], [3]), ([], []), ([4, 5], [4, 5]), ([6], [6]), ([7], [7]), ([], []), ([9], [9]), ([10], [10]), ([11], [11]), ([], []), ([12, 13], [12, 13]), ([14], [14]), ([15], [15]), ([0, 8, 16], [0, 8, 16]), ([17, 17, 0, 1, 2, 3, 4, 5, 6, 7, 8, 9, 10, 11, 12, 13, 14, 15, 16, 17], [0, 17])])
def RTake_r.B6 : List Nat := [0, 0, 2, 6, 14, 0, 62, 126, 254, 0, 512, 1536, 3584, 0, 15872, 32256, 65024, 131071, 262143]
theorem RTake_r.tab6 : rtab .any (opsOf Try.f19 6) = RTake_r.T6 := by kernel_rfl
theorem RTake_r.bits6 : waitsOk RTake_r.T6.2 RTake_r.B6 = true := by kernel_rfl
set_option maxHeartbeats 2000000 in
set_option maxRecDepth 100000 in
theorem rtake_calls (w : World) (g : Nat) (L : List One) (n : Int) (h : Is w g L n) (hl : L.length ≤ 1000000) (hn : (XM.keys (toMp L)).Nodup) (blk : Int) :
    Calls Try.prog 19 #[.pointer (some ⟨g, 0, none⟩), .int .i64 blk] w fun e w' => ∃ v : Value, e = .returned (.tuple #[v, .int .i64 n]) ∧ Kd.V k79 79 w' 0 (fun _ => True) v (takeR blk L) ∧ Below w.heap.size w w' := by
  obtain ⟨v, hv, hR⟩ := h.blk
  obtain ⟨A, c, rfl⟩ := Kd.R_slice hR
  have HV := Lib.hid hv
  have HR := Lib.hid hR
  have HND := Lib.hid hn
  clear h hv hR hn
  go_enter Try.func19, Try.ntmps19
  go_wp2_with ((with_reducible refine gate_dst (N := 8) rfl ?_); refine Kd.R_lit k79 (w0 := w) w.heap.size 79 ?hg (N := 8) ?hd (xs := ([] : List S79)) (inner := []) (ok := fun _ => True) (okp := fun _ => True) ?hr ?hp (fun _ hk => hk) ?hf (Below.refl _ _) (Nat.le_refl _) (by simp) ?_; (case hd => rfl); (case hg => rfl); (case hr => first | (go_simp; done) | (go_simp; rfl)); (case hp => exact (Reps.none _ _)); (case hf => exact trivial); intro v3 w3 hR3 hB3 hg3 hn3; have HR3 := Lib.hid hR3; have HB3 := Lib.hid hB3; clear hR3 hB3 hg3 hn3)
  go_loopg [6, 7] L.length (fun gn v6 v7 wr => ∃ (i : Nat), v7 = .int .i64 (i : Int) ∧ Aside0 (gn = L.length - i) ∧ Aside0 (RT w wr L blk i v6))
  case atStart => exact ⟨0, rfl, ⟨rfl⟩, ⟨⟨Nat.zero_le _, Kd.R_V HR3.out, HB3.out⟩⟩⟩
  case round =>
    clear HR3 HB3
    obtain ⟨i, rfl, HN, HO⟩ := hrel
    have hvr := blk_below HV.out HO.out.bel
    have c0 : wr.cell? ⟨g, 0, none⟩ = some (.slice A L.length c) := (blk_cell hvr 0).trans rfl
    have c1 : wr.cell? ⟨g, 1, none⟩ = some (.int .i64 n) := (blk_cell hvr 1).trans rfl
    by_cases hi : i < L.length
    · have hi0 : (i : Int) < (L.length : Int) := by omega
      have hwr : wrap64 ((i : Int) + 1) = (i : Int) + 1 := by unfold wrap64; omega
      have hC := (Kd.R_reads' (Kd.R_below HR.out HO.out.bel)).2.2
      obtain ⟨ad, ead, q0, q1, q2, q3, q4, q5⟩ := at_T54 hC (i : Int) (by omega) hi0
      cases ead
      have hto : ((i : Int)).toNat = i := Int.toNat_natCast i
      rw [hto] at q0 q1 q2 q3 q4 q5
      obtain ⟨o, ho⟩ : ∃ o, rd_T54 L (i : Int) = o := ⟨_, rfl⟩
      rw [ho] at q0 q1 q2 q3 q4 q5
      have hLi : L[i] = o := by rw [← ho, rd54 hi]
      have htk := takeR_take (blk := blk) hi
      have hap : o.f0 = blk → ∀ s ∈ takeR blk (L.take i), s.f0 = o.f1 → ∀ q ∈ s.f1, q.f0 ≠ o.f2.f0 := by
        intro hb
        have := takeR_apart (blk := blk) HND.out hi (by rw [hLi, hb])
        rw [hLi] at this
        exact this
      rw [hLi] at htk
      obtain ⟨hl1, hl2⟩ := takeR_lens blk L i hl
      have HTK := Lib.hid htk
      have HQ := Lib.hid (And.intro c0 (And.intro q1 (And.intro q2 (And.intro q3 q4))))
      by_cases hb : o.f0 = blk
      · have hb1 : (o.f0 == blk) = true := by simpa using hb
        have hadd := fun (W : World) (hW : Below wr.heap.size wr W) => add_any W u6 (takeR blk (L.take i)) o.f1 o.f2 (Kd.V_below HO.out.out hW) hl1 (fun s hs => ⟨hl2 s hs, hap hb s hs⟩)
        have HADD := Lib.hid hadd
        have HB := Lib.hid hb
        clear hvr hC ho hto hLi htk hap hl1 hl2 hadd hb
        go_wp2_with fail
        refine start_ (n := 19) (S := fun w' => w'.cell? ⟨g, 0, none⟩ = some (.slice (some ad) L.length c) ∧ w'.cell? ⟨(ad.add (i * 6)).block, (ad.add (i * 6)).off + 1, none⟩ = some (.string o.f1) ∧ w'.cell? ⟨(ad.add (i * 6)).block, (ad.add (i * 6)).off + 2, none⟩ = some (.int .i64 o.f2.f0) ∧ w'.cell? ⟨(ad.add (i * 6)).block, (ad.add (i * 6)).off + 3, none⟩ = some (.int .u64 o.f2.f1) ∧ w'.cell? ⟨(ad.add (i * 6)).block, (ad.add (i * 6)).off + 4, none⟩ = some (.int .u64 o.f2.f2)) (ds := [17]) #[false, false, false, false, false, false, false, false, false, false, false, false, false, false, false, false, false, false, false] (by kernel_rfl) rfl rfl ⟨c0, q1, q2, q3, q4⟩ (fun hHeld => ?_)
        refine with_tabW RTake_r.tab6 RTake_r.bits6 (fun HT_ HW_ => ?_)
        refine pure_ (i := 0) (N := some 28) (v := ?_) (a' := ?_) #[true, false, false, false, false, false, false, false, false, false, false, false, false, false, false, false, false, false, false] rfl rfl (any_of HT_.out (by kernel_rfl)) (fun _ _ _ h => h) (Or.inl ⟨by rfl, ?_⟩) ?_ ?_
        rotate_left
        · intro w'
          go_simp
          with_reducible rfl
        rotate_left
        · simp only [Act.put, List.setIfInBounds_toArray, List.set_cons_zero, List.set_cons_succ, i64_w, i32_w]
          rfl
        refine pure_ (i := 1) (N := some 29) (v := ?_) (a' := ?_) #[true, true, false, false, false, false, false, false, false, false, false, false, false, false, false, false, false, false, false] rfl rfl (any_of HT_.out (by kernel_rfl)) (fun _ _ _ h => h) (Or.inl ⟨by rfl, ?_⟩) ?_ ?_
        rotate_left
        · intro w'
          go_simp
          with_reducible rfl
        rotate_left
        · simp only [Act.put, List.setIfInBounds_toArray, List.set_cons_zero, List.set_cons_succ, i64_w, i32_w]
          rfl
        refine pure_ (i := 2) (N := some 30) (v := ?_) (a' := ?_) #[true, true, true, false, false, false, false, false, false, false, false, false, false, false, false, false, false, false, false] rfl rfl (any_of HT_.out (by kernel_rfl)) (fun _ _ _ h => h) (Or.inl ⟨by rfl, ?_⟩) ?_ ?_
        rotate_left
        · intro w'
          go_simp
          with_reducible rfl
        rotate_left
        · simp only [Act.put, List.setIfInBounds_toArray, List.set_cons_zero, List.set_cons_succ, i64_w, i32_w]
          rfl
        refine pure_ (i := 3) (N := some 31) (v := ?_) (a' := ?_) #[true, true, true, true, false, false, false, false, false, false, false, false, false, false, false, false, false, false, false] rfl rfl (any_of HT_.out (by kernel_rfl)) (fun _ _ _ h => h) (Or.inl ⟨by rfl, ?_⟩) ?_ ?_
        rotate_left
        · intro w'
          go_simp
          with_reducible rfl
        rotate_left
        · simp only [Act.put, List.setIfInBounds_toArray, List.set_cons_zero, List.set_cons_succ, i64_w, i32_w]
          rfl
        refine pure_ (i := 5) (N := some 33) (v := ?_) (a' := ?_) #[true, true, true, true, false, true, false, false, false, false, false, false, false, false, false, false, false, false, false] rfl rfl (any_of HT_.out (by kernel_rfl)) (fun _ _ _ h => h) (Or.inl ⟨by rfl, ?_⟩) ?_ ?_
        rotate_left
        · intro w'
          go_simp
          with_reducible rfl
        rotate_left
        · simp only [Act.put, List.setIfInBounds_toArray, List.set_cons_zero, List.set_cons_succ, i64_w, i32_w]
          rfl
        refine pure_ (i := 9) (N := some 37) (v := ?_) (a' := ?_) #[true, true, true, true, false, true, false, false, false, true, false, false, false, false, false, false, false, false, false] rfl rfl (any_of HT_.out (by kernel_rfl)) (fun _ _ _ h => h) (Or.inl ⟨by rfl, ?_⟩) ?_ ?_
        rotate_left
        · intro w'
          go_simp
          with_reducible rfl
        rotate_left
        · simp only [Act.put, List.setIfInBounds_toArray, List.set_cons_zero, List.set_cons_succ, i64_w, i32_w]
          rfl
        refine pure_ (i := 10) (N := some 38) (v := ?_) (a' := ?_) #[true, true, true, true, false, true, false, false, false, true, true, false, false, false, false, false, false, false, false] rfl rfl (any_of HT_.out (by kernel_rfl)) (fun _ _ _ h => h) (Or.inl ⟨by rfl, ?_⟩) ?_ ?_
        rotate_left
        · intro w'
          go_simp
          with_reducible rfl
        rotate_left
        · simp only [Act.put, List.setIfInBounds_toArray, List.set_cons_zero, List.set_cons_succ, i64_w, i32_w]
          rfl
        refine pure_ (i := 11) (N := some 39) (v := ?_) (a' := ?_) #[true, true, true, true, false, true, false, false, false, true, true, true, false, false, false, false, false, false, false] rfl rfl (any_of HT_.out (by kernel_rfl)) (fun _ _ _ h => h) (Or.inl ⟨by rfl, ?_⟩) ?_ ?_
        rotate_left
        · intro w'
          go_simp
          with_reducible rfl
        rotate_left
        · simp only [Act.put, List.setIfInBounds_toArray, List.set_cons_zero, List.set_cons_succ, i64_w, i32_w]
          rfl
        refine pure_ (i := 13) (N := some 41) (v := ?_) (a' := ?_) #[true, true, true, true, false, true, false, false, false, true, true, true, false, true, false, false, false, false, false] rfl rfl (any_of HT_.out (by kernel_rfl)) (fun _ _ _ h => h) (Or.inl ⟨by rfl, ?_⟩) ?_ ?_
        rotate_left
        · intro w'
          go_simp
          with_reducible rfl
        rotate_left
        · simp only [Act.put, List.setIfInBounds_toArray, List.set_cons_zero, List.set_cons_succ, i64_w, i32_w]
          rfl
        refine take_ (i := 4) (N := some 32) (v := ?_) (a' := ?_) #[true, true, true, true, true, true, false, false, false, true, true, true, false, true, false, false, false, false, false] rfl rfl (take_ofW HT_.out HW_.out (by kernel_rfl)) (fun _ _ _ h => h) (Or.inl ⟨by rfl, ?_⟩) hHeld ?_ ?_
        rotate_left
        · rintro w' ⟨s0, s1, s2, s3, s4⟩
          go_simp
          with_reducible rfl
        rotate_left
        · simp only [Act.put, List.setIfInBounds_toArray, List.set_cons_zero, List.set_cons_succ, i64_w, i32_w]
          rfl
        refine pure_ (i := 6) (N := some 34) (v := ?_) (a' := ?_) #[true, true, true, true, true, true, true, false, false, true, true, true, false, true, false, false, false, false, false] rfl rfl (any_of HT_.out (by kernel_rfl)) (fun _ _ _ h => h) (Or.inl ⟨by rfl, ?_⟩) ?_ ?_
        rotate_left
        · intro w'
          go_simp
          with_reducible rfl
        rotate_left
        · simp only [Act.put, List.setIfInBounds_toArray, List.set_cons_zero, List.set_cons_succ, i64_w, i32_w]
          rfl
        refine pure_ (i := 7) (N := some 35) (v := ?_) (a' := ?_) #[true, true, true, true, true, true, true, true, false, true, true, true, false, true, false, false, false, false, false] rfl rfl (any_of HT_.out (by kernel_rfl)) (fun _ _ _ h => h) (Or.inl ⟨by rfl, ?_⟩) ?_ ?_
        rotate_left
        · intro w'
          go_simp
          with_reducible rfl
        rotate_left
        · simp only [Act.put, List.setIfInBounds_toArray, List.set_cons_zero, List.set_cons_succ, i64_w, i32_w]
          rfl
        refine take_ (i := 8) (N := some 36) (v := ?_) (a' := ?_) #[true, true, true, true, true, true, true, true, true, true, true, true, false, true, false, false, false, false, false] rfl rfl (take_ofW HT_.out HW_.out (by kernel_rfl)) (fun _ _ _ h => h) (Or.inl ⟨by rfl, ?_⟩) hHeld ?_ ?_
        rotate_left
        · rintro w' ⟨s0, s1, s2, s3, s4⟩
          go_simp
          with_reducible rfl
        rotate_left
        · simp only [Act.put, List.setIfInBounds_toArray, List.set_cons_zero, List.set_cons_succ, i64_w, i32_w]
          rfl
        refine take_ (i := 12) (N := some 40) (v := ?_) (a' := ?_) #[true, true, true, true, true, true, true, true, true, true, true, true, true, true, false, false, false, false, false] rfl rfl (take_ofW HT_.out HW_.out (by kernel_rfl)) (fun _ _ _ h => h) (Or.inl ⟨by rfl, ?_⟩) hHeld ?_ ?_
        rotate_left
        · rintro w' ⟨s0, s1, s2, s3, s4⟩
          go_simp
          with_reducible rfl
        rotate_left
        · simp only [Act.put, List.setIfInBounds_toArray, List.set_cons_zero, List.set_cons_succ, i64_w, i32_w]
          rfl
        refine pure_ (i := 14) (N := some 42) (v := ?_) (a' := ?_) #[true, true, true, true, true, true, true, true, true, true, true, true, true, true, true, false, false, false, false] rfl rfl (any_of HT_.out (by kernel_rfl)) (fun _ _ _ h => h) (Or.inl ⟨by rfl, ?_⟩) ?_ ?_
        rotate_left
        · intro w'
          go_simp
          with_reducible rfl
        rotate_left
        · simp only [Act.put, List.setIfInBounds_toArray, List.set_cons_zero, List.set_cons_succ, i64_w, i32_w]
          rfl
        refine pure_ (i := 15) (N := some 43) (v := ?_) (a' := ?_) #[true, true, true, true, true, true, true, true, true, true, true, true, true, true, true, true, false, false, false] rfl rfl (any_of HT_.out (by kernel_rfl)) (fun _ _ _ h => h) (Or.inl ⟨by rfl, ?_⟩) ?_ ?_
        rotate_left
        · intro w'
          go_simp
          with_reducible rfl
        rotate_left
        · simp only [Act.put, List.setIfInBounds_toArray, List.set_cons_zero, List.set_cons_succ, i64_w, i32_w]
          rfl
        refine take_ (i := 16) (N := some 44) (v := ?_) (a' := ?_) #[true, true, true, true, true, true, true, true, true, true, true, true, true, true, true, true, true, false, false] rfl rfl (take_ofW HT_.out HW_.out (by kernel_rfl)) (fun _ _ _ h => h) (Or.inl ⟨by rfl, ?_⟩) hHeld ?_ ?_
        rotate_left
        · rintro w' ⟨s0, s1, s2, s3, s4⟩
          go_simp
          with_reducible rfl
        rotate_left
        · simp only [Act.put, List.setIfInBounds_toArray, List.set_cons_zero, List.set_cons_succ, i64_w, i32_w]
          rfl
        refine last_ (i := 17) (N := some 45) #[true, true, true, true, true, true, true, true, true, true, true, true, true, true, true, true, true, true, false] rfl rfl (one_of HT_.out (by kernel_rfl)) (by decide) (fun K hK => ?_)
        refine goes_ Try.func35 (by kernel_rfl) rfl #[u6, .string o.f1, .agg #[.int .i64 o.f2.f0, .int .u64 o.f2.f1, .int .u64 o.f2.f2]] (by rfl) rfl rfl (by simp only [List.map_toArray, List.map_cons, List.map_nil]; rfl) ?_
        with_reducible refine ((HADD.out _ (below_drew (Below.refl _ _)))).mono ?_
        rintro e w9 ⟨v9, rfl, hV9, hB9⟩
        refine ⟨_, rfl, ?_⟩
        have HV9 := Lib.hid hV9
        have HB9 := Lib.hid hB9
        clear hV9 hB9
        refine hK.out _ _ ?_
        clear hK K
        refine norm_ (a' := ?_) ?_ ?_
        rotate_left
        · show Act.put _ (some 45) _ = _
          simp only [Act.put, List.setIfInBounds_toArray, List.set_cons_zero, List.set_cons_succ, i64_w, i32_w]
          rfl
        refine pure_ (i := 18) (N := some 6) (v := ?_) (a' := ?_) #[true, true, true, true, true, true, true, true, true, true, true, true, true, true, true, true, true, true, true] rfl rfl (any_of HT_.out (by kernel_rfl)) (fun _ _ _ h => h) (Or.inl ⟨by rfl, ?_⟩) ?_ ?_
        rotate_left
        · intro w'
          go_simp
          with_reducible rfl
        rotate_left
        · simp only [Act.put, List.setIfInBounds_toArray, List.set_cons_zero, List.set_cons_succ, i64_w, i32_w]
          rfl
        refine done_ (done_of HT_.out (by kernel_rfl)) ?_
        go_wp2_with fail
        go_roundg (L.length - (i + 1))
        case measure => have := HN.out; omega
        case rel => exact ⟨i + 1, by first | (simp [hwr]; done) | (simp; done), ⟨rfl⟩, ⟨⟨hi, by rw [HTK.out]; unfold tstep; rw [if_pos HB.out]; exact HV9.out, below_then (below_drew HO.out.bel) HO.out.bel.size HB9.out⟩⟩⟩
      · have hb1 : (o.f0 == blk) = false := by simpa using hb
        have HB := Lib.hid hb
        clear hvr hC ho hto hLi htk hap hl1 hl2 hb
        go_wp2_with fail
        go_roundg (L.length - (i + 1))
        case measure => have := HN.out; omega
        case rel => exact ⟨i + 1, by first | (simp [hwr]; done) | (simp; done), ⟨rfl⟩, ⟨⟨hi, by rw [HTK.out]; unfold tstep; rw [if_neg HB.out]; exact HO.out.out, HO.out.bel⟩⟩⟩
    · have hge : ¬ (i : Int) < (L.length : Int) := by omega
      have hie : i = L.length := by have := HO.out.i1; omega
      obtain ⟨A6, c6, rfl⟩ := Kd.V_slice HO.out.out
      have hO := HO.out
      rw [hie] at hO
      obtain ⟨K, hK⟩ : ∃ K, K = takeR blk L := ⟨_, rfl⟩
      have hV := hO.out
      have hBl := hO.bel
      rw [List.take_length] at hV
      rw [← hK] at hV
      have HVK := Lib.hid hV
      have HBL := Lib.hid hBl
      have HKK := Lib.hid hK
      clear hO hV hBl hvr hK HO
      go_wp2_with fail
      go_region
      all_goals
        go_wp2_with fail
        go_ret2
        exact ⟨_, rfl, HKK.out ▸ Kd.V_drew HVK.out, below_drew HBL.out⟩
end Rf
end Go.Proofs.Ytmocpglnoehknaa

/- buffer.Take, whatever the block. -/
namespace Go.Proofs.Ytmocpglnoehknaa
open Go.RowKit Go.Proofs.YtmocpglnoehknaaW.PrintWords Go.Proofs.YtmocpglnoehknaaW.PrintLast Go.Proofs.YtmocpglnoehknaaW.PrintMore Go.Proofs.Ytmocpglnoehknaa.QT Go.Proofs.Ytmocpglnoehknaa.QS
namespace Tk
open Buf (Mp)
theorem take_calls (w : World) (g b : Nat) (m : Mp) (ver : Int) (h : Buf.Is w g b m ver) (blk : Int) (hm : m.length ≤ 1000000) (hsz : ∀ e ∈ m, e.1.idn.size ≤ maxLen) :
    Calls Try.prog 18 #[.pointer (some ⟨g, 0, none⟩), .int .i64 blk] w fun e w' => ∃ (v : Value) (l : List S79), e = .returned (.tuple #[v, .int .i64 ver]) ∧ TakeIs blk m l ∧ Kd.R k79 79 w' w.heap.size (fun _ => True) v l ∧ Below w.heap.size w w' := by
  by_cases hne : ofB blk m = []
  · have hn : ∀ e ∈ m, e.1.blk ≠ blk := by
      intro e he hb
      have : e ∈ ofB blk m := List.mem_filter.2 ⟨he, by simpa using hb⟩
      rw [hne] at this
      cases this
    refine (Buf.take_none w g b m ver h blk hn).mono ?_
    rintro e w' ⟨rfl, hB⟩
    exact ⟨_, [], rfl, ⟨List.Pairwise.nil, List.nodup_nil, by simp, by simp [hne]⟩, Kd.R_nil _ _ _ _ _, hB⟩
  · exact take_some w g b m ver h blk hm hsz hne
end Tk
end Go.Proofs.Ytmocpglnoehknaa

/- Both buffers, the program's and the document's, one beside the other: they hold the same points, whatever is written, taken and done. -/
namespace Go.Proofs.Ytmocpglnoehknaa
set_option linter.unusedVariables false
set_option linter.unusedSimpArgs false
open Go.RowKit Go.Proofs.YtmocpglnoehknaaW.PrintWords Go.Proofs.YtmocpglnoehknaaW.PrintLast Go.Proofs.YtmocpglnoehknaaW.PrintMore Go.Proofs.Ytmocpglnoehknaa.QT
open Go.Proofs.Ytmocpglnoehknaa.QS (S79 k79 rd_T79 z79 thermographlaw11_sameSeries.l0 thermographlaw11_sameSeries.f thermographlaw11_sameSeries.calls)
open Go.Proofs.Ytmocpglnoehknaa.QR (S54 k54)
namespace Both
open Buf (Mp Held Fr)
open Rf (One toMp wrR ent)
/-! #### sameSeries at two rows of one list -/
theorem same2_ev0 (l : List S24) (hn : l.length ≤ 1099511627776) : ∀ (R P : List S24), l = P ++ R → Ev (fun k => QS.thermographlaw11_same.l0 k l l (P.length : Int)) true
  | [], P, hl => by
    simp only [List.append_nil] at hl
    have hln : l.length = P.length := by rw [hl]
    refine Ev.step (f := fun _ => some true) (fun k => ?_) (Ev.now _)
    rw [QS.thermographlaw11_same.l0, if_neg (by omega)]
  | x :: R, P, hl => by
    have e : rd_T24 l (P.length : Int) = x := by rw [hl]; exact Vw.rd_mid' P R x _ rfl
    have hln : l.length = P.length + R.length + 1 := by rw [hl]; simp; omega
    have ih := same2_ev0 l hn R (P ++ [x]) (by rw [hl]; simp)
    rw [List.length_append, List.length_singleton] at ih
    refine Ev.step (fun k => ?_) ih
    rw [QS.thermographlaw11_same.l0, if_pos (by omega), if_pos (by omega), if_pos (by omega), e, if_neg (by simp), Vw.w1 _ (by omega)]
theorem same2_ev (l : List S24) (hn : l.length ≤ 1099511627776) : Ev (fun k => QS.thermographlaw11_same.f k l l) true := by
  refine Ev.congr (fun k => ?_) (same2_ev0 l hn l [] rfl)
  unfold QS.thermographlaw11_same.f
  rw [if_pos rfl]
  rfl
theorem sameS_ev0 (l : List S79) (hn : l.length ≤ 1000000) (hp : ∀ s ∈ l, s.f1.length ≤ 1000000) : ∀ (R P : List S79), l = P ++ R → Ev (fun k => thermographlaw11_sameSeries.l0 k l l (P.length : Int)) true
  | [], P, hl => by
    simp only [List.append_nil] at hl
    have hln : l.length = P.length := by rw [hl]
    refine Ev.step (f := fun _ => some true) (fun k => ?_) (Ev.now _)
    rw [thermographlaw11_sameSeries.l0, if_neg (by omega)]
  | x :: R, P, hl => by
    have e : rd_T79 l (P.length : Int) = x := by rw [hl]; exact Tk.rd79_mid P R x _ rfl
    have hln : l.length = P.length + R.length + 1 := by rw [hl]; simp; omega
    have ih := sameS_ev0 l hn hp R (P ++ [x]) (by rw [hl]; simp)
    rw [List.length_append, List.length_singleton] at ih
    have hx := hp x (by rw [hl]; simp)
    refine Ev.step (f := fun k => (QS.thermographlaw11_same.f k x.f1 x.f1).bind fun t107 => if t107 = true then thermographlaw11_sameSeries.l0 k l l (wrap64 ((P.length : Int) + 1)) else some false) (fun k => ?_) (Ev.bind (f := fun k (t107 : Bool) => if t107 = true then thermographlaw11_sameSeries.l0 k l l (wrap64 ((P.length : Int) + 1)) else some false) (same2_ev x.f1 (by omega)) (Ev.congr (fun k => by rw [if_pos rfl, Vw.w1 _ (by omega)]) ih))
    rw [thermographlaw11_sameSeries.l0, if_pos (by omega), if_pos (by omega), if_pos (by omega), e, if_pos rfl]
theorem sameS_any {X : World} {b1 b2 : Nat} {o1 o2 : Nat → Prop} {v1 v2 : Value} {l : List S79} (h1 : Kd.V k79 79 X b1 o1 v1 l) (h2 : Kd.V k79 79 X b2 o2 v2 l) (hn : l.length ≤ 1000000) (hp : ∀ s ∈ l, s.f1.length ≤ 1000000) :
    Calls Try.prog 20 #[v1, v2] X fun e w' => e = .returned (.bool true) ∧ Below X.heap.size X w' := by
  obtain ⟨A1, c1, rfl⟩ := Kd.V_slice h1
  obtain ⟨A2, c2, rfl⟩ := Kd.V_slice h2
  obtain ⟨_, hc1, hC1⟩ := Kd.V_reads' h1
  obtain ⟨_, hc2, hC2⟩ := Kd.V_reads' h2
  have h : Ev (fun k => thermographlaw11_sameSeries.f k l l) true := by
    refine Ev.congr (fun k => ?_) (sameS_ev0 l hn hp l [] rfl)
    unfold thermographlaw11_sameSeries.f
    rw [if_pos rfl]
    rfl
  obtain ⟨k, hk⟩ := h.rounds
  exact (thermographlaw11_sameSeries.calls k A1 c1 l A2 c2 l true X hC1 hc1 hC2 hc2 hk).mono fun e w' ⟨he, hd⟩ => ⟨he, hd.below⟩
/-! #### both -/
structure Two (w : World) (g b gr : Nat) (m : Mp) (L : List One) (v : Int) : Prop where
  bi : Buf.Is w g b m v
  ri : Rf.Is w gr L v
  pm : m.Perm (toMp L)
  kt : ∀ e ∈ m, e.1.tm = e.2.p.f0
  sz : ∀ e ∈ m, e.1.idn.size ≤ maxLen
theorem Two.nd {w : World} {g b gr : Nat} {m : Mp} {L : List One} {v : Int} (h : Two w g b gr m L v) : (XM.keys m).Nodup := XM.MapIs.nodup h.bi.2
theorem Two.ndL {w : World} {g b gr : Nat} {m : Mp} {L : List One} {v : Int} (h : Two w g b gr m L v) : (XM.keys (toMp L)).Nodup := (h.pm.map _).nodup_iff.1 h.nd
theorem Two.len {w : World} {g b gr : Nat} {m : Mp} {L : List One} {v : Int} (h : Two w g b gr m L v) : L.length = m.length := by
  have := h.pm.length_eq
  unfold toMp at this
  rw [List.length_map] at this
  exact this.symm
theorem Two.below {w w' : World} {g b gr : Nat} {m : Mp} {L : List One} {v : Int} (h : Two w g b gr m L v) (hb : Below w.heap.size w w') : Two w' g b gr m L v := ⟨h.bi.below hb, h.ri.below hb, h.pm, h.kt, h.sz⟩
theorem ne_of {w : World} {g b gr : Nat} {m : Mp} {L : List One} {v n : Int} (h : Buf.Is w g b m v) (k : Rf.Is w gr L n) : gr ≠ g ∧ gr ≠ b := by
  obtain ⟨_, hv, _⟩ := k.blk
  refine ⟨fun e => ?_, fun e => (h.2.noCells hv) e.symm⟩
  have := h.1
  rw [← e, hv] at this
  cases this
theorem ri_other {w w' : World} {g b gr : Nat} {m : Mp} {L : List One} {v n : Int} (h : Buf.Is w g b m v) (k : Rf.Is w gr L n) (f : Fr g b w w') : Rf.Is w' gr L n := by
  obtain ⟨h1, h2⟩ := ne_of h k
  obtain ⟨v0, hv, hR⟩ := k.blk
  refine ⟨v0, (f.block gr (blk_lt hv) h1 h2).trans hv, Kd.R_mono (Kd.R_step (Kd.R_bound hR) (fun j hj hlt => f.block j hlt ?_ ?_)) (fun _ hk => hk.1)⟩
  · obtain ⟨_, _, _, q, hq, cs, hc⟩ := hj
    rintro rfl
    have := h.1
    rw [hc] at this
    have hq2 : q = 54 := by
      have : k54.E = [] := rfl
      rw [this] at hq
      exact List.mem_singleton.1 hq
    subst hq2
    cases this
  · obtain ⟨_, _, _, q, hq, cs, hc⟩ := hj
    exact fun e => (h.2.noCells hc) e.symm
theorem bi_other {w w' : World} {g b gr : Nat} {m : Mp} {L : List One} {v n : Int} (h : Buf.Is w g b m v) (k : Rf.Is w gr L n) (f : Fr gr gr w w') : Buf.Is w' g b m v := by
  obtain ⟨h1, h2⟩ := ne_of h k
  exact h.other f h1.symm h1.symm h2.symm h2.symm
theorem wr_keeps {m : Mp} (kt : ∀ e ∈ m, e.1.tm = e.2.p.f0) (sz : ∀ e ∈ m, e.1.idn.size ≤ maxLen) (blk : Int) (idn : ByteArray) (p : S24) (v : Int) (hk : idn.size ≤ maxLen) : (∀ e ∈ Buf.wr m blk idn p v, e.1.tm = e.2.p.f0) ∧ ∀ e ∈ Buf.wr m blk idn p v, e.1.idn.size ≤ maxLen := by
  have h1 : ∀ e ∈ XM.aput m ⟨blk, idn, p.f0⟩ (⟨p, v⟩ : Held), e.1.tm = e.2.p.f0 ∧ e.1.idn.size ≤ maxLen := by
    intro e he
    rcases XM.mem_aput he with he | rfl
    · exact ⟨kt e he, sz e he⟩
    · exact ⟨rfl, hk⟩
  unfold Buf.wr
  split
  · exact ⟨fun e he => (h1 e he).1, fun e he => (h1 e he).2⟩
  · split
    · exact ⟨fun e he => (h1 e he).1, fun e he => (h1 e he).2⟩
    · exact ⟨kt, sz⟩
theorem Two.wrote {w w1 w2 : World} {g b gr : Nat} {m : Mp} {L : List One} {v : Int} (h : Two w g b gr m L v) (blk : Int) (idn : ByteArray) (p : S24) (hk : idn.size ≤ maxLen) (h1 : Buf.Is w1 g b (Buf.wr m blk idn p (v + 1)) (v + 1)) (h2 : Rf.Is w1 gr L v) (h3 : Rf.Is w2 gr (wrR blk idn p (v + 1) L) (v + 1)) (f : Fr gr gr w1 w2) : Two w2 g b gr (Buf.wr m blk idn p (v + 1)) (wrR blk idn p (v + 1) L) (v + 1) := by
  obtain ⟨k1, k2⟩ := wr_keeps h.kt h.sz blk idn p (v + 1) hk
  exact ⟨bi_other h1 h2 f, h3, Rf.rel_write h.pm h.nd blk idn p (v + 1), k1, k2⟩
theorem Two.did {w w1 w2 : World} {g b gr : Nat} {m : Mp} {L : List One} {v : Int} (h : Two w g b gr m L v) (blk x : Int) (h1 : Buf.Is w1 g b (m.filter (Buf.keepE blk x)) v) (h2 : Rf.Is w1 gr L v) (h3 : Rf.Is w2 gr (L.filter (Rf.keepO blk x)) v) (f : Fr gr gr w1 w2) : Two w2 g b gr (m.filter (Buf.keepE blk x)) (L.filter (Rf.keepO blk x)) v :=
  ⟨bi_other h1 h2 f, h3, Rf.rel_done h.pm blk x, fun e he => h.kt e (List.mem_filter.1 he).1, fun e he => h.sz e (List.mem_filter.1 he).1⟩
theorem done_same {m : Mp} {L : List One} (h : m.Perm (toMp L)) (blk x : Int) : (m.filter (Buf.keepE blk x)).length = (L.filter (Rf.keepO blk x)).length := by
  have := (Rf.rel_done h blk x).length_eq
  unfold toMp at this
  rw [List.length_map] at this
  exact this
/-- What both tell of a block is the same. -/
theorem Two.take {w : World} {g b gr : Nat} {m : Mp} {L : List One} {v : Int} (h : Two w g b gr m L v) {blk : Int} {l : List S79} (hl : Tk.TakeIs blk m l) : l = Tk.takeR blk L :=
  Tk.takeIs_unique hl (Tk.takeR_is blk L) h.pm h.nd h.kt
end Both
end Go.Proofs.Ytmocpglnoehknaa
