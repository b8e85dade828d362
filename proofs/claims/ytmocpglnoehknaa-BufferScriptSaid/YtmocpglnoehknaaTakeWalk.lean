/- buffer.Take: a block's points, name by name, by times. -/
import Derived.Test.YtmocpglnoehknaaTakeMaps
import Derived.Test.YtmocpglnoehknaaSeriesT
import Derived.Deep.Cut
namespace Go.Proofs.Ytmocpglnoehknaa
set_option linter.unusedVariables false
set_option linter.unusedSimpArgs false
open Go.RowKit Go.Proofs.YtmocpglnoehknaaW.PrintWords Go.Proofs.YtmocpglnoehknaaW.PrintLast Go.Proofs.YtmocpglnoehknaaW.PrintMore Go.Proofs.Ytmocpglnoehknaa.QT Go.Proofs.Ytmocpglnoehknaa.QS
namespace Tk
open Buf (Mp Held pts ekP evH)
theorem GI.look' {w w1 : World} {mb base : Nat} {blk : Int} {done : Mp} {gm : Gm} (h : GI w mb base blk done gm) (i : ByteArray) (hi : i.size ≤ maxLen) (hg : w.grownBy w1 (cur gm i).1.ownBlock) : (Instr.lookup 70 (.map (some mb)) (.string i) false).run Try.prog w1 = .ok (cur gm i).1 w1 := by
  have hmb : some mb ≠ (cur gm i).1.ownBlock := by
    intro e
    obtain ⟨c, hc⟩ := R24_cells (h.cur_R i) mb e.symm
    exact XM.MapIs.noCells h.map hc rfl
  have hm1 : GM w1 mb gm := XM.MapIs.kept h.map hg hmb
  unfold cur
  cases hg : XM.aget gm i with
  | none => exact XM.MapIs.look_none hm1 encS Try.underlying70 (zSl w1) (isKS i hi) false hg
  | some v => exact XM.MapIs.look_some hm1 encS Try.underlying70 (isKS i hi) false hg
/-- By rising times. -/
def UpT (l : List S24) : Prop := l.Pairwise (fun a b => ¬ b.f0 < a.f0)
/-- What Take tells of a block: its names by rising order, each with its points by rising times. -/
structure TakeIs (blk : Int) (m : Mp) (l : List S79) : Prop where
  le : (l.map (·.f0)).Pairwise leN
  nodup : (l.map (·.f0)).Nodup
  pts : ∀ s ∈ l, s.f1.Perm (pts s.f0 (ofB blk m)) ∧ UpT s.f1
  names : ∀ n, n ∈ l.map (·.f0) ↔ ∃ x ∈ ofB blk m, x.1.idn = n
theorem R_cells {α : Type} {d : Kd α} {e : Nat} {w : World} {base : Nat} {ok : Nat → Prop} {v : Value} {xs : List α} (h : d.R e w base ok v xs) : ∀ k, v.ownBlock = some k → ∃ cur, w.heap[k]? = some (.cells cur e (0, 0)) := by
  intro k hk
  obtain ⟨inner, ho⟩ := Kd.R_own h
  rcases ho with ⟨_, ⟨rfl, _⟩ | ⟨gb, cap, cur, rfl, _, hh, _⟩⟩
  · cases hk
  · have : gb = k := by simpa [Value.ownBlock] using hk
    subst this
    exact ⟨cur, hh⟩
/-- A row that is not empty is no nil slice. -/
theorem R_some {α : Type} {d : Kd α} {e : Nat} {w : World} {base : Nat} {ok : Nat → Prop} {v : Value} {xs : List α} (h : d.R e w base ok v xs) (hn : xs ≠ []) : ∃ gb cap, v = .slice (some ⟨gb, 0, none⟩) xs.length cap := by
  obtain ⟨inner, ho⟩ := Kd.R_own h
  rcases ho with ⟨_, ⟨rfl, h0⟩ | ⟨gb, cap, cur, rfl, _⟩⟩
  · exact absurd (List.eq_nil_of_length_eq_zero h0) hn
  · exact ⟨gb, cap, rfl⟩
/-- No row of a name that is still to come. -/
def okI (gm : Gm) (rest : List ByteArray) (k : Nat) : Prop := ∀ e ∈ gm, e.1 ∈ rest → e.2.1.ownBlock ≠ some k
structure T2 (w wr : World) (mb nb : Nat) (cu : Array Value) (blk : Int) (m : Mp) (gm : Gm) (ns : List ByteArray) (i : Nat) (outs : List S79) (v9 : Value) : Prop where
  i1 : i ≤ ns.length
  map : GM wr mb gm
  rows : ∀ e ∈ gm, e.1 ∈ ns.drop i → Kd.R k24 24 wr w.heap.size (fun _ => True) e.2.1 e.2.2
  names : wr.heap[nb]? = some (.cells cu 9 (0, 0))
  out : Kd.R k79 79 wr w.heap.size (okI gm (ns.drop i)) v9 outs
  fst : outs.map (·.f0) = ns.take i
  is : ∀ s ∈ outs, s.f1.Perm (pts s.f0 (ofB blk m)) ∧ UpT s.f1
  bel : Below w.heap.size w wr
def Take_r.T6 : Bool × List (List Nat × List Nat) := (true, [([], []), ([], []), ([1], [1]), ([], []), ([], []), ([4], [4]), ([3, 5], [3, 5]), ([], []), ([7], [7]), ([8], [8]), ([6, 9], [6, 9]), ([0, 2, 10, 10, 0, 1, 2, 3, 4, 5, 6, 7, 8, 9, 10], [0, 2, 10])])
def Take_r.B6 : List Nat := [0, 0, 2, 0, 0, 16, 56, 0, 128, 384, 1016, 2047]
theorem Take_r.tab6 : rtab .any (opsOf Try.f18 6) = Take_r.T6 := by kernel_rfl
theorem Take_r.bits6 : waitsOk Take_r.T6.2 Take_r.B6 = true := by kernel_rfl
set_option maxHeartbeats 2000000 in
set_option maxRecDepth 100000 in
theorem take_some (w : World) (g b : Nat) (m : Mp) (ver : Int) (h : Buf.Is w g b m ver) (blk : Int) (hm : m.length ≤ 1000000) (hsz : ∀ e ∈ m, e.1.idn.size ≤ maxLen) (hne : ofB blk m ≠ []) :
    Calls Try.prog 18 #[.pointer (some ⟨g, 0, none⟩), .int .i64 blk] w fun e w' => ∃ (v : Value) (l : List S79), e = .returned (.tuple #[v, .int .i64 ver]) ∧ TakeIs blk m l ∧ Kd.R k79 79 w' w.heap.size (fun _ => True) v l ∧ Below w.heap.size w w' := by
  have HI := Lib.hid h
  have HM := Lib.hid hm
  have HSZ := Lib.hid hsz
  have HNE := Lib.hid hne
  have hmm := @run_makeMap Try.prog
  have c0 : (w.alloc (.map #[] 0)).cell? ⟨g, 0, none⟩ = some (.map (some b)) := (blk_cell (blk_alloc h.1 _) 0).trans rfl
  clear h hm hsz hne
  go_enter Try.func18, Try.ntmps18
  go_wp2_with (at_range; refine XM.wp_range _ rfl _ 59 rfl 63 65 Try.underlying59 b m rfl (HI.out.below (below_alloc (Below.refl _ _) _)).2 ?_; intro w0 hrg0 hg0 hs0; have HR0 := Lib.hid (And.intro hrg0 (And.intro hg0 hs0)); clear hrg0 hg0 hs0)
  go_frame
  have HB0 := Aside0.mk (show Below w.heap.size w w0 from (below_alloc (Below.refl _ _) _).grown HR0.out.2.1 (by simp) (by simp))
  obtain ⟨mb, hmb⟩ : ∃ mb, mb = w.heap.size := ⟨_, rfl⟩
  have hGM0 : GM (w.alloc (.map #[] 0)) w.heap.size [] := XM.MapIs.made _ _ _ _ _
  have HG0 := Aside0.mk (GI.nil w0 mb w.heap.size blk (by rw [hmb]; exact XM.MapIs.kept hGM0 HR0.out.2.1 (by simp)))
  have HS0 := Aside0.mk HR0.out.1
  obtain ⟨r, hr⟩ : ∃ r, r = (w.alloc (.map #[] 0)).heap.size := ⟨_, rfl⟩
  have HRR := Aside0.mk (show r = w.heap.size + 1 ∧ mb = w.heap.size ∧ g < w.heap.size ∧ b < w.heap.size by have := HI.out.lt; simp [hr, hmb]; omega)
  rw [← hmb]
  rw [← hr] at HS0 ⊢
  clear hr hmb HR0 hGM0
  go_loopg [] m.length (fun gn wr => ∃ (left done : Mp) (gm : Gm), Aside0 (XM.RangeIs Try.prog 63 ekP evH wr b r m left) ∧ Aside0 ((done ++ left).Perm m) ∧ Aside0 (gn = left.length) ∧ Aside0 (GI wr mb w.heap.size blk done gm) ∧ Aside0 (gm.length ≤ done.length) ∧ Aside0 (Below w.heap.size w wr))
  case atStart => exact ⟨m, [], [], HS0, ⟨List.Perm.refl _⟩, ⟨rfl⟩, HG0, ⟨by simp⟩, HB0⟩
  case round =>
    obtain ⟨left, done, gm, HS, HP, HN, HG, HL, HB⟩ := hrel
    clear HS0 HG0 HB0
    go_wp2_with (at_next; refine XM.wp_next _ rfl _ rfl 63 b r m left rfl HS.out ?_ ?_)
    · intro hleft
      have hPm : done.Perm m := by have := HP.out; rwa [hleft, List.append_nil] at this
      have hgl : gm.length ≤ 1000000 := by have := HL.out; have := hPm.length_eq; have := HM.out; omega
      have HPm := Lib.hid hPm
      have hgl2 := hgl
      have HK := Lib.hid (callsIn_wide.1 (Try.maps_Keys (some mb) wr))
      have HK2 := Lib.hid (keys_calls wr mb gm HG.out.map hgl)
      clear hleft HN hPm hgl HP HL HS
      go_wp2_with fail
      with_reducible refine HK.out.mono ?_
      rintro e W1 ⟨rfl, rfl⟩
      go_wp2_with fail
      with_reducible refine HK2.out.mono ?_
      rintro e W2 ⟨v41, ns, rfl, hperm, hsort, hRn, hB2⟩
      have hall : ∀ x ∈ ofB blk m, ∃ e ∈ gm, e.1 = x.1.idn := fun x hx => HG.out.all x ((HPm.out.filter _).mem_iff.2 hx)
      have hnn : ns ≠ [] := by
        intro e
        obtain ⟨x, hx⟩ := List.exists_mem_of_ne_nil _ HNE.out
        obtain ⟨e1, he1, _⟩ := hall x hx
        have := hperm.mem_iff.2 (List.mem_map.2 ⟨e1, he1, rfl⟩)
        rw [e] at this
        cases this
      obtain ⟨nb, ncap, rfl⟩ := R_some hRn hnn
      obtain ⟨cu, hcu⟩ := R_cells hRn nb rfl
      have hcell : ∀ i : Nat, i < ns.length → cu[i]? = some (.string (ns.getD i ⟨#[]⟩)) := by
        intro i hi
        obtain ⟨_, _, hC⟩ := Kd.R_reads' hRn
        obtain ⟨ad, c, ead, _, hK, hc⟩ := Kd.C_get hC (⟨#[]⟩ : ByteArray) (i : Int) (by omega) (by omega)
        cases ead
        have hK : c = [.string (ns.getD ((i : Int)).toNat ⟨#[]⟩)] := hK
        have := hc 0 _ (by rw [hK]; rfl)
        rw [Int.toNat_natCast] at this
        have e2 : (Addr.add ⟨nb, 0, none⟩ (i * (Kd.string).sz + 0)) = ⟨nb, i, none⟩ := by simp [Addr.add, Kd.string, Kd.scalar] <;> omega
        rw [e2, blk_cell hcu i] at this
        exact this
      have hnsl : ns.length ≤ 1000000 := by rw [hperm.length_eq, List.length_map]; exact hgl2
      have hGI2 := HG.out.below hB2
      have hnd : ns.Nodup := hperm.nodup_iff.2 (by have := HG.out.map.nodup; unfold XM.keys at this; exact this)
      have HNM := Lib.hid (And.intro hperm (And.intro hsort (And.intro hnd (And.intro hcell (And.intro hall (And.intro HG.out.apart (And.intro HG.out.pts HG.out.ne)))))))
      have hlt : ∀ e ∈ gm, ∀ k, e.2.1.ownBlock = some k → k < wr.heap.size := fun e he => Kd.R_lt (HG.out.rows e he)
      have hnbw : wr.heap.size ≤ nb := Kd.R_base hRn nb rfl
      have HNB := Lib.hid (And.intro hlt hnbw)
      have HT0 := Lib.hid (show T2 w W2 mb nb cu blk m gm ns 0 [] (.slice none 0 0) from ⟨Nat.zero_le _, hGI2.map, fun e he _ => hGI2.rows e he, hcu, Kd.R_nil _ _ _ _ _, rfl, by simp, below_then HB.out HB.out.size hB2⟩)
      clear hperm hsort hRn hB2 hall hnn hcu hcell hGI2 hnd hlt hnbw HK HK2 HG HB
      go_wp2_with fail
      go_loopg [9, 43] ns.length (fun gn v9 v43 wr => ∃ (i : Nat) (outs : List S79), v43 = .int .i64 (i : Int) ∧ Aside0 (gn = ns.length - i) ∧ Aside0 (T2 w wr mb nb cu blk m gm ns i outs v9))
      case atStart => exact ⟨0, [], rfl, ⟨rfl⟩, ⟨HT0.out⟩⟩
      case round =>
        clear HT0
        obtain ⟨i, outs, rfl, HN, HT⟩ := hrel
        by_cases hi : i < ns.length
        · have hi0 : (i : Int) < (ns.length : Int) := by omega
          obtain ⟨hperm, hsort, hnd, hcell, hall, hap, hpt, hne⟩ := HNM.out
          obtain ⟨n, hn⟩ : ∃ n, n = ns.getD i ⟨#[]⟩ := ⟨_, rfl⟩
          have hgn : ns[i] = n := by rw [hn, List.getD_eq_getElem?_getD, List.getElem?_eq_getElem hi]; rfl
          have hdrop : ns.drop i = n :: ns.drop (i + 1) := by rw [← hgn]; exact List.drop_eq_getElem_cons hi
          have htake : ns.take (i + 1) = ns.take i ++ [n] := by rw [← hgn]; exact List.take_succ_eq_append_getElem hi
          have hnin : n ∉ ns.drop (i + 1) := by
            have h1 := hnd.sublist (List.drop_sublist i ns)
            rw [hdrop] at h1
            exact (List.nodup_cons.1 h1).1
          obtain ⟨en, hen1, hen2⟩ := List.mem_map.1 (hperm.mem_iff.1 (by rw [← hgn]; exact List.getElem_mem hi : n ∈ ns))
          obtain ⟨n', v, xs⟩ := en
          have hen2 : n' = n := hen2
          subst hen2
          have hR := HT.out.rows _ hen1 (by rw [hdrop]; simp)
          have hxs := hpt _ hen1
          simp only at hR hxs
          obtain ⟨gb, cap, rfl⟩ := R_some hR (hne _ hen1)
          have hrun := XM.MapIs.look_some HT.out.map encS Try.underlying70 (HT.out.map.isK _ hen1) false (XM.aget_mem HT.out.map.nodup hen1)
          simp only [ekS, evG] at hrun
          have d0 : wr.cell? ⟨nb, i, none⟩ = some (.string n') := (blk_cell HT.out.names i).trans (by rw [hcell i hi, ← hn])
          have hxl : xs.length ≤ 1000000 := by
            rw [hxs]
            have h1 := Buf.pts_len n' (ofB blk done)
            have h2 : (ofB blk done).length ≤ done.length := List.length_filter_le _ _
            have h3 := HPm.out.length_eq
            have h4 := HM.out
            omega
          have HS := Lib.hid (sortT_row w.heap.size gb xs.length cap (fun _ => True) xs wr hR (by omega))
          have HD := Lib.hid (And.intro hdrop (And.intro htake (And.intro hnin (And.intro hen1 (And.intro hxs hR)))))
          clear hperm hsort hnd hcell hall hap hpt hne hn hgn hdrop htake hnin hen1 hxs hR hxl
          go_wp2_with fail
          with_reducible refine HS.out.mono ?_
          rintro e w5 ⟨rfl, l', hp', hs', hR5, hg5⟩
          obtain ⟨hdrop, htake, hnin, hen1, hxs, hR⟩ := HD.out
          obtain ⟨hperm, hsort, hnd, hcell, hall, hap, hpt, hne⟩ := HNM.out
          have ht := HT.out
          have hnb : gb ≠ nb := by have h1 := HNB.out.1 _ hen1 gb rfl; have h2 := HNB.out.2; omega
          have hnames5 := blk_grown ht.names hg5 (fun e => hnb (by cases e; rfl))
          have hmap5 : GM w5 mb gm := XM.MapIs.kept ht.map hg5 (fun e => by obtain ⟨c, hc⟩ := R24_cells hR gb rfl; exact XM.MapIs.noCells ht.map hc (by cases e; rfl))
          have hin : n' ∈ ns.drop i := by rw [hdrop]; simp
          have hrows5 : ∀ e ∈ gm, e.1 ∈ ns.drop (i + 1) → Kd.R k24 24 w5 w.heap.size (fun _ => True) e.2.1 e.2.2 := fun e he hd =>
            R24_grown (ht.rows e he (by rw [hdrop]; exact List.mem_cons_of_mem _ hd)) hg5 (fun k hk e2 => by
              cases e2
              exact hap e he _ hen1 (fun e3 => hnin (by rw [← show e.1 = n' from e3]; exact hd)) _ hk rfl)
          have hout5 := Kd.R_grown ht.out hg5 (fun k hk e2 => by cases e2; exact hk _ hen1 hin rfl)
          have hown9 : u9.ownBlock ≠ some gb := fun e2 => ht.out.1 gb e2 _ hen1 hin rfl
          have hout6 : Kd.R k79 79 w5 w.heap.size (okI gm (ns.drop (i + 1))) u9 outs := Kd.R_mono hout5 (fun k hk e he hd => hk e he (by rw [hdrop]; exact List.mem_cons_of_mem _ hd))
          have hbel5 : Below w.heap.size w w5 := ht.bel.grown hg5 ht.bel.size (fun j hj => by cases hj; exact Kd.R_base hR gb rfl)
          have hfresh : ∀ k, w5.heap.size ≤ k → okI gm (ns.drop (i + 1)) k := fun k hk e he hd e2 => by
            have := Kd.R_lt (hrows5 e he hd) k e2
            omega
          have hokp : ∀ k, k = gb → okI gm (ns.drop (i + 1)) k ∧ some k ≠ u9.ownBlock := by
            rintro k rfl
            refine ⟨fun e he hd e2 => ?_, fun e2 => hown9 e2.symm⟩
            exact hap e he _ hen1 (fun e3 => hnin (by rw [← show e.1 = n' from e3]; exact hd)) _ e2 rfl
          have holen : outs.length ≤ 1000000 := by
            have h1 := congrArg List.length ht.fst
            rw [List.length_map, List.length_take] at h1
            have h2 := hperm.length_eq
            rw [List.length_map] at h2
            omega
          have HP5 := Lib.hid (k79_mkM w5 w.heap.size (fun k => k = gb) ⟨n', l'⟩ (R24 hR5 (ok' := fun k => k = gb) (fun k hk => by simp [Value.ownBlock] at hk; exact hk.symm)))
          have H5 := Lib.hid (And.intro hnames5 (And.intro hmap5 (And.intro hrows5 (And.intro hout6 (And.intro hbel5 (And.intro hfresh (And.intro hokp holen)))))))
          have HL' := Lib.hid (And.intro hp' (And.intro (show UpT l' from hs'.imp (fun h => by omega)) (And.intro ht.fst ht.is)))
          have HIN := Lib.hid (And.intro htake hxs)
          clear hp' hs' hR5 hg5 hdrop htake hnin hen1 hxs hR hperm hsort hnd hcell hall hap hpt hne hnb hnames5 hmap5 hin hrows5 hout5 hown9 hout6 hbel5 hfresh hokp holen ht HT HD d0 hrun HS
          go_wp2_with (at_builtin; refine (Kd.R_append k79 (w0 := w) w.heap.size rfl (.tmp 52) (.tmp 56) 48 79 (.agg #[.string ⟨#[]⟩, .slice none 0 0]) 40 rfl Try.underlying48 info79 rfl (by decide) (by omega) u9 outs ⟨n', l'⟩ [.string n', .slice (some ⟨gb, 0, none⟩) xs.length cap] (okI gm (ns.drop (i + 1))) (fun k => k = gb) rfl ?aX ?aP ?aK ?aF ?aO ?aB ?aS ?aL ?_); (case aX => first | rfl | (go_simp; done) | (simp; done)); (case aP => exact HP5.out); (case aK => exact H5.out.2.2.2.2.2.2.1); (case aF => exact H5.out.2.2.2.2.2.1); (case aO => exact H5.out.2.2.2.1); (case aB => exact H5.out.2.2.2.2.1); (case aS => exact H5.out.2.2.2.2.1.size); (case aL => have := H5.out.2.2.2.2.2.2.2; omega); intro v6 w6 hR6 hB6 hg6 hat6; have H6 := Lib.hid (And.intro hR6 (And.intro hB6 (And.intro hg6 hat6))); clear hR6 hB6 hg6 hat6)
          go_roundg (ns.length - (i + 1))
          case measure => have := HN.out; omega
          case rel =>
            obtain ⟨hR6, hB6, hg6, hat6⟩ := H6.out
            obtain ⟨hnames5, hmap5, hrows5, hout6, hbel5, hfresh, hokp, holen⟩ := H5.out
            obtain ⟨hp', hs', hfst, his⟩ := HL'.out
            refine ⟨i + 1, outs ++ [⟨n', l'⟩], by have : wrap64 ((i : Int) + 1) = (i : Int) + 1 := by unfold wrap64; omega
                                                  simp [this], ⟨rfl⟩, ⟨⟨hi, ?_, fun e he hd => ?_, ?_, hR6, ?_, ?_, hB6⟩⟩⟩
            · exact XM.MapIs.kept hmap5 hg6 (fun e => by obtain ⟨c, hc⟩ := R_cells hout6 mb e.symm; exact XM.MapIs.noCells hmap5 hc rfl)
            · exact R24_grown (hrows5 e he hd) hg6 (fun k hk e2 => by
                obtain ⟨c, hc⟩ := R_cells hout6 k e2.symm
                exact Kd.R_ne (hrows5 e he hd) hc (by decide) hk.symm)
            · exact blk_grown hnames5 hg6 (Kd.R_ne hout6 hnames5 (by decide))
            · rw [List.map_append, hfst, HIN.out.1]; rfl
            · intro s hs
              rcases List.mem_append.1 hs with hs | hs
              · exact his s hs
              · have := List.mem_singleton.1 hs
                subst this
                refine ⟨?_, hs'⟩
                show l'.Perm (pts n' (ofB blk m))
                rw [HIN.out.2] at hp'
                exact hp'.trans (((HPm.out.filter _).filter _).map _)
        · have hge : ¬ (i : Int) < (ns.length : Int) := by omega
          have hie : i = ns.length := by have := HT.out.i1; omega
          have d1 : wr.cell? ⟨g, 1, none⟩ = some (.int .i64 ver) := (blk_cell ((HI.out.below HT.out.bel).1) 1).trans rfl
          go_wp2_with fail
          go_region
          all_goals
            go_wp2_with fail
            go_ret2
            refine ⟨u9, outs, rfl, ?_, ?_, below_drew HT.out.bel⟩
            · obtain ⟨hperm, hsort, hnd, hcell, hall, hap, hpt, hne⟩ := HNM.out
              have hf : outs.map (·.f0) = ns := by rw [HT.out.fst, hie, List.take_length]
              refine ⟨by rw [hf]; exact hsort, by rw [hf]; exact hnd, HT.out.is, fun n => ?_⟩
              rw [hf, hperm.mem_iff]
              constructor
              · intro h1
                obtain ⟨e, he1, he2⟩ := List.mem_map.1 h1
                have h2 := hne e he1
                rw [hpt e he1] at h2
                obtain ⟨q, hq⟩ := List.exists_mem_of_ne_nil _ h2
                obtain ⟨z, hz1, hz2, _⟩ := Buf.mem_pts.1 hq
                exact ⟨z, (HPm.out.filter _).mem_iff.1 hz1, by rw [hz2]; exact he2⟩
              · rintro ⟨z, hz, rfl⟩
                obtain ⟨e, he1, he2⟩ := hall z hz
                exact List.mem_map.2 ⟨e, he1, he2⟩
            · exact Kd.R_mono (Kd.R_drew HT.out.out) (fun _ _ => trivial)
    · intro l1 l2 x y w1 hl hrg hg1 hs1 hen
      have HLF := Aside0.mk hl
      have HS1 := Aside0.mk hrg
      have hdl : done.length + left.length = m.length := by have := HP.out.length_eq; rwa [List.length_append] at this
      have hgn : (l1 ++ l2).length < gk := by rw [HN.out, hl]; simp
      have hPM : (done ++ [(x, y)] ++ (l1 ++ l2)).Perm m := by
        refine List.Perm.trans ?_ HP.out
        rw [hl, List.append_assoc]
        exact List.Perm.append_left _ (show ((x, y) :: (l1 ++ l2)).Perm (l1 ++ (x, y) :: l2) from List.perm_middle.symm)
      have hB1 := HB.out.grown hg1 HB.out.size (fun j hj => by cases hj; have := HRR.out; omega)
      have hiter : ∀ cur, wr.heap[r]? ≠ some (.cells cur 24 (0, 0)) := fun cur hc => HS.out.noCells hc rfl
      have hG1 := HG.out.grown hg1 (by have := HRR.out; omega) hiter
      have hmem : (x, y) ∈ m := HS.out.sub.subset (by rw [hl]; simp)
      have HGN := Aside0.mk hgn
      have HPM := Aside0.mk hPM
      have hyb : Below w1.heap.size w1 ((w1.alloc (.cells #[.int .i64 x.blk, .string x.idn, .int .i64 x.tm] 63)).alloc (.cells #[.int .i64 y.p.f0, .int .u64 y.p.f1, .int .u64 y.p.f2, .int .i64 y.ver] 65)) := below_alloc (below_alloc (Below.refl _ _) _) _
      have hlen2 : gm.length ≤ m.length := by have := HL.out; omega
      have hdl2 : done.length ≤ m.length := by omega
      have HLD := Aside0.mk (And.intro hlen2 (And.intro hdl2 HL.out))
      have HXS := Aside0.mk (HSZ.out _ hmem)
      simp only [ekP, evH] at hen ⊢
      by_cases hx : x.blk = blk
      · have hw : (x.blk == blk) = true := by simpa using hx
        have hPb : ((w1.alloc (.cells #[.int .i64 x.blk, .string x.idn, .int .i64 x.tm] 63)).alloc (.cells #[.int .i64 y.p.f0, .int .u64 y.p.f1, .int .u64 y.p.f2, .int .i64 y.ver] 65)).heap[w1.heap.size]? = some (.cells #[.int .i64 x.blk, .string x.idn, .int .i64 x.tm] 63 (0, 0)) := blk_alloc (blk_new w1 _) _
        have hHb : ((w1.alloc (.cells #[.int .i64 x.blk, .string x.idn, .int .i64 x.tm] 63)).alloc (.cells #[.int .i64 y.p.f0, .int .u64 y.p.f1, .int .u64 y.p.f2, .int .i64 y.ver] 65)).heap[w1.heap.size + 1]? = some (.cells #[.int .i64 y.p.f0, .int .u64 y.p.f1, .int .u64 y.p.f2, .int .i64 y.ver] 65 (0, 0)) := by
          have := blk_new (w1.alloc (.cells #[.int .i64 x.blk, .string x.idn, .int .i64 x.tm] 63)) (.cells #[.int .i64 y.p.f0, .int .u64 y.p.f1, .int .u64 y.p.f2, .int .i64 y.ver] 65)
          simpa using this
        have HGY := Aside0.mk (hG1.below hyb)
        have HBY0 := Aside0.mk (below_then hB1 hB1.size hyb)
        have HSY := Aside0.mk (HS1.out.below hyb)
        have HX := Aside0.mk hx
        have HPB := Aside0.mk hPb
        have HHB := Aside0.mk hHb
        clear hl hrg hg1 hs1 hdl hgn hPM hB1 hG1 hmem hlen2 hdl2 hx HG HS HP HN HL HB HS1 hiter HLF hPb hHb hyb
        go_wp2_with fail
        obtain ⟨Y, hY⟩ : ∃ Y : World, Y = (w1.alloc (.cells #[.int .i64 x.blk, .string x.idn, .int .i64 x.tm] 63)).alloc (.cells #[.int .i64 y.p.f0, .int .u64 y.p.f1, .int .u64 y.p.f2, .int .i64 y.ver] 65) := ⟨_, rfl⟩
        obtain ⟨pb, hpb⟩ : ∃ pb, pb = w1.heap.size := ⟨_, rfl⟩
        rw [← hY, ← hpb] at HPB HHB
        rw [← hY] at HGY HBY0 HSY
        rw [← hY, ← hpb]
        clear hY hpb hw hen
        have hGd : GI Y.drew mb w.heap.size blk done gm := HGY.out.below (below_drew (Below.refl _ _))
        have HGD := Aside0.mk hGd
        have HCR := Aside0.mk (hGd.cur_R x.idn)
        have HBY := Aside0.mk (show Below w.heap.size w Y.drew from below_drew HBY0.out)
        have HLN := Aside0.mk (show ((cur gm x.idn).2.length + 1) * 24 ≤ 140737488355328 by
          have h1 := hGd.cur_pts x.idn
          have h2 := Buf.pts_len x.idn (ofB blk done)
          have h3 : (ofB blk done).length ≤ done.length := List.length_filter_le _ _
          have h4 := HM.out
          have h5 := HLD.out.2.1
          rw [h1]; omega)
        have HSTEP := Aside0.mk (fun (v1 : Value) (w2 : World) (hR : Kd.R k24 24 w2 w.heap.size (fun _ => True) v1 ((cur gm x.idn).2 ++ [y.p])) (hg : Y.drew.grownBy w2 (cur gm x.idn).1.ownBlock) (hat : v1.ownBlock = (cur gm x.idn).1.ownBlock ∨ ∃ b, v1.ownBlock = some b ∧ Y.drew.heap.size ≤ b) => hGd.step x y HX.out HXS.out hR hg hat (by have h4 := HM.out; have := HLD.out.1; unfold maxLen; omega))
        have HPK := Aside0.mk (fun (w2 : World) (hg : Y.drew.grownBy w2 (cur gm x.idn).1.ownBlock) => blk_grown (w := Y.drew) HPB.out hg (Kd.R_ne HCR.out (w := Y.drew) HPB.out (by decide)))
        have HHK := Aside0.mk (fun (w2 : World) (hg : Y.drew.grownBy w2 (cur gm x.idn).1.ownBlock) => blk_grown (w := Y.drew) HHB.out hg (Kd.R_ne HCR.out (w := Y.drew) HHB.out (by decide)))
        have HLKK := Aside0.mk (fun (w2 : World) (hg : Y.drew.grownBy w2 (cur gm x.idn).1.ownBlock) => hGd.look' x.idn HXS.out hg)
        have HLK0 := Aside0.mk (hGd.look x.idn HXS.out)
        have HLK1 := Aside0.mk ((hGd.below (below_alloc (Below.refl _ _) (.cells #[.int .i64 y.p.f0, .int .u64 y.p.f1, .int .u64 y.p.f2] 24))).look x.idn HXS.out)
        have HP1 := Aside0.mk (blk_alloc (w := Y.drew) HPB.out (.cells #[.int .i64 y.p.f0, .int .u64 y.p.f1, .int .u64 y.p.f2] 24))
        have HH1 := Aside0.mk (blk_alloc (w := Y.drew) HHB.out (.cells #[.int .i64 y.p.f0, .int .u64 y.p.f1, .int .u64 y.p.f2] 24))
        have p1 : Y.cell? ⟨pb, 1, none⟩ = some (.string x.idn) := (blk_cell HPB.out 1).trans rfl
        have h0 : Y.cell? ⟨pb + 1, 0, none⟩ = some (.int .i64 y.p.f0) := (blk_cell HHB.out 0).trans rfl
        have h1 : Y.cell? ⟨pb + 1, 1, none⟩ = some (.int .u64 y.p.f1) := (blk_cell HHB.out 1).trans rfl
        have h2 : Y.cell? ⟨pb + 1, 2, none⟩ = some (.int .u64 y.p.f2) := (blk_cell HHB.out 2).trans rfl
        clear hGd
        refine start_ (n := 12) (S := fun w' => w'.cell? ⟨pb, 1, none⟩ = some (.string x.idn) ∧ w'.cell? ⟨pb + 1, 0, none⟩ = some (.int .i64 y.p.f0) ∧ w'.cell? ⟨pb + 1, 1, none⟩ = some (.int .u64 y.p.f1) ∧ w'.cell? ⟨pb + 1, 2, none⟩ = some (.int .u64 y.p.f2) ∧ (Instr.lookup 70 (.map (some mb)) (.string x.idn) false).run Try.prog w' = .ok (cur gm x.idn).1 w') (ds := [11]) #[false, false, false, false, false, false, false, false, false, false, false, false] (by kernel_rfl) rfl rfl ⟨p1, h0, h1, h2, HLK0.out⟩ (fun hHeld => ?_)
        refine with_tabW Take_r.tab6 Take_r.bits6 (fun HT_ HW_ => ?_)
        refine pure_ (i := 0) (N := some 28) (v := ?_) (a' := ?_) #[true, false, false, false, false, false, false, false, false, false, false, false] rfl rfl (any_of HT_.out (by kernel_rfl)) (fun _ _ _ h => h) (Or.inl ⟨by rfl, ?_⟩) ?_ ?_
        rotate_left
        · intro w'
          go_simp
          with_reducible rfl
        rotate_left
        · simp only [Act.put, List.setIfInBounds_toArray, List.set_cons_zero, List.set_cons_succ, i64_w, i32_w]
          rfl
        refine pure_ (i := 1) (N := some 29) (v := ?_) (a' := ?_) #[true, true, false, false, false, false, false, false, false, false, false, false] rfl rfl (any_of HT_.out (by kernel_rfl)) (fun _ _ _ h => h) (Or.inl ⟨by rfl, ?_⟩) ?_ ?_
        rotate_left
        · intro w'
          go_simp
          with_reducible rfl
        rotate_left
        · simp only [Act.put, List.setIfInBounds_toArray, List.set_cons_zero, List.set_cons_succ, i64_w, i32_w]
          rfl
        refine pure_ (i := 3) (N := some 31) (v := ?_) (a' := ?_) #[true, true, false, true, false, false, false, false, false, false, false, false] rfl rfl (any_of HT_.out (by kernel_rfl)) (fun _ _ _ h => h) (Or.inl ⟨by rfl, ?_⟩) ?_ ?_
        rotate_left
        · intro w'
          go_simp
          with_reducible rfl
        rotate_left
        · simp only [Act.put, List.setIfInBounds_toArray, List.set_cons_zero, List.set_cons_succ, i64_w, i32_w]
          rfl
        refine pure_ (i := 4) (N := some 32) (v := ?_) (a' := ?_) #[true, true, false, true, true, false, false, false, false, false, false, false] rfl rfl (any_of HT_.out (by kernel_rfl)) (fun _ _ _ h => h) (Or.inl ⟨by rfl, ?_⟩) ?_ ?_
        rotate_left
        · intro w'
          go_simp
          with_reducible rfl
        rotate_left
        · simp only [Act.put, List.setIfInBounds_toArray, List.set_cons_zero, List.set_cons_succ, i64_w, i32_w]
          rfl
        refine pure_ (i := 7) (N := some 35) (v := ?_) (a' := ?_) #[true, true, false, true, true, false, false, true, false, false, false, false] rfl rfl (any_of HT_.out (by kernel_rfl)) (fun _ _ _ h => h) (Or.inl ⟨by rfl, ?_⟩) ?_ ?_
        rotate_left
        · intro w'
          go_simp
          with_reducible rfl
        rotate_left
        · simp only [Act.put, List.setIfInBounds_toArray, List.set_cons_zero, List.set_cons_succ, i64_w, i32_w]
          rfl
        refine take_ (i := 2) (N := some 30) (v := ?_) (a' := ?_) #[true, true, true, true, true, false, false, true, false, false, false, false] rfl rfl (take_ofW HT_.out HW_.out (by kernel_rfl)) (fun _ _ _ h => h) (Or.inl ⟨by rfl, ?_⟩) hHeld ?_ ?_
        rotate_left
        · rintro w' ⟨s0, s1, s2, s3, s4⟩
          go_simp
          with_reducible rfl
        rotate_left
        · simp only [Act.put, List.setIfInBounds_toArray, List.set_cons_zero, List.set_cons_succ, i64_w, i32_w]
          rfl
        refine take_ (i := 5) (N := some 33) (v := ?_) (a' := ?_) #[true, true, true, true, true, true, false, true, false, false, false, false] rfl rfl (take_ofW HT_.out HW_.out (by kernel_rfl)) (fun _ _ _ h => h) (Or.inl ⟨by rfl, ?_⟩) hHeld ?_ ?_
        rotate_left
        · rintro w' ⟨s0, s1, s2, s3, s4⟩
          go_simp
          with_reducible rfl
        rotate_left
        · simp only [Act.put, List.setIfInBounds_toArray, List.set_cons_zero, List.set_cons_succ, i64_w, i32_w]
          rfl
        refine take_ (i := 6) (N := some 34) (v := ?_) (a' := ?_) #[true, true, true, true, true, true, true, true, false, false, false, false] rfl rfl (take_ofW HT_.out HW_.out (by kernel_rfl)) (fun _ _ _ h => h) (Or.inl ⟨by rfl, ?_⟩) hHeld ?_ ?_
        rotate_left
        · rintro w' ⟨s0, s1, s2, s3, s4⟩
          go_simp
          with_reducible rfl
        rotate_left
        · simp only [Act.put, List.setIfInBounds_toArray, List.set_cons_zero, List.set_cons_succ, i64_w, i32_w]
          rfl
        refine take_ (i := 8) (N := some 36) (v := ?_) (a' := ?_) #[true, true, true, true, true, true, true, true, true, false, false, false] rfl rfl (take_ofW HT_.out HW_.out (by kernel_rfl)) (fun _ _ _ h => h) (Or.inl ⟨by rfl, ?_⟩) hHeld ?_ ?_
        rotate_left
        · rintro w' ⟨s0, s1, s2, s3, s4⟩
          go_simp
          with_reducible rfl
        rotate_left
        · simp only [Act.put, List.setIfInBounds_toArray, List.set_cons_zero, List.set_cons_succ, i64_w, i32_w]
          rfl
        refine one_ (i := 9) (N := some 37) #[true, true, true, true, true, true, true, true, true, true, false, false] rfl rfl (one_of HT_.out (by kernel_rfl)) (by decide) (fun K hK => ?_)
        refine value_ (w1 := ?_) (v := ?_) (by rfl) rfl ?_ ?_
        rotate_left 2
        · go_simp
          constructor
          · rfl
          · rfl
        refine hK.out _ _ ⟨(blk_cell HP1.out 1).trans rfl, (blk_cell HH1.out 0).trans rfl, (blk_cell HH1.out 1).trans rfl, (blk_cell HH1.out 2).trans rfl, HLK1.out⟩ (fun hHeld => ?_)
        clear hK K
        refine norm_ (a' := ?_) ?_ ?_
        rotate_left
        · show Act.put _ (some 37) _ = _
          simp only [Act.put, List.setIfInBounds_toArray, List.set_cons_zero, List.set_cons_succ, i64_w, i32_w]
          rfl
        refine one_ (i := 10) (N := some 38) #[true, true, true, true, true, true, true, true, true, true, true, false] rfl rfl (one_of HT_.out (by kernel_rfl)) (by decide) (fun K hK => ?_)
        refine Kd.R_append_step k24 (w0 := w) w.heap.size (by rfl) (.tmp 34) (.tmp 37) 29 24 (.agg #[.int .i64 0, .int .u64 0, .int .u64 0]) 24 rfl Try.underlying29 info24 rfl (by decide) (by omega) (cur gm x.idn).1 (cur gm x.idn).2 y.p [.int .i64 y.p.f0, .int .u64 y.p.f1, .int .u64 y.p.f2] (fun _ => True) (fun _ => False) (by rfl) (by rfl) (k24_mkM _ _ _ y.p) (fun _ hk => hk.elim) (fun _ _ => trivial) HCR.out HBY.out HBY.out.size HLN.out ?_
        intro v1 w2 hR2 hB2 hg2 hat2
        have HR2 := Lib.hid hR2
        have HB2 := Lib.hid hB2
        obtain ⟨X, hrun, hGX, hgX, hsX⟩ := HSTEP.out v1 w2 hR2 hg2 hat2
        have HGX := Lib.hid hGX
        have HGR := Lib.hid (And.intro hg2 (And.intro hgX hsX))
        have HP2 := Lib.hid (HPK.out w2 hg2)
        have HH2 := Lib.hid (HHK.out w2 hg2)
        have HLK2 := Lib.hid (HLKK.out w2 hg2)
        clear hR2 hB2 hg2 hat2 hGX hgX hsX
        refine hK.out _ _ ⟨(blk_cell HP2.out 1).trans rfl, (blk_cell HH2.out 0).trans rfl, (blk_cell HH2.out 1).trans rfl, (blk_cell HH2.out 2).trans rfl, HLK2.out⟩ (fun hHeld => ?_)
        clear hK K
        refine norm_ (a' := ?_) ?_ ?_
        rotate_left
        · show Act.put _ (some 38) _ = _
          simp only [Act.put, List.setIfInBounds_toArray, List.set_cons_zero, List.set_cons_succ, i64_w, i32_w]
          rfl
        refine last_ (i := 11) (N := none) #[true, true, true, true, true, true, true, true, true, true, true, true] rfl rfl (one_of HT_.out (by kernel_rfl)) (by decide) (fun K hK => ?_)
        refine skip_ (w1 := ?_) (by rfl) rfl ?_ ?_
        rotate_left
        · go_simp
          rfl
        refine hK.out _ _ ?_
        clear hK K
        refine done_ (done_of HT_.out (by kernel_rfl)) ?_
        go_wp2_with fail
        go_roundg (l1 ++ l2).length
        case measure => exact HGN.out
        case rel =>
          obtain ⟨hg2, hgX, hsX⟩ := HGR.out
          have hrr := HRR.out
          have hsd : XM.RangeIs Try.prog 63 ekP evH Y.drew b r m (l1 ++ l2) := HSY.out.below (below_drew (Below.refl _ _))
          have hs2 : XM.RangeIs Try.prog 63 ekP evH w2 b r m (l1 ++ l2) := hsd.kept hg2 (fun e => by obtain ⟨c, hc⟩ := R24_cells HCR.out b e.symm; exact XM.MapIs.noCells hsd.map hc rfl) (fun e => by obtain ⟨c, hc⟩ := R24_cells HCR.out r e.symm; exact hsd.noCells hc rfl)
          have hln : (XM.aput gm x.idn (v1, (cur gm x.idn).2 ++ [y.p])).length ≤ gm.length + 1 := XM.length_aput _ _ _
          exact ⟨l1 ++ l2, done ++ [(x, y)], _, ⟨hs2.kept hgX (fun e => by cases e; omega) (fun e => by cases e; omega)⟩, HPM, ⟨rfl⟩, ⟨HGX.out⟩, ⟨by have := HLD.out.2.2; simp only [List.length_append, List.length_singleton]; omega⟩, ⟨HB2.out.grown hgX HB2.out.size (fun j hj => by cases hj; omega)⟩⟩
      · have hw : (x.blk == blk) = false := by simpa using hx
        have HGO := Aside0.mk ((hG1.other (x := (x, y)) hx).below hyb)
        have HBO := Aside0.mk (below_then hB1 hB1.size hyb)
        have HSO := Aside0.mk (HS1.out.below hyb)
        clear hl hrg hg1 hs1 hdl hgn hPM hB1 hG1 hmem hlen2 hdl2 hx HG HS HP HN HL HB HS1 hiter HLF hyb
        go_wp2_with fail
        go_roundg (l1 ++ l2).length
        case measure => exact HGN.out
        case rel => exact ⟨l1 ++ l2, done ++ [(x, y)], gm, HSO, HPM, ⟨rfl⟩, HGO, ⟨by have := HLD.out.2.2; simp; omega⟩, HBO⟩
end Tk
end Go.Proofs.Ytmocpglnoehknaa
