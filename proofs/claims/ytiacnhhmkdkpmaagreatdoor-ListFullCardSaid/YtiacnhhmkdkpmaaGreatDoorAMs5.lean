/- The texts of the proof, one behind the other: XDom, W9, W10, W11, W12, W13, PB, PL1, PL2, PL3. -/
import Derived.Test.YtiacnhhmkdkpmaaGreatDoorAMs4
import Derived.Test.YtiacnhhmkdkpmaaGreatDoorAMs3
import Derived.RangeFuncBox
import Derived.OwnWalkIn
import Derived.TacticsInMore
import Derived.LoopNIn
import Derived.LoopIn
import Derived.Sort.LoopGhostIn
import Derived.Maps.AppendAt
import Derived.Test.YtiacnhhmkdkpmaaGreatDoorAMs2
set_option linter.unusedVariables false
set_option maxRecDepth 100000
namespace Go.Proofs.YtiacnhhmkdkpmaaGreatDoorA.W
open Go Go.Ae Go.RowKit
attribute [local go_sem] Oper.semAt_some
theorem cut_call {s sep l r : List UInt8} {ok : Bool} (h : C129 (s, sep, ()) = some (l, r, ok, ())) {w : World} (hg : GI w m0) :
    Calls Tryz.prog 129 #[.string ⟨⟨s⟩⟩, .string ⟨⟨sep⟩⟩] w fun e w' => e = .returned (.tuple #[.string ⟨⟨l⟩⟩, .string ⟨⟨r⟩⟩, .bool ok]) ∧ Below w.heap.size w w' := by
  refine (FnOk.call0 (v := (s, sep, ())) (y := (l, r, ok, ())) ok129 Tryz.func129 (by kernel_rfl) (by kernel_rfl) hg (fun _ h => h.elim) rfl ⟨_, _, rfl, rfl, _, _, rfl, rfl, rfl⟩ rfl h ?_).mono fun e w' ⟨rv, h1, h2, ax, l', u, h3, h4⟩ => ?_
  · intro ax l' u h3
    cases osel_one_inv h3
    rfl
  · cases osel_one_inv h3
    obtain ⟨v, r', e1, ⟨a, e2, e3⟩, e4⟩ := h4
    have e4' : r' = [] := e4
    subst e4'
    cases e1
    subst h1 e2
    refine ⟨?_, h2⟩
    obtain ⟨v1, q1, f1, rfl, v2, q2, f2, rfl, v3, q3, f3, rfl, f4⟩ := e3
    have f4' : q3 = [] := f4
    subst f4' f3 f2
    cases a
    cases f1
    rfl
def partsC : Nat → List UInt8 → Option (List (List UInt8))
  | 0, _ => none
  | n + 1, s => (C129 (s, [46], ())).bind fun a => bif a.2.2.1 then (partsC n a.2.1).map (a.1 :: ·) else some [a.1]
theorem box_of_block {W W' : World} {b : Nat} {t : TypeId} {v : Value} (h : Boxed W b t v) (hk : W'.heap[b]? = W.heap[b]?) : Boxed W' b t v := hk.trans h
set_option maxHeartbeats 4000000 in
theorem parts_seq (n : Nat) (hn : 1 ≤ n) (Bs : Nat) (s : List UInt8) (xs : List (List UInt8)) (N : Nat) (hxs : partsC N s = some xs) (w : World) (hb : Boxed w Bs 9 (.string ⟨⟨s⟩⟩)) (hg : GI w m0) (hnb : ∀ b ∈ GlobB, b ≠ Bs) :
    SeqD Fence.wide n Tryz.prog 222 #[.pointer (some ⟨Bs, 0, none⟩)] (fun x : List UInt8 => #[.string ⟨⟨x⟩⟩]) (fun b => b = Bs ∨ b ∈ GlobB) Bs xs w := by
  intro l J Jx W hW hJ hJx hY h0
  have hb' : Boxed W Bs 9 (.string ⟨⟨s⟩⟩) := (hW.block Bs hb.lt).trans hb
  have hg' : GI W m0 := gi_below hg hW
  refine callsIn_of_wp Tryz.func222 rfl trivial ?_ rfl
  simp only [Tryz.ntmps222, List.size_toArray, List.length_cons, List.length_nil, Nat.reduceAdd, Nat.reduceSub, Array.replicate_succ, Array.replicate_zero, List.push_toArray, List.append_toArray, List.nil_append, List.cons_append]
  gi_wp2
  gi_loopg [] N (fun k wr => ∃ (pre t : List (List UInt8)) (rest : List UInt8), xs = pre ++ t ∧ partsC k rest = some t ∧ J pre wr ∧ Boxed wr Bs 9 (.string ⟨⟨rest⟩⟩) ∧ GI wr m0)
  case atStart => exact ⟨[], xs, s, rfl, hxs, h0, hb', hg'⟩
  case round =>
    rename_i JJ KK hJJ hKK
    obtain ⟨pre, t, rest, hx, hp, hJs, hbx, hgr⟩ := hrel
    cases gk with
    | zero => cases hp
    | succ k =>
      simp only [partsC] at hp
      obtain ⟨⟨lf, rt, ok, u⟩, hc, hp2⟩ := Option.bind_eq_some_iff.1 hp
      simp only at hp2
      have hcell := hbx.cell
      have hpre : pre ++ [lf] <+: xs := by
        rw [hx]
        cases ok with
        | true =>
          obtain ⟨t', h1, rfl⟩ := Option.map_eq_some_iff.1 hp2
          exact ⟨t', by simp⟩
        | false =>
          have : t = [lf] := (Option.some.inj hp2).symm
          exact ⟨[], by simp [this]⟩
      gi_wp2_with (refine ⟨trivial, ?_⟩; gi_at_call 129; refine (callsIn_wide.2 (cut_call hc hgr)).mono ?_; rintro e w' ⟨rfl, hbel⟩; obtain ⟨fn, tmps, assign, body, hy, hR⟩ := hY pre lf w' hpre (hJ _ _ _ hJs (Oth.of_below hbel)))
      refine hR.mono ?_
      rintro e W3 (⟨rfl, hJ3, hs3, hk3⟩ | ⟨rfl, hJx3⟩)
      · have hbx3 : Boxed W3 Bs 9 (.string ⟨⟨rest⟩⟩) := (hk3 Bs (.inl rfl)).trans ((hbel.block Bs hbx.lt).trans hbx)
        have hg3 : GI W3 m0 := gi_keep (gi_below hgr hbel) hs3 fun b hb => hk3 b (.inr hb)
        have hc3 := hbx3.cell
        have hf3 := hbx3.frozen
        cases ok with
        | true =>
          obtain ⟨t', h1, rfl⟩ := Option.map_eq_some_iff.1 hp2
          gi_wp2
          gi_roundg k
          case rel => exact ⟨pre ++ [lf], t', rt, by simp [hx], h1, hJ _ _ _ hJ3 (Oth.set Bs 0 W3 _), Boxed.set _ hbx3, gi_keep hg3 (by simp) fun b hb => Below.heap_setCell _ _ _ _ (hnb b hb)⟩
          case measure => omega
        | false =>
          have ht : t = [lf] := (Option.some.inj hp2).symm
          subst ht
          gi_wp2
          refine bodyPost_ret (results_none rfl _ _ _) rfl ?_
          exact ⟨⟨_, rfl⟩, .inl (hx ▸ hJ3)⟩
      · gi_wp2
        refine bodyPost_ret (results_none rfl _ _ _) rfl ?_
        exact ⟨⟨_, rfl⟩, .inr ⟨_, hpre, hJx3⟩⟩
def encS (x : List UInt8) : Value := .string ⟨⟨x⟩⟩
theorem ownsRow_oth {N Bs base : Nat} {A B : World} {e : TypeId} {size k : Nat} {v : Value} {xs : List Value} (hBs : Bs < base) (h : A.ownsRow base e size v k xs) (ho : OthR N Bs A B) : B.ownsRow base e size v k xs := by
  refine ⟨h.1, ?_⟩
  rcases h.2 with h | ⟨g, cap, cur, e1, h2, h3, h4⟩
  · exact .inl h
  · exact .inr ⟨g, cap, cur, e1, h2, ho.keep g _ h3 (by omega) (.inr rfl), h4⟩
theorem oth_othR {N Bs : Nat} {W0 A B : World} (hN : W0.heap.size ≤ N) (h : Oth Bs W0 A) (ho : OthR N Bs A B) : Oth Bs W0 B :=
  ⟨ho.os.trans h.os, ho.tape.trans h.tape, ho.output.trans h.output, Nat.le_trans h.size ho.size, fun b hb hne => by
    have h1 := h.keep b hb hne
    obtain ⟨o, h2⟩ : ∃ o, W0.heap[b]? = some o := ⟨_, Array.getElem?_eq_getElem hb⟩
    rw [h2] at h1 ⊢
    exact ho.keep b o h1 hne (.inl (by omega))⟩
theorem info_string : (Tryz.prog.info? 9).map (fun i => (i.zero, i.size, i.bytes)) = some (some (.string ⟨#[]⟩), 1, 16) := by kernel_rfl
set_option maxHeartbeats 4000000 in
theorem gather_walk (gf : Nat) (hgf : ∀ args w, (callFunc gf args).run Tryz.prog w = .ok (.enter gf args) w) (Bs : Nat) (xs : List (List UInt8)) (w : World) (hBs : Bs < w.heap.size) (hg : GI w m0) (hlen : xs.length ≤ 1000000000000)
    (hseq : ∀ W, Below w.heap.size w W → SeqD Fence.wide 2 Tryz.prog gf #[.pointer (some ⟨Bs, 0, none⟩)] (fun x : List UInt8 => #[Value.string ⟨⟨x⟩⟩]) (fun b => b = Bs ∨ b ∈ GlobB) Bs xs W) :
    CallsIn Fence.wide 3 Tryz.prog 221 #[.slice none 0 0, .func (.func gf) #[] #[.pointer (some ⟨Bs, 0, none⟩)]] w fun e W' =>
      ∃ v, e = .returned v ∧ W'.ownsRow w.heap.size 9 1 v xs.length (xs.map encS) ∧ Oth Bs w W' := by
  obtain ⟨i0, hi, hz0, hz1, hz2⟩ := info_parts info_string
  refine callsIn_of_wp_marks Tryz.func221 rfl trivial ?_ rfl
  simp only [Tryz.ntmps221, List.size_toArray, List.length_cons, List.length_nil, Nat.reduceAdd, Nat.reduceSub, Array.replicate_succ, Array.replicate_zero, List.push_toArray, List.append_toArray, List.nil_append, List.cons_append]
  gi_wp2
  have hB0 : Below w.heap.size w (w.alloc (.cells #[.slice none 0 0] 89)) := (Below.refl _ w).alloc (Nat.le_refl _) _
  refine wpIn_rangeFunc_dir (F := Fence.wide) rfl (by omega) (gf := gf) (lb := #[.pointer (some ⟨Bs, 0, none⟩)]) rfl trivial hgf (hseq _ hB0)
    (by rintro b (rfl | hb); · (rw [World.size_alloc]; omega)
        · (have := (hg.b b hb).1; rw [World.size_alloc]; omega)) (by rw [World.size_alloc]; omega) (fun _ => rfl)
    (fun pre W => (∃ v, Boxed W w.heap.size 89 v ∧ W.ownsRow w.heap.size 9 1 v pre.length (pre.map encS)) ∧ Oth Bs w W)
    (fun _ _ _ => False)
    (fun s A B hs ho => by
      obtain ⟨⟨v, h1, h2⟩, h3⟩ := hs
      exact ⟨⟨v, boxed_oth h1 (by omega) ho, ownsRow_oth hBs h2 ho⟩, oth_othR (by rw [World.size_alloc]; omega) h3 ho⟩)
    (fun _ _ _ _ hs _ => hs)
    ⟨⟨_, Boxed.new _ _ _, World.ownsRow_nil _ _ _ _⟩, Oth.of_below hB0⟩
    (fun x => { tmps := #[.slice none 0 0, .func (.func gf) #[] #[.pointer (some ⟨Bs, 0, none⟩)], .pointer (some ⟨w.heap.size, 0, none⟩), undef, .slice none 0 0, .string ⟨⟨x⟩⟩, .func (.func gf) #[] #[.pointer (some ⟨Bs, 0, none⟩)], .string ⟨⟨x⟩⟩, undef, undef, undef, undef, undef], defers := [] }) ?assign ?body ?done ?stop
  case assign =>
    intro l x W K hK
    gi_wp2
    exact hK
  case body =>
    rintro l pre x W hsz hpre ⟨⟨v, hv, hrow⟩, hoth⟩
    have hc := hv.cell
    have hpl : pre.length < xs.length := by have := hpre.length_le; simp at this; omega
    have hsz2 := hoth.size
    gi_wp2_with (gi_at_builtin; refine wpListIn_append_own _ rfl _ _ 89 rfl w.heap.size 9 i0 (.string ⟨#[]⟩) 1 16 Tryz.underlying89 hi hz0 hz1 hz2 rfl (by decide) _ _ _ rfl (hrow.alloc _) ⟨W.heap.size, 0, none⟩ 1 1 [.string ⟨⟨x⟩⟩] rfl rfl (cell_one_new _ _ _) (by simp [Value.oneCell']) (by simp only [maxLen]; omega) (by omega) (by simp; omega) ?_; intro v' w1 hown' hgrow _; obtain ⟨g', cap', rfl⟩ := ownsRow_succ hown'; obtain ⟨hv1, hv2, hr2, hk2, hb2⟩ := hv.appended (by decide) hrow hsz2 (Nat.le_refl _) hown' hgrow; have hc1 := hv1.cell; have hf1 := hv1.frozen)
    exact ⟨hk2.from _, fun b hb => hb2.block b (by
        rcases hb with rfl | hb
        · exact hBs
        · exact (hg.b b hb).1), ⟨_, hv2, by simpa [encS] using hr2⟩, hb2.os.trans hoth.os, hb2.tape.trans hoth.tape, hb2.output.trans hoth.output, Nat.le_trans hoth.size hb2.size, fun b hb hne => (hb2.block b hb).trans (hoth.keep b hb hne)⟩
  case done =>
    rintro D W hD ⟨⟨v, hv, hrow⟩, hoth⟩ hK
    have hc := hv.cell
    gi_wp2
    refine ⟨by simp, .inl ⟨_, _, rfl, run_takeDeferred hK, ?_⟩⟩
    have hD' : w.heap.size + 1 ≤ D := by rw [World.size_alloc] at hD; exact hD
    exact ⟨_, results_tmp rfl _ _ _, v, rfl, ownsRow_putObj hrow _ hK rfl, hoth.os, hoth.tape, hoth.output, by simpa [World.putObj] using hoth.size, fun b hb hne => (World.putObj_heap_other (by omega)).trans (hoth.keep b hb hne)⟩
  case stop =>
    rintro D c pre W _ _ h _
    exact h.elim
set_option maxHeartbeats 4000000 in
theorem parts_mk (s : List UInt8) (w : World) : Calls Tryz.prog 190 #[.string ⟨⟨s⟩⟩] w fun e w' => e = .returned (.func (.func 222) #[] #[.pointer (some ⟨w.heap.size, 0, none⟩)]) ∧ w' = w.alloc (.cells #[.string ⟨⟨s⟩⟩] 9) := by
  go_enter Tryz.func190, Tryz.ntmps190
  go_wp2
  go_returns
  exact ⟨rfl, rfl⟩
theorem collect_call (gf Bs : Nat) (hgf : ∀ args w, (callFunc gf args).run Tryz.prog w = .ok (.enter gf args) w) (xs : List (List UInt8)) (w : World) (hBs : Bs < w.heap.size) (hg : GI w m0) (hlen : xs.length ≤ 1000000000000)
    (hseq : ∀ W, Below w.heap.size w W → SeqD Fence.wide 2 Tryz.prog gf #[.pointer (some ⟨Bs, 0, none⟩)] (fun x : List UInt8 => #[Value.string ⟨⟨x⟩⟩]) (fun b => b = Bs ∨ b ∈ GlobB) Bs xs W) :
    Calls Tryz.prog 189 #[.func (.func gf) #[] #[.pointer (some ⟨Bs, 0, none⟩)]] w fun e W' =>
      ∃ v, e = .returned v ∧ W'.ownsRow w.heap.size 9 1 v xs.length (xs.map encS) ∧ Oth Bs w W' := by
  go_enter Tryz.func189, Tryz.ntmps189
  go_wp2_with (go_at_call 221; refine (callsIn_wide.1 (gather_walk gf hgf Bs xs w hBs hg hlen hseq)).mono ?_; rintro e W' ⟨v, rfl, h1, h2⟩)
  go_returns
  exact ⟨v, rfl, h1, h2⟩
def labelsF (f : List UInt8) (ok : Bool) : Option (List (List UInt8) × Int) :=
  bif !ok then some ([], 7) else bif f.isEmpty then some ([], 13) else
  bif decide (f.length ≤ 1000000000) then
    (partsC (f.length + 2) (Lib.replaceAll f [227, 128, 130] [46])).bind fun ps => bif decide (ps.length ≤ 1000000000000) then (bif decide (32 < ps.length) then some ([], 2) else some (ps, 0)) else none
  else none
theorem max_len {w : World} (hg : GI w m0) : ∃ m, w.cell? ⟨2, 0, none⟩ = some (.int .i64 m) := hg.i
theorem replace_call (f : List UInt8) (hf : f.length ≤ 1000000000) (w : World) (hg : GI w m0) :
    Calls Tryz.prog 188 #[.string ⟨⟨f⟩⟩, .string ⟨#[227, 128, 130]⟩, .string ⟨#[46]⟩] w fun e w' => e = .returned (.string ⟨⟨Lib.replaceAll f [227, 128, 130] [46]⟩⟩) ∧ Below w.heap.size w w' := by
  obtain ⟨m, hm⟩ := max_len hg
  have hcnt := Lib.count_le f [227, 128, 130]
  refine (Go.Proofs.Any.strings_ReplaceAll Tryz.lays155 Tryz.Builder_Extra_155 ⟨⟨f⟩⟩ ⟨#[227, 128, 130]⟩ ⟨#[46]⟩ m w ?_ hm ?_ ?_).mono ?_
  · show f.length < _
    omega
  · decide
  · show f.length + Lib.count f [227, 128, 130] * 1 ≤ _
    omega
  · rintro e w' ⟨h1, h2⟩
    exact ⟨h1, h2⟩
theorem below_oth {Bs B : Nat} {A W W' : World} (h : Below B A W) (hB : B ≤ W.heap.size) (hBs : B ≤ Bs) (ho : Oth Bs W W') : Below B A W' :=
  h.trans ⟨ho.os, ho.tape, ho.output, ho.size, fun k hk => ho.keep k (by omega) (by omega)⟩
theorem row_slice {W : World} {base : Nat} {e : TypeId} {v : Value} {n : Nat} {xs : List Value} (h : W.ownsRow base e 1 v n xs) : ∃ a cap, v = .slice a n cap := by
  rcases h.2 with ⟨h1, h2⟩ | ⟨g, cap, cur, h1, _⟩
  · subst h2; exact ⟨_, _, h1⟩
  · exact ⟨_, _, h1⟩
set_option maxHeartbeats 4000000 in
theorem labels_walk (v0 v1 v2 v3 v4 : Value) (s f : List UInt8) (ok : Bool) (ls : List (List UInt8)) (c : Int) (w : World) (hg : GI w m0) (hC : labelsF f ok = some (ls, c))
    (hfold : ∀ W, Below w.heap.size w W → Calls Tryz.prog 151 #[.agg #[v0, v1, v2, v3, v4], .string ⟨⟨s⟩⟩] W fun e W' => e = .returned (.tuple #[.string ⟨⟨f⟩⟩, .bool ok]) ∧ Below W.heap.size W W') :
    Calls Tryz.prog 157 #[.agg #[v0, v1, v2, v3, v4], .string ⟨⟨s⟩⟩] w fun e w' => ∃ v, e = .returned (.tuple #[v, .int .i64 c]) ∧ Below w.heap.size w w' ∧ w'.ownsRow w.heap.size 9 1 v ls.length (ls.map encS) := by
  have hW0 : Below w.heap.size w (w.alloc (.cells #[v0, v1, v2, v3, v4] 39)) := (Below.refl _ w).alloc (Nat.le_refl _) _
  have hF := hfold _ hW0
  clear hfold
  cases ok with
  | false =>
    have hC' : (([] : List (List UInt8)), (7 : Int)) = (ls, c) := Option.some.inj hC
    cases hC'
    go_enter Tryz.func157, Tryz.ntmps157
    go_wp2_with (go_at_call 151; refine hF.mono ?_; rintro e w1 ⟨rfl, hb1⟩)
    go_returns
    exact ⟨_, rfl, hW0.trans (hb1.mono hW0.size), World.ownsRow_nil _ _ _ _⟩
  | true =>
    cases f with
    | nil =>
      have hC' : (([] : List (List UInt8)), (13 : Int)) = (ls, c) := Option.some.inj hC
      cases hC'
      go_enter Tryz.func157, Tryz.ntmps157
      go_wp2_with (go_at_call 151; refine hF.mono ?_; rintro e w1 ⟨rfl, hb1⟩)
      go_returns
      exact ⟨_, rfl, hW0.trans (hb1.mono hW0.size), World.ownsRow_nil _ _ _ _⟩
    | cons f0 f1 =>
      have hC1 : (bif decide ((f0 :: f1).length ≤ 1000000000) then
          (partsC ((f0 :: f1).length + 2) (Lib.replaceAll (f0 :: f1) [227, 128, 130] [46])).bind fun ps => bif decide (ps.length ≤ 1000000000000) then (bif decide (32 < ps.length) then some (([] : List (List UInt8)), (2 : Int)) else some (ps, 0)) else none
        else none) = some (ls, c) := hC
      rcases cond_some hC1 with ⟨hlen, hC2⟩ | ⟨_, hC2⟩
      case inr => cases hC2
      have hlen' := of_decide_eq_true hlen
      obtain ⟨ps, hps, hC3⟩ := Option.bind_eq_some_iff.1 hC2
      rcases cond_some hC3 with ⟨hl2, hC4⟩ | ⟨_, hC4⟩
      case inr => cases hC4
      have hl2' := of_decide_eq_true hl2
      have hcc : ∀ W : World, GI W m0 → Calls Tryz.prog 189 #[.func (.func 222) #[] #[.pointer (some ⟨W.heap.size, 0, none⟩)]] (W.alloc (.cells #[.string ⟨⟨Lib.replaceAll (f0 :: f1) [227, 128, 130] [46]⟩⟩] 9)) fun e W' =>
          ∃ v, e = .returned v ∧ W'.ownsRow (W.alloc (.cells #[.string ⟨⟨Lib.replaceAll (f0 :: f1) [227, 128, 130] [46]⟩⟩] 9)).heap.size 9 1 v ps.length (ps.map encS) ∧ Oth W.heap.size (W.alloc (.cells #[.string ⟨⟨Lib.replaceAll (f0 :: f1) [227, 128, 130] [46]⟩⟩] 9)) W' := fun W hgW => by
        have hbW : Below W.heap.size W (W.alloc (.cells #[.string ⟨⟨Lib.replaceAll (f0 :: f1) [227, 128, 130] [46]⟩⟩] 9)) := (Below.refl _ W).alloc (Nat.le_refl _) _
        have hgW' := gi_below hgW hbW
        refine collect_call 222 W.heap.size (enters_of Tryz.func222 (by kernel_rfl) rfl) ps _ (by rw [World.size_alloc]; omega) hgW' hl2' fun W2 hb2 => ?_
        exact parts_seq 2 (by omega) W.heap.size _ ps _ hps W2 (box_of_block (Boxed.new _ _ _) (hb2.block _ (by rw [World.size_alloc]; omega))) (gi_below hgW' hb2) fun b hb => by have := (hgW.b b hb).1; omega
      have hg1 := fun W hb => replace_call (f0 :: f1) hlen' W (gi_below hg hb)
      generalize Lib.replaceAll (f0 :: f1) [227, 128, 130] [46] = r at hps hcc hg1
      have fin : ∀ {w1 w2 w4 : World} {v : Value}, Below (w.alloc (.cells #[v0, v1, v2, v3, v4] 39)).heap.size (w.alloc (.cells #[v0, v1, v2, v3, v4] 39)) w1 → Below w1.heap.size w1 w2 → w4.ownsRow (w2.alloc (.cells #[.string ⟨⟨r⟩⟩] 9)).heap.size 9 1 v ps.length (ps.map encS) → Oth w2.heap.size (w2.alloc (.cells #[.string ⟨⟨r⟩⟩] 9)) w4 → Below w.heap.size w w4 ∧ w4.ownsRow w.heap.size 9 1 v ps.length (ps.map encS) := by
        intro w1 w2 w4 v h1 h2 h3 h4
        have b2 : Below w.heap.size w w2 := (hW0.trans (h1.mono hW0.size)).trans (h2.mono (by have := hW0.size; have := h1.size; omega))
        have b3 : Below w.heap.size w (w2.alloc (.cells #[.string ⟨⟨r⟩⟩] 9)) := b2.alloc b2.size _
        refine ⟨below_oth b3 b3.size b2.size h4, h3.1, ?_⟩
        rcases h3.2 with h | ⟨g, cap, cur, e1, e2, e3⟩
        · exact .inl h
        · exact .inr ⟨g, cap, cur, e1, Nat.le_trans b3.size e2, e3⟩
      have Fin : Hid _ := @fin
      clear fin
      by_cases h32 : 32 < ps.length
      · rw [decide_eq_true h32, cond_true] at hC4
        have hC' : (([] : List (List UInt8)), (2 : Int)) = (ls, c) := Option.some.inj hC4
        cases hC'
        clear hC hC1 hC2 hC3 hC4
        go_enter Tryz.func157, Tryz.ntmps157
        go_wp2_with (first
          | (go_at_call 151; refine hF.mono ?_; rintro e w1 ⟨rfl, hb1⟩)
          | (go_at_call 188; refine (hg1 _ (hW0.trans (hb1.mono hW0.size))).mono ?_; rintro e w2 ⟨rfl, hb2⟩)
          | (go_at_call 190; refine (parts_mk r _).mono ?_; rintro e w3 ⟨rfl, rfl⟩)
          | (go_at_call 189; have hgw2 : GI w2 m0 := gi_below (gi_below (gi_below hg hW0) hb1) hb2; refine (hcc _ hgw2).mono ?_; rintro e w4 ⟨v, rfl, hrow, hoth⟩; obtain ⟨sa, sc, rfl⟩ := row_slice hrow)
          | go_in)
        go_returns
        exact ⟨_, rfl, (Fin.out hb1 hb2 hrow hoth).1, World.ownsRow_nil _ _ _ _⟩
      · rw [decide_eq_false h32, cond_false] at hC4
        have hC' : (ps, (0 : Int)) = (ls, c) := Option.some.inj hC4
        cases hC'
        clear hC hC1 hC2 hC3 hC4
        go_enter Tryz.func157, Tryz.ntmps157
        go_wp2_with (first
          | (go_at_call 151; refine hF.mono ?_; rintro e w1 ⟨rfl, hb1⟩)
          | (go_at_call 188; refine (hg1 _ (hW0.trans (hb1.mono hW0.size))).mono ?_; rintro e w2 ⟨rfl, hb2⟩)
          | (go_at_call 190; refine (parts_mk r _).mono ?_; rintro e w3 ⟨rfl, rfl⟩)
          | (go_at_call 189; have hgw2 : GI w2 m0 := gi_below (gi_below (gi_below hg hW0) hb1) hb2; refine (hcc _ hgw2).mono ?_; rintro e w4 ⟨v, rfl, hrow, hoth⟩; obtain ⟨sa, sc, rfl⟩ := row_slice hrow)
          | go_in)
        go_returns
        exact ⟨_, rfl, (Fin.out hb1 hb2 hrow hoth).1, (Fin.out hb1 hb2 hrow hoth).2⟩
set_option maxHeartbeats 4000000 in
theorem values_seq (n : Nat) (hn : 1 ≤ n) (Bs base : Nat) (v : Value) (xs : List (List UInt8)) (K : Nat → Prop) (w : World) (hb : Boxed w Bs 89 v) (hrow : w.ownsRow base 9 1 v xs.length (xs.map encS)) (hlen : xs.length ≤ 1000000000000) (hKb : K Bs) (hKv : ∀ b, v.ownBlock = some b → K b) (Bd : Nat) :
    SeqD Fence.wide n Tryz.prog 191 #[.pointer (some ⟨Bs, 0, none⟩)] (fun x : List UInt8 => #[Value.string ⟨⟨x⟩⟩]) K Bd xs w := by
  intro l J Jx W hW hJ hJx hY h0
  have hb' : Boxed W Bs 89 v := (hW.block Bs hb.lt).trans hb
  have hc := hb'.cell
  rcases hrow.2 with ⟨rfl, hn0⟩ | ⟨g, cap, cur, rfl, hg1, hg2, hg3, hg4, hg5, hg6⟩
  · have hx : xs = [] := List.eq_nil_of_length_eq_zero hn0
    subst hx
    refine callsIn_of_wp Tryz.func191 rfl trivial ?_ rfl
    simp only [Tryz.ntmps191, List.size_toArray, List.length_cons, List.length_nil, Nat.reduceAdd, Nat.reduceSub, Array.replicate_succ, Array.replicate_zero, List.push_toArray, List.append_toArray, List.nil_append, List.cons_append]
    gi_wp2
    gi_loopw [7] (fun i wr => i = .int .i64 0 ∧ J [] wr) (fun _ _ => 0)
    case atStart => exact ⟨rfl, h0⟩
    case round =>
      obtain ⟨rfl, hJs⟩ := hrel
      gi_wp2
      go_end0
      exact ⟨⟨_, rfl⟩, .inl hJs⟩
  · have hKg : K g := hKv g rfl
    have hgW : W.heap[g]? = some (.cells cur 9 (0, 0)) := (hW.block g (lt_of_some hg2)).trans hg2
    have hcur : ∀ (k : Nat) x, xs[k]? = some x → cur[k]? = some (.string ⟨⟨x⟩⟩) := fun k x hk => by
      have hlt : k < xs.length := (List.getElem?_eq_some_iff.1 hk).1
      have h1 : (cur.toList.take (xs.length * 1))[k]? = some (encS x) := by rw [hg6, List.getElem?_map, hk]; rfl
      rw [List.getElem?_take_of_lt (by omega), Array.getElem?_toList] at h1
      exact h1
    refine callsIn_of_wp Tryz.func191 rfl trivial ?_ rfl
    simp only [Tryz.ntmps191, List.size_toArray, List.length_cons, List.length_nil, Nat.reduceAdd, Nat.reduceSub, Array.replicate_succ, Array.replicate_zero, List.push_toArray, List.append_toArray, List.nil_append, List.cons_append]
    generalize hN : xs.length = N at *
    gi_wp2
    gi_loopw [7] (fun i wr => ∃ k : Nat, i = .int .i64 k ∧ k ≤ N ∧ Hid (J (xs.take k) wr) ∧ Hid (wr.heap[g]? = some (.cells cur 9 (0, 0)))) (fun i _ => N - (intOf i).toNat)
    case atStart => exact ⟨0, rfl, Nat.zero_le _, h0, hgW⟩
    case round =>
      obtain ⟨k, rfl, hk, hJs, hgr⟩ := hrel
      by_cases hlt : k < N
      · obtain ⟨x, hx⟩ : ∃ x, xs[k]? = some x := ⟨_, List.getElem?_eq_getElem (by omega)⟩
        have htk : xs.take (k + 1) = xs.take k ++ [x] := by rw [List.take_add_one, hx]; rfl
        have hpre : xs.take k ++ [x] <+: xs := htk ▸ List.take_prefix _ _
        have hcx : wr.cell? ⟨g, k, none⟩ = some (.string ⟨⟨x⟩⟩) := by simp only [World.cell?, hgr.out]; exact hcur k x hx
        obtain ⟨fn, tmps, assign, body, hy, hR⟩ := hY _ x wr hpre hJs.out
        clear hcur
        gi_wp2
        refine hR.mono ?_
        rintro e W3 (⟨rfl, hJ3, hs3, hk3⟩ | ⟨rfl, hJx3⟩)
        · have hg3 : Hid (W3.heap[g]? = some (.cells cur 9 (0, 0))) := (hk3 g hKg).trans hgr.out
          have hJ4 : Hid (J (xs.take (k + 1)) W3) := by rw [htk]; exact hJ3
          gi_wp2
          go_roundw
          case rel => exact ⟨k + 1, by simp, by omega, hJ4, hg3⟩
          case measure => simp [intOf]; omega
        · gi_wp2
          refine bodyPost_ret (results_none rfl _ _ _) rfl ?_
          exact ⟨⟨_, rfl⟩, .inr ⟨_, hpre, hJx3⟩⟩
      · obtain rfl : k = N := by omega
        gi_wp2
        go_end0
        exact ⟨⟨_, rfl⟩, .inl (by have := hJs.out; rwa [List.take_of_length_le (by omega)] at this)⟩
set_option maxHeartbeats 4000000 in
theorem values_mk (a : Option Addr) (n cap : Nat) (w : World) : Calls Tryz.prog 158 #[.slice a n cap] w fun e w' => e = .returned (.func (.func 191) #[] #[.pointer (some ⟨w.heap.size, 0, none⟩)]) ∧ w' = w.alloc (.cells #[.slice a n cap] 89) := by
  go_enter Tryz.func158, Tryz.ntmps158
  go_wp2
  go_returns
  exact ⟨rfl, rfl⟩
def K0 : Calls' := fun f => Ae.lookA f []
theorem kok0 : KOk Tryz.prog K0 := kok_nil _
noncomputable def body124 : Code := match subc (code Tryz.f124) [1, 1, 1, 1, 0, 1, 0] with | .rangeFunc _ _ _ b => b | c => c
noncomputable def ops11 : Array Oper := match subc body124 [0, 1, 1, 1] with | .region _ ops _ => ops | _ => #[]
def t11 (x y : List UInt8) : List AV := [.top, .top, .top, .top, .top, .top, .top, .top, .top, .ptr 2 0, .ptr 3 0, .top, .str x, .top, .str y] ++ List.replicate 45 .top
def o11 (ps qs : List (List UInt8)) : Store := [[.rowc 9 .str ps], [.rowc 9 .str qs], [.row 0], [.row 1]]
def o11' (ps qs : List (List UInt8)) (x y : List UInt8) : Store := [[], [], [.row 5], [.row 7], [.rowc 9 .str [x]], [.rowc 9 .str (ps ++ [x])], [.rowc 9 .str [y]], [.rowc 9 .str (qs ++ [y])]]
theorem r11 (ps qs : List (List UInt8)) (x y : List UInt8) : dregion Γ K0 ops11 ⟨t11 x y, o11 ps qs⟩ (fun s => some s.o) =
    bif decide (ps.length + 1 ≤ 140737488355328 / 16) then (bif decide (qs.length + 1 ≤ 140737488355328 / 16) then some (o11' ps qs x y) else none) else none := by kernel_rfl
theorem nd11 : ∀ (i : Nat) o, ops11[i]? = some o → ∀ c, o.op ≠ .defer c := by
  have h : (ops11.toList.all fun o => match o.op with | .defer _ => false | _ => true) = true := by kernel_rfl
  intro i o ho c hc
  have := List.all_eq_true.1 h o (Array.mem_toList_iff.2 (Array.mem_of_getElem? ho))
  rw [hc] at this
  cases this
theorem repL_of {w : World} {m : Md} {g : List Value} : ∀ (av : List AV) (vs : List Value), av.length = vs.length → (∀ (i : Nat) v, vs[i]? = some v → RepV w m g (av.getD i .top) v) → RepL w m g av vs
  | [], [], _, _ => rfl
  | a :: av, v :: vs, hl, h => ⟨v, vs, rfl, h 0 v rfl, repL_of av vs (by simpa using hl) fun i u hu => h (i + 1) u hu⟩
structure Two (base A9 A10 : Nat) (W : World) (ps qs : List (List UInt8)) : Prop where
  ex : ∃ va vu t9 t10, Boxed W A9 t9 va ∧ Boxed W A10 t10 vu ∧ W.ownsRow base 9 1 va ps.length (ps.map encS) ∧ W.ownsRow base 9 1 vu qs.length (qs.map encS) ∧
    (∀ b, va.ownBlock = some b → b ≠ A9 ∧ b ≠ A10 ∧ vu.ownBlock ≠ some b) ∧ ∀ b, vu.ownBlock = some b → b ≠ A9 ∧ b ≠ A10
def TwoB (A9 A10 : Nat) (va vu : Value) (b : Nat) : Prop := b = A9 ∨ b = A10 ∨ va.ownBlock = some b ∨ vu.ownBlock = some b
theorem repE_enc {w : World} {m : Md} {l : List (List UInt8)} {xs : List Value} (h : RepE w m .str l xs) (hl : xs.length = l.length * 1) : xs = l.map encS := by
  apply List.ext_getElem?
  intro j
  rw [List.getElem?_map]
  by_cases hj : j < l.length
  · have h1 : ((xs.drop (j * 1)).take 1) = [.string ⟨⟨l[j]⟩⟩] := h j l[j] (List.getElem?_eq_getElem hj)
    have h2 : ((xs.drop (j * 1)).take 1)[0]? = some (.string ⟨⟨l[j]⟩⟩) := by rw [h1]; rfl
    rw [List.getElem?_take_of_lt (by omega), List.getElem?_drop] at h2
    simp only [Nat.mul_one, Nat.add_zero] at h2
    rw [h2, List.getElem?_eq_getElem hj]
    rfl
  · rw [List.getElem?_eq_none (by omega), List.getElem?_eq_none (by omega)]
    rfl
theorem enc_repE {w : World} {m : Md} (l : List (List UInt8)) : RepE w m .str l (l.map encS) := by
  intro j x hj
  change List UInt8 at x
  change l[j]? = some x at hj
  show ((l.map encS).drop (j * 1)).take 1 = [.string ⟨⟨x⟩⟩]
  have hlt := (List.getElem?_eq_some_iff.1 hj).1
  have : ((l.map encS).drop j) = encS x :: (l.map encS).drop (j + 1) := by
    rw [← List.map_drop, List.drop_eq_getElem_cons hlt, List.map_cons, List.map_drop]
    rw [(List.getElem?_eq_some_iff.1 hj).2]
  rw [Nat.mul_one, this]
  rfl
theorem row_zero {W : World} {base : Nat} {e : TypeId} {size n : Nat} {v : Value} {xs : List Value} (h : W.ownsRow base e size v n xs) : W.ownsRow 0 e size v n xs := by
  refine ⟨h.1, ?_⟩
  rcases h.2 with h | ⟨g, cap, cur, e1, h2, h3⟩
  · exact .inl h
  · exact .inr ⟨g, cap, cur, e1, Nat.zero_le _, h3⟩
theorem row_ge {W : World} {base : Nat} {e : TypeId} {size n : Nat} {v : Value} {xs : List Value} (h : W.ownsRow base e size v n xs) : ∀ b, v.ownBlock = some b → base ≤ b ∧ b < W.heap.size ∧ ∃ o, W.heap[b]? = some o ∧ o.isCells = true := by
  rcases h.2 with ⟨rfl, _⟩ | ⟨g, cap, cur, rfl, h2, h3, _⟩
  · intro b hb; cases hb
  · intro b hb; cases hb; exact ⟨h2, lt_of_some h3, _, h3, rfl⟩
theorem box_repO {w : World} {m : Md} {g : List Value} {A : Nat} {t : TypeId} {v : Value} {i : Nat} (h : Boxed w A t v) (hi : g[i]? = some v) (hv : ∃ ao n c, v = .slice ao n c) : RepO w m g (.pointer (some ⟨A, 0, none⟩)) [.row i] :=
  ⟨fun _ _ _ e => (by cases e), fun _ _ e => (by cases e), fun _ => ⟨A, t, _, rfl, h, v, [], rfl, ⟨hi, hv⟩, rfl⟩, fun _ _ e => (by cases e), trivial⟩
theorem row_repO {w : World} {m : Md} {g : List Value} {base : Nat} {v : Value} {l : List (List UInt8)} (h : w.ownsRow base 9 1 v l.length (l.map encS)) : RepO w m g v [.rowc 9 .str l] :=
  ⟨fun _ _ _ e => (by cases e; exact ⟨_, row_zero h, enc_repE l⟩), fun _ _ e => (by cases e), fun e => (by cases e), fun _ _ e => (by cases e), trivial⟩
theorem region11 (l n0 : Nat) (ps qs : List (List UInt8)) (x y : List UInt8) (hp : ps.length ≤ 1000000000000) (hq : qs.length ≤ 1000000000000) (tm : List Value) (base R A9 A10 : Nat) (hR : base ≤ R) (W : World) (hg : GI W m0) (hgb : ∀ b ∈ GlobB, b < base)
    (hne : A9 ≠ A10) (h9 : base ≤ A9) (h10 : base ≤ A10) (h : Two R A9 A10 W ps qs) (hlen : tm.length = 60) (hbase : R ≤ W.heap.size)
    (e9 : tm[9]? = some (.pointer (some ⟨A9, 0, none⟩))) (e10 : tm[10]? = some (.pointer (some ⟨A10, 0, none⟩))) (e12 : tm[12]? = some (.string ⟨⟨x⟩⟩)) (e14 : tm[14]? = some (.string ⟨⟨y⟩⟩)) :
    (Code.region 11 ops11 true).wpIn (Fence.wide.inRound l) n0 Tryz.prog (fun e a' w' => e = .normal ∧ Two R A9 A10 w' (ps ++ [x]) (qs ++ [y]) ∧ w'.os = W.os ∧ w'.tape = W.tape ∧ w'.output = W.output ∧ W.heap.size ≤ w'.heap.size ∧
      (∀ b, b < R → b ≠ A9 → b ≠ A10 → w'.heap[b]? = W.heap[b]?) ∧ ∀ (b : Nat) (o : Obj), W.heap[b]? = some o → o.isCells = false → w'.heap[b]? = some o) { tmps := tm.toArray, defers := [] } W := by
  obtain ⟨va, vu, t9, t10, b9, b10, r9, r10, s1, s2⟩ := h.ex
  have g1 := row_ge r9
  have g2 := row_ge r10
  obtain ⟨sa1, sc1, es1⟩ := row_slice r9
  obtain ⟨sa2, sc2, es2⟩ := row_slice r10
  have hmu : ∀ b, TwoB A9 A10 va vu b → base ≤ b ∧ b < W.heap.size ∧ ∃ o, W.heap[b]? = some o ∧ o.isCells = true := by
    rintro b (rfl | rfl | hb | hb)
    · exact ⟨h9, b9.lt, _, b9, rfl⟩
    · exact ⟨h10, b10.lt, _, b10, rfl⟩
    · have := g1 b hb; exact ⟨by omega, this.2⟩
    · have := g2 b hb; exact ⟨by omega, this.2⟩
  have hrep : Rep W ⟨TwoB A9 A10 va vu, TwoB A9 A10 va vu⟩ [va, vu, .pointer (some ⟨A9, 0, none⟩), .pointer (some ⟨A10, 0, none⟩)] ⟨t11 x y, o11 ps qs⟩ { tmps := tm.toArray, defers := [] } := by
    refine ⟨?_, rfl, ?_⟩
    · refine repL_of _ _ (by simp [t11, hlen]) fun i v hv => ?_
      have hv' : tm[i]? = some v := hv
      have hi : i < 60 := hlen ▸ (List.getElem?_eq_some_iff.1 hv').1
      by_cases i9 : i = 9
      · subst i9; rw [e9] at hv'; cases hv'; exact ⟨A9, rfl, rfl⟩
      by_cases i10 : i = 10
      · subst i10; rw [e10] at hv'; cases hv'; exact ⟨A10, rfl, rfl⟩
      by_cases i12 : i = 12
      · subst i12; rw [e12] at hv'; cases hv'; rfl
      by_cases i14 : i = 14
      · subst i14; rw [e14] at hv'; cases hv'; rfl
      have ht : (t11 x y).getD i .top = .top := by
        have hc : i = 0 ∨ i = 1 ∨ i = 2 ∨ i = 3 ∨ i = 4 ∨ i = 5 ∨ i = 6 ∨ i = 7 ∨ i = 8 ∨ i = 11 ∨ i = 13 ∨ 15 ≤ i := by omega
        rcases hc with rfl | rfl | rfl | rfl | rfl | rfl | rfl | rfl | rfl | rfl | rfl | hc
        iterate 11 rfl
        unfold t11
        rw [List.getD_eq_getElem?_getD, List.getElem?_append_right (by simpa using hc), List.getElem?_replicate]
        split <;> rfl
      rw [ht]
      trivial
    · refine ⟨⟨hg.i, fun b hb => ⟨(hg.b b hb).1, fun hc => ?_⟩⟩, rfl, ?_, fun _ h => h, fun b hb => (hmu b hb).2.1, ?_, ?_⟩
      · have := (hmu b hc).1; have := hgb b hb; omega
      · rintro b ⟨i, gi, cs, k1, k2, k3⟩
        match i with
        | 0 => cases k1; cases k2; exact .inr (.inr (.inl k3))
        | 1 => cases k1; cases k2; exact .inr (.inr (.inr k3))
        | 2 => cases k1; cases k2; cases k3; exact .inl rfl
        | 3 => cases k1; cases k2; cases k3; exact .inr (.inl rfl)
        | i + 4 => cases k1
      · intro i gi cs k1 k2
        match i with
        | 0 => cases k1; cases k2; exact row_repO r9
        | 1 => cases k1; cases k2; exact row_repO r10
        | 2 => cases k1; cases k2; exact box_repO b9 rfl ⟨_, _, _, es1⟩
        | 3 => cases k1; cases k2; exact box_repO b10 rfl ⟨_, _, _, es2⟩
        | i + 4 => cases k1
      · intro i j gi gj ci cj b hij k1 k2 k3 k4 k5 k6
        match i, j with
        | 0, 0 | 1, 1 | 2, 2 | 3, 3 => exact hij rfl
        | 0, 1 => cases k1; cases k2; cases k3; cases k4; exact (s1 b k5).2.2 k6
        | 1, 0 => cases k1; cases k2; cases k3; cases k4; exact (s1 b k6).2.2 k5
        | 0, 2 => cases k1; cases k2; cases k3; cases k4; cases k6; exact (s1 _ k5).1 rfl
        | 0, 3 => cases k1; cases k2; cases k3; cases k4; cases k6; exact (s1 _ k5).2.1 rfl
        | 1, 2 => cases k1; cases k2; cases k3; cases k4; cases k6; exact (s2 _ k5).1 rfl
        | 1, 3 => cases k1; cases k2; cases k3; cases k4; cases k6; exact (s2 _ k5).2 rfl
        | 2, 0 => cases k1; cases k2; cases k3; cases k4; cases k5; exact (s1 _ k6).1 rfl
        | 3, 0 => cases k1; cases k2; cases k3; cases k4; cases k5; exact (s1 _ k6).2.1 rfl
        | 2, 1 => cases k1; cases k2; cases k3; cases k4; cases k5; exact (s2 _ k6).1 rfl
        | 3, 1 => cases k1; cases k2; cases k3; cases k4; cases k5; exact (s2 _ k6).2 rfl
        | 2, 3 => cases k1; cases k2; cases k3; cases k4; cases k5; cases k6; exact hne rfl
        | 3, 2 => cases k1; cases k2; cases k3; cases k4; cases k5; cases k6; exact hne rfl
        | i + 4, _ => cases k1
        | _, j + 4 => cases k3
  have hlim : (140737488355328 : Nat) / 16 = 8796093022208 := rfl
  have hrun : dregion Γ K0 ops11 ⟨t11 x y, o11 ps qs⟩ (fun s => some s.o) = some (o11' ps qs x y) := by
    rw [r11, hlim, decide_eq_true (show ps.length + 1 ≤ 8796093022208 by omega), decide_eq_true (show qs.length + 1 ≤ 8796093022208 by omega)]
    rfl
  refine wpIn_mono (dregion_in l n0 nd11 hm hΓ kok0 hrep hrun (Q := fun a' w' => Two R A9 A10 w' (ps ++ [x]) (qs ++ [y]) ∧ w'.os = W.os ∧ w'.tape = W.tape ∧ w'.output = W.output ∧ W.heap.size ≤ w'.heap.size ∧
      (∀ b, b < R → b ≠ A9 → b ≠ A10 → w'.heap[b]? = W.heap[b]?) ∧ ∀ (b : Nat) (o : Obj), W.heap[b]? = some o → o.isCells = false → w'.heap[b]? = some o) ?_) fun e a' w' h => h
  intro st' a' w' m' g' k1 k2 k3 k4
  have ho : st'.o = o11' ps qs x y := Option.some.inj k1
  have hob := k2.obj
  rw [ho] at hob
  have q2 : g'[2]? = some (.pointer (some ⟨A9, 0, none⟩)) := k4 2 _ rfl
  have q3 : g'[3]? = some (.pointer (some ⟨A10, 0, none⟩)) := k4 3 _ rfl
  have hlen8 : g'.length = 8 := hob.len
  obtain ⟨v5, q5⟩ : ∃ v, g'[5]? = some v := ⟨_, List.getElem?_eq_getElem (by omega)⟩
  obtain ⟨v7, q7⟩ : ∃ v, g'[7]? = some v := ⟨_, List.getElem?_eq_getElem (by omega)⟩
  obtain ⟨b2, ty2, arr2, z1, z2, z3⟩ := (hob.obj 2 _ [.row 5] q2 rfl).box rfl
  obtain ⟨b3, ty3, arr3, y1, y2, y3⟩ := (hob.obj 3 _ [.row 7] q3 rfl).box rfl
  cases z1
  cases y1
  obtain ⟨u5, r5, z4, ⟨z5, z6⟩, z7⟩ := z3
  obtain ⟨u7, r7, y4, ⟨y5, y6⟩, y7⟩ := y3
  rw [q5] at z5
  rw [q7] at y5
  cases z5
  cases y5
  have z7' : r5 = [] := z7
  have y7' : r7 = [] := y7
  subst z7' y7'
  obtain ⟨xs5, o5, p5⟩ := (hob.obj 5 _ [.rowc 9 .str (ps ++ [x])] q5 rfl).rowc _ _ _ rfl
  obtain ⟨xs7, o7, p7⟩ := (hob.obj 7 _ [.rowc 9 .str (qs ++ [y])] q7 rfl).rowc _ _ _ rfl
  have hx5 := repE_enc p5 o5.1
  have hx7 := repE_enc p7 o7.1
  subst hx5 hx7
  have hge : ∀ (i : Nat) gi cs b, i ≠ 2 → i ≠ 3 → g'[i]? = some gi → (o11' ps qs x y)[i]? = some cs → blk gi cs = some b → R ≤ b := fun i gi cs b n2 n3 c1 c2 c3 => by
    by_cases hlt : b < W.heap.size
    · rcases k3.mutb b hlt (hob.nm b (hob.sub b ⟨i, gi, cs, c1, c2, c3⟩)) with h | h | h | h
      · exact (hob.sep i 2 _ _ _ _ _ n2 c1 c2 q2 rfl c3 (by rw [h]; rfl)).elim
      · exact (hob.sep i 3 _ _ _ _ _ n3 c1 c2 q3 rfl c3 (by rw [h]; rfl)).elim
      · exact (g1 b h).1
      · exact (g2 b h).1
    · omega
  have hkeep : ∀ (b : Nat) (o : Obj), W.heap[b]? = some o → ¬ TwoB A9 A10 va vu b → w'.heap[b]? = some o := fun b o hb hn => (k3.keep b (lt_of_some hb) hn).trans hb
  refine ⟨⟨v5, v7, ty2, ty3, ?_, ?_, ?_, ?_, ?_, ?_⟩, k3.os, k3.tape, k3.output, k3.size, ?_, ?_⟩
  · have : arr2 = #[v5] := by cases arr2; simpa using z4
    subst this; exact z2
  · have : arr3 = #[v7] := by cases arr3; simpa using y4
    subst this; exact y2
  · exact own_base o5 fun b hb => hge 5 _ _ b (by decide) (by decide) q5 rfl hb
  · exact own_base o7 fun b hb => hge 7 _ _ b (by decide) (by decide) q7 rfl hb
  · intro b hb
    refine ⟨?_, ?_, fun hc => ?_⟩
    · rintro rfl; exact hob.sep 5 2 _ _ _ _ _ (by decide) q5 rfl q2 rfl hb rfl
    · rintro rfl; exact hob.sep 5 3 _ _ _ _ _ (by decide) q5 rfl q3 rfl hb rfl
    · exact hob.sep 5 7 _ _ _ _ _ (by decide) q5 rfl q7 rfl hb hc
  · intro b hb
    refine ⟨?_, ?_⟩
    · rintro rfl; exact hob.sep 7 2 _ _ _ _ _ (by decide) q7 rfl q2 rfl hb rfl
    · rintro rfl; exact hob.sep 7 3 _ _ _ _ _ (by decide) q7 rfl q3 rfl hb rfl
  · intro b hb hn9 hn10
    refine k3.keep b (by omega) fun hc => ?_
    rcases hc with h | h | h | h
    · exact hn9 h
    · exact hn10 h
    · have := (g1 b h).1; omega
    · have := (g2 b h).1; omega
  · intro b o hb hc
    refine hkeep b o hb fun hcc => ?_
    obtain ⟨_, _, o', e1, e2⟩ := hmu b hcc
    rw [hb] at e1
    cases e1
    rw [hc] at e2
    cases e2
def bothF (A U : List UInt8 → Option (List UInt8 × Int)) : List (List UInt8) → List (List UInt8) → List (List UInt8) → Option (Int × List (List UInt8) × List (List UInt8))
  | [], ps, qs => some (0, ps, qs)
  | x :: xs, ps, qs => (A x).bind fun a => bif a.2 != 0 then some (a.2, [], []) else (U x).bind fun u => bothF A U xs (ps ++ [a.1]) (qs ++ [u.1])
theorem two_othR {N Bs R A9 A10 : Nat} {W W' : World} {ps qs : List (List UInt8)} (h : Two R A9 A10 W ps qs) (h9 : A9 ≠ Bs) (h10 : A10 ≠ Bs) (hR : Bs < R) (ho : OthR N Bs W W') : Two R A9 A10 W' ps qs := by
  obtain ⟨va, vu, t9, t10, b9, b10, r9, r10, s1, s2⟩ := h.ex
  exact ⟨va, vu, t9, t10, boxed_oth b9 h9 ho, boxed_oth b10 h10 ho, ownsRow_oth hR r9 ho, ownsRow_oth hR r10 ho, s1, s2⟩
theorem row_repT {W : World} {base : Nat} {v : Value} {l : List (List UInt8)} (h : W.ownsRow base 9 1 v l.length (l.map encS)) : RepT W m0 (.lst .str) l [v] := by
  rcases h.2 with ⟨rfl, h0⟩ | ⟨g, cap, cur, rfl, h2, h3, h4, h5, h6, h7⟩
  · have hl : l = [] := List.eq_nil_of_length_eq_zero h0
    subst hl
    exact ⟨none, 0, rfl, Nat.le_refl _, by omega, fun _ => rfl, fun j x hj => by
      have hj' : ([] : List (List UInt8))[j]? = some x := hj
      simp at hj'⟩
  · refine ⟨_, cap, rfl, h4, by simp only [maxLen] at h5; omega, fun e => (by cases e), fun j x hj => ?_⟩
    change List UInt8 at x
    change l[j]? = some x at hj
    refine ⟨g, 0, [.string ⟨⟨x⟩⟩], rfl, rfl, rfl, lt_of_some h3, fun hm => hm, fun i u hu => ?_⟩
    have hlt := (List.getElem?_eq_some_iff.1 hj).1
    match i with
    | i + 1 => cases hu
    | 0 =>
      cases hu
      have h1 : (cur.toList.take (l.length * 1))[j]? = some (encS x) := by rw [h7, List.getElem?_map, hj]; rfl
      rw [List.getElem?_take_of_lt (by omega), Array.getElem?_toList] at h1
      simp only [World.cell?, h3]
      show cur[0 + j * 1 + 0]? = _
      rw [show 0 + j * 1 + 0 = j by omega]
      exact h1
theorem join_call {W : World} {base : Nat} {v : Value} {l : List (List UInt8)} {r : List UInt8} (h : W.ownsRow base 9 1 v l.length (l.map encS)) (hj : joinF (l, [46], ()) = some (r, ())) (hg : GI W m0) :
    Calls Tryz.prog 73 #[v, .string ⟨#[46]⟩] W fun e W' => e = .returned (.string ⟨⟨r⟩⟩) ∧ Below W.heap.size W W' := by
  have hj' : C73 (l, [46], ()) = some (r, ()) := hj
  refine (FnOk.call0 (v := (l, [46], ())) (y := (r, ())) ok73 Tryz.func73 (by kernel_rfl) (by kernel_rfl) hg (fun _ h => h.elim) rfl ⟨v, _, rfl, row_repT h, _, _, rfl, rfl, rfl⟩ rfl hj' ?_).mono fun e w' ⟨rv, h1, h2, ax, l', u, h3, h4⟩ => ?_
  · intro ax l' u h3
    cases osel_one_inv h3
    rfl
  · cases osel_one_inv h3
    obtain ⟨v, r', e1, e2, e4⟩ := h4
    have e4' : r' = [] := e4
    subst e4'
    cases e1
    subst h1 e2
    exact ⟨rfl, h2⟩
def outF (res : Int × List (List UInt8) × List (List UInt8)) : Option (List UInt8 × List UInt8 × Int) :=
  bif res.1 != 0 then some ([], [], res.1) else (joinF (res.2.1, [46], ())).bind fun ja => bif decide (253 < ja.1.length) then some ([], [], 5) else (joinF (res.2.2, [46], ())).bind fun ju => some (ja.1, ju.1, 0)
set_option maxHeartbeats 4000000 in
theorem both_walk (v0 v1 v2 v3 v4 : Value) (s : List UInt8) (ls : List (List UInt8)) (A U : List UInt8 → Option (List UInt8 × Int)) (res : Int × List (List UInt8) × List (List UInt8)) (w : World) (hg : GI w m0) (hll : ls.length ≤ 32)
    (hres : bothF A U ls [] [] = some res) (oa ou : List UInt8) (oc : Int) (hout : outF res = some (oa, ou, oc))
    (hlab : ∀ W, Below w.heap.size w W → Calls Tryz.prog 157 #[.agg #[v0, v1, v2, v3, v4], .string ⟨⟨s⟩⟩] W fun e w' => ∃ v, e = .returned (.tuple #[v, .int .i64 0]) ∧ Below W.heap.size W w' ∧ w'.ownsRow W.heap.size 9 1 v ls.length (ls.map encS))
    (hA : ∀ x r, A x = some r → ∀ W, Below w.heap.size w W → Calls Tryz.prog 159 #[.agg #[v0, v1, v2, v3, v4], .string ⟨⟨x⟩⟩] W fun e W' => e = .returned (.tuple #[.string ⟨⟨r.1⟩⟩, .int .i64 r.2]) ∧ Below W.heap.size W W')
    (hU : ∀ x r, U x = some r → ∀ W, Below w.heap.size w W → Calls Tryz.prog 160 #[.agg #[v0, v1, v2, v3, v4], .string ⟨⟨x⟩⟩] W fun e W' => e = .returned (.tuple #[.string ⟨⟨r.1⟩⟩, .int .i64 r.2]) ∧ Below W.heap.size W W') :
    Calls Tryz.prog 124 #[.agg #[v0, v1, v2, v3, v4], .string ⟨⟨s⟩⟩] w fun e w' => e = .returned (.tuple #[.string ⟨⟨oa⟩⟩, .string ⟨⟨ou⟩⟩, .int .i64 oc]) ∧ Below w.heap.size w w' := by
  refine (callsIn_wide (n := 3)).1 ?_
  refine callsIn_of_wp_marks Tryz.func124 rfl trivial ?_ rfl
  simp only [Tryz.ntmps124, List.size_toArray, List.length_cons, List.length_nil, Nat.reduceAdd, Nat.reduceSub, Array.replicate_succ, Array.replicate_zero, List.push_toArray, List.append_toArray, List.nil_append, List.cons_append]
  have hW0 : Below w.heap.size w ((((w.alloc (.cells #[v0, v1, v2, v3, v4] 39)).alloc (.cells #[.string ⟨#[]⟩] 9)).alloc (.cells #[.string ⟨#[]⟩] 9)).alloc (.cells #[.int .i64 0] 44)) :=
    ((((Below.refl _ w).alloc (Nat.le_refl _) _).alloc (by simp) _).alloc (by simp <;> omega) _).alloc (by simp <;> omega) _
  gi_wp2_with (first
    | (refine ⟨trivial, ?_⟩; gi_at_call 157; refine (callsIn_wide.2 (hlab _ hW0)).mono ?_; rintro e w1 ⟨lv, rfl, hb1, hrow⟩; obtain ⟨la, lc, rfl⟩ := row_slice hrow)
    | (refine ⟨trivial, ?_⟩; gi_at_call 158; refine (callsIn_wide.2 (values_mk _ _ _ _)).mono ?_; rintro e w2 ⟨rfl, rfl⟩))
  have hb0 : Below w.heap.size w w1 := hW0.trans (hb1.mono hW0.size)
  have hsz1 : w.heap.size + 4 ≤ w1.heap.size := by have := hb1.size; simp at this; omega
  have hT : ∀ X, Below w1.heap.size w1 X → X.cell? ⟨w.heap.size, 0, none⟩ = some v0 ∧ X.cell? ⟨w.heap.size, 1, none⟩ = some v1 ∧ X.cell? ⟨w.heap.size, 2, none⟩ = some v2 ∧ X.cell? ⟨w.heap.size, 3, none⟩ = some v3 ∧ X.cell? ⟨w.heap.size, 4, none⟩ = some v4 := fun X hX => by
    have h1 : X.heap[w.heap.size]? = some (.cells #[v0, v1, v2, v3, v4] 39) := by
      rw [hX.block _ (by omega), hb1.block _ (by simp <;> omega), Below.heap_alloc _ _ _ (by simp <;> omega), Below.heap_alloc _ _ _ (by simp <;> omega), Below.heap_alloc _ _ _ (by simp), heap_alloc_new]
    exact ⟨by rw [cell_of_cells h1]; rfl, by rw [cell_of_cells h1]; rfl, by rw [cell_of_cells h1]; rfl, by rw [cell_of_cells h1]; rfl, by rw [cell_of_cells h1]; rfl⟩
  have hR : ∀ X, Below w1.heap.size w1 X → Boxed X (w.heap.size + 1) 9 (.string ⟨#[]⟩) ∧ Boxed X (w.heap.size + 1 + 1) 9 (.string ⟨#[]⟩) ∧ Boxed X (w.heap.size + 1 + 1 + 1) 44 (.int .i64 0) := fun X hX => by
    refine ⟨?_, ?_, ?_⟩
    · show X.heap[_]? = _
      rw [hX.block _ (by omega), hb1.block _ (by simp <;> omega), Below.heap_alloc _ _ _ (by simp <;> omega), Below.heap_alloc _ _ _ (by simp)]
      have := heap_alloc_new (w.alloc (.cells #[v0, v1, v2, v3, v4] 39)) (.cells #[.string ⟨#[]⟩] 9)
      rwa [World.size_alloc] at this
    · show X.heap[_]? = _
      rw [hX.block _ (by omega), hb1.block _ (by simp <;> omega), Below.heap_alloc _ _ _ (by simp)]
      have := heap_alloc_new ((w.alloc (.cells #[v0, v1, v2, v3, v4] 39)).alloc (.cells #[.string ⟨#[]⟩] 9)) (.cells #[.string ⟨#[]⟩] 9)
      rwa [World.size_alloc, World.size_alloc] at this
    · show X.heap[_]? = _
      rw [hX.block _ (by omega), hb1.block _ (by simp)]
      have := heap_alloc_new (((w.alloc (.cells #[v0, v1, v2, v3, v4] 39)).alloc (.cells #[.string ⟨#[]⟩] 9)).alloc (.cells #[.string ⟨#[]⟩] 9)) (.cells #[.int .i64 0] 44)
      rwa [World.size_alloc, World.size_alloc, World.size_alloc] at this
  have hg1 : GI w1 m0 := gi_below hg hb0
  have hW2 : Below w1.heap.size w1 (((w1.alloc (.cells #[.slice none 0 0] 89)).alloc (.cells #[.slice none 0 0] 89)).alloc (.cells #[.slice la ls.length lc] 89)) :=
    (((Below.refl _ w1).alloc (Nat.le_refl _) _).alloc (by simp) _).alloc (by simp <;> omega) _
  have hszN : (((w1.alloc (.cells #[.slice none 0 0] 89)).alloc (.cells #[.slice none 0 0] 89)).alloc (.cells #[.slice la ls.length lc] 89)).heap.size = w1.heap.size + 3 := by simp
  have hbv : Boxed (((w1.alloc (.cells #[.slice none 0 0] 89)).alloc (.cells #[.slice none 0 0] 89)).alloc (.cells #[.slice la ls.length lc] 89)) (w1.heap.size + 1 + 1) 89 (.slice la ls.length lc) := by
    have := Boxed.new ((w1.alloc (.cells #[.slice none 0 0] 89)).alloc (.cells #[.slice none 0 0] 89)) 89 (.slice la ls.length lc)
    rwa [World.size_alloc, World.size_alloc] at this
  have hb9 : Boxed (((w1.alloc (.cells #[.slice none 0 0] 89)).alloc (.cells #[.slice none 0 0] 89)).alloc (.cells #[.slice la ls.length lc] 89)) w1.heap.size 89 (.slice none 0 0) :=
    ((Boxed.new w1 89 (.slice none 0 0)).alloc _).alloc _
  have hb10 : Boxed (((w1.alloc (.cells #[.slice none 0 0] 89)).alloc (.cells #[.slice none 0 0] 89)).alloc (.cells #[.slice la ls.length lc] 89)) (w1.heap.size + 1) 89 (.slice none 0 0) := by
    have := (Boxed.new (w1.alloc (.cells #[.slice none 0 0] 89)) 89 (.slice none 0 0)).alloc (.cells #[.slice la ls.length lc] 89)
    rwa [World.size_alloc] at this
  have hrow2 : (((w1.alloc (.cells #[.slice none 0 0] 89)).alloc (.cells #[.slice none 0 0] 89)).alloc (.cells #[.slice la ls.length lc] 89)).ownsRow 0 9 1 (.slice la ls.length lc) ls.length (ls.map encS) := by
    have := row_zero hrow
    exact ((this.alloc _).alloc _).alloc _
  have hown : ∀ b, (Value.slice la ls.length lc).ownBlock = some b → b < w1.heap.size := fun b hb => ((row_ge hrow) b hb).2.1
  clear hlab
  refine wpIn_rangeFunc_dir (F := Fence.wide) (n := 3) rfl (by omega) (gf := 191) (lb := #[.pointer (some ⟨w1.heap.size + 1 + 1, 0, none⟩)]) rfl trivial (enters_of Tryz.func191 (by kernel_rfl) rfl)
    (K := fun b => b = w1.heap.size + 1 + 1 ∨ (Value.slice la ls.length lc).ownBlock = some b)
    (values_seq 2 (by omega) (w1.heap.size + 1 + 1) 0 _ ls _ _ hbv hrow2 (by omega) (.inl rfl) (fun b hb => .inr hb) (w1.heap.size + 1 + 1))
    (by rintro b (rfl | hb)
        · rw [hszN]; omega
        · have := hown b hb; rw [hszN]; omega) (by rw [hszN]; omega) (fun _ => rfl)
    (fun pre W => ∃ ps qs rest, ls = pre ++ rest ∧ bothF A U rest ps qs = some res ∧ ps.length = pre.length ∧ qs.length = pre.length ∧ Two (w1.heap.size + 3) w1.heap.size (w1.heap.size + 1) W ps qs ∧ Below w1.heap.size w1 W)
    (fun c pre W => c = .ret ∧ res.1 ≠ 0 ∧ Boxed W (w.heap.size + 1) 9 (.string ⟨#[]⟩) ∧ Boxed W (w.heap.size + 1 + 1) 9 (.string ⟨#[]⟩) ∧ Boxed W (w.heap.size + 1 + 1 + 1) 44 (.int .i64 res.1) ∧ Below w.heap.size w W)
    (fun pre X Y hs ho => by
      obtain ⟨ps, qs, rest, h1, h2, h3, h4, h5, h6⟩ := hs
      exact ⟨ps, qs, rest, h1, h2, h3, h4, two_othR h5 (by omega) (by omega) (by omega) ho, below_othR h6 (Nat.le_refl _) (by rw [hszN]; omega) (by omega) ho⟩)
    (fun c pre X Y hs ho => by
      obtain ⟨h1, h2, h3, h4, h5, h6⟩ := hs
      exact ⟨h1, h2, boxed_oth h3 (by omega) ho, boxed_oth h4 (by omega) ho, boxed_oth h5 (by omega) ho, below_othR h6 (Nat.le_refl _) (by rw [hszN]; omega) (by omega) ho⟩)
    ⟨[], [], ls, rfl, hres, rfl, rfl, ⟨_, _, _, _, hb9, hb10, World.ownsRow_nil _ _ _ _, World.ownsRow_nil _ _ _ _, fun b hb => (by cases hb), fun b hb => (by cases hb)⟩, hW2⟩
    (fun x => { tmps := #[.agg #[v0, v1, v2, v3, v4], .string ⟨⟨s⟩⟩, .pointer (some ⟨w.heap.size, 0, none⟩), undef, .pointer (some ⟨w.heap.size + 1, 0, none⟩), .pointer (some ⟨w.heap.size + 1 + 1, 0, none⟩), .pointer (some ⟨w.heap.size + 1 + 1 + 1, 0, none⟩), .slice la ls.length lc, .int .i64 0,
      .pointer (some ⟨w1.heap.size, 0, none⟩), .pointer (some ⟨w1.heap.size + 1, 0, none⟩), .string ⟨⟨x⟩⟩, undef, undef, undef, undef, undef, .tuple #[.slice la ls.length lc, .int .i64 0], .agg #[v0, v1, v2, v3, v4], .string ⟨⟨s⟩⟩, .tuple #[.slice la ls.length lc, .int .i64 0], .slice la ls.length lc, .int .i64 0, .int .i64 0, .bool false, undef, .slice la ls.length lc,
      .func (.func 191) #[] #[.pointer (some ⟨w1.heap.size + 1 + 1, 0, none⟩)], .string ⟨⟨x⟩⟩, undef, undef, undef, undef, undef, undef, undef, undef, undef, undef, undef, undef, undef, undef, undef, undef, undef, undef, undef, undef, undef, undef, undef, undef, undef, undef, undef, undef, undef, undef, undef], defers := [] }) ?assign ?body ?done ?stop
  case assign =>
    intro l x W K hK
    gi_wp2
    exact hK
  case body =>
    rintro l pre x W hsz hpre ⟨ps, qs, rest, hls, hbf, hlp, hlq, hTwo, hbel⟩
    obtain ⟨rest', rfl⟩ : ∃ r, rest = x :: r := by
      obtain ⟨t, ht⟩ := hpre
      rw [hls, List.append_assoc] at ht
      have := List.append_cancel_left ht
      exact ⟨t, by simpa using this.symm⟩
    simp only [bothF] at hbf
    obtain ⟨⟨a1, a2⟩, ha, hbf2⟩ := Option.bind_eq_some_iff.1 hbf
    simp only at hbf2
    rw [hszN] at hsz
    have hWw : Below w.heap.size w W := hb0.trans (hbel.mono (by omega))
    have hcA := hA x _ ha W hWw
    obtain ⟨t0, t1, t2, t3, t4⟩ := hT W hbel
    by_cases hz : a2 = 0
    · subst hz
      have hbf3 : ((U x).bind fun u => bothF A U rest' (ps ++ [a1]) (qs ++ [u.1])) = some res := hbf2
      obtain ⟨⟨u1, u2⟩, hu, hbf4⟩ := Option.bind_eq_some_iff.1 hbf3
      simp only at hbf4
      have hcU := hU x _ hu
      gi_wp2_with (first
        | (refine ⟨trivial, ?_⟩; gi_at_call 159; refine (CallsIn.inRound l (callsIn_wide.2 hcA)).mono ?_; rintro e W3 ⟨rfl, hb3⟩; have hbel3 : Below w1.heap.size w1 W3 := hbel.trans (hb3.mono (by omega)); obtain ⟨t5, t6, t7, t8, t9⟩ := hT W3 hbel3)
        | (refine ⟨trivial, ?_⟩; gi_at_call 160; refine (CallsIn.inRound l (callsIn_wide.2 (hcU W3 (hb0.trans (hbel3.mono (by omega)))))).mono ?_; rintro e W4 ⟨rfl, hb4⟩))
      have hb34 : Below W.heap.size W W4 := hb3.trans (hb4.mono hb3.size)
      have hTwo4 : Two (w1.heap.size + 3) w1.heap.size (w1.heap.size + 1) W4 ps qs := two_othR (N := 0) (Bs := w1.heap.size + 1 + 1) hTwo (by omega) (by omega) (by omega) (Oth.of_below hb34).toR
      have hll2 : pre.length ≤ 32 := by have := hpre.length_le; simp at this; omega
      refine wpIn_mono (c := Code.region 11 ops11 true) (region11 l _ ps qs a1 u1 (by omega) (by omega) _ w1.heap.size (w1.heap.size + 3) w1.heap.size (w1.heap.size + 1) (by omega) W4 (gi_below hg1 (hbel3.trans (hb4.mono (by have := hbel3.size; omega)))) (fun b hb => (hg1.b b hb).1) (by omega) (Nat.le_refl _) (by omega) hTwo4 rfl (by have := hb34.size; omega) rfl rfl rfl rfl) ?_
      rintro e a' w' ⟨rfl, hTwo', o1, o2, o3, o4, o5, o6⟩
      refine ⟨⟨Nat.le_trans hb34.size o4, fun k o _ hk hc => o6 k o ((hb34.block k (lt_of_some hk)).trans hk) hc⟩, ?_, ps ++ [a1], qs ++ [u1], rest', by simp [hls], hbf4, by simp; omega, by simp; omega, hTwo', ?_⟩
      · rintro b (rfl | hb)
        · rw [o5 _ (by omega) (by omega) (by omega), hb34.block _ (by omega)]
        · have := hown b hb
          rw [o5 _ (by omega) (by omega) (by omega), hb34.block _ (by omega)]
      · exact (hbel.trans (hb34.mono (by omega))).trans ⟨o1, o2, o3, o4, fun k hk => o5 k (by omega) (by omega) (by omega)⟩
    · have hbf3 : some (a2, ([] : List (List UInt8)), ([] : List (List UInt8))) = some res := by
        rw [← hbf2, show (a2 != 0) = true by simpa using hz]; rfl
      cases hbf3
      gi_wp2_with (refine ⟨trivial, ?_⟩; gi_at_call 159; refine (CallsIn.inRound l (callsIn_wide.2 hcA)).mono ?_; rintro e W3 ⟨rfl, hb3⟩; have hbel3 : Below w1.heap.size w1 W3 := hbel.trans (hb3.mono (by omega)); obtain ⟨q1, q2, q3⟩ := hR W3 hbel3; have q4 := q1.cell; have q5 := q1.frozen; have q6 := q2.cell; have q7 := q2.frozen; have q8 := q3.cell; have q9 := q3.frozen)
      refine ⟨KeepsFrom.trans ⟨hb3.size, fun k o _ h _ => (hb3.block k (lt_of_some h)).trans h⟩ ((((KeepsOthers.setCell _ _ _).trans (KeepsOthers.setCell _ _ _)).trans (KeepsOthers.setCell _ _ _)).from _), rfl, ?_, ?_, ?_, ?_⟩
      · exact setBox (setBox (Boxed.set _ q1) (by omega)) (by omega)
      · exact setBox (Boxed.set _ (setBox q2 (by omega))) (by omega)
      · exact Boxed.set _ (setBox (setBox q3 (by omega)) (by omega))
      · exact (((hb0.trans (hbel3.mono (by omega))).setCell (p := ⟨w.heap.size + 1, 0, none⟩) (show w.heap.size ≤ w.heap.size + 1 by omega) _).setCell (p := ⟨w.heap.size + 1 + 1, 0, none⟩) (show w.heap.size ≤ w.heap.size + 1 + 1 by omega) _).setCell (p := ⟨w.heap.size + 1 + 1 + 1, 0, none⟩) (show w.heap.size ≤ w.heap.size + 1 + 1 + 1 by omega) _
  case done =>
    rintro D W hD ⟨ps, qs, rest, hls, hbf, hlp, hlq, hTwo, hbel⟩ hK
    have hrest : rest = [] := by
      have := congrArg List.length hls
      simp at this
      exact this
    subst hrest
    have hres' : (0, ps, qs) = res := Option.some.inj hbf
    subst hres'
    have ho : ((joinF (ps, [46], ())).bind fun ja => bif decide (253 < ja.1.length) then some (([] : List UInt8), ([] : List UInt8), (5 : Int)) else (joinF (qs, [46], ())).bind fun ju => some (ja.1, ju.1, 0)) = some (oa, ou, oc) := hout
    obtain ⟨⟨ja, ju0⟩, hja, ho2⟩ := Option.bind_eq_some_iff.1 ho
    obtain ⟨va, vu, ta, tu, bx9, bx10, rw9, rw10, _, _⟩ := hTwo.ex
    have hcj := join_call rw9 hja (gi_below hg1 hbel)
    have c9 := bx9.cell
    have c10 := bx10.cell
    have hDW : D < W.heap.size := lt_of_some hK
    rw [hszN] at hD
    have hs8 : w1.heap.size ≤ W.heap.size := hbel.size
    clear hls hbf hout ho hres hll hlp hlq
    by_cases h253 : 253 < ja.length
    · have ho3 : some (([] : List UInt8), ([] : List UInt8), (5 : Int)) = some (oa, ou, oc) := by rw [← ho2]; simp only; rw [decide_eq_true h253]; rfl
      cases ho3
      gi_wp2_with (refine ⟨trivial, ?_⟩; gi_at_call 73; refine (callsIn_wide.2 hcj).mono ?_; rintro e W5 ⟨rfl, hb5⟩; have hbel5 : Below w1.heap.size w1 W5 := hbel.trans (hb5.mono (by have := hbel.size; omega)); obtain ⟨q1, q2, q3⟩ := hR W5 hbel5; have q4 := q1.cell; have q5 := q1.frozen; have q6 := q2.cell; have q7 := q2.frozen; have q8 := q3.cell; have q9 := q3.frozen)
      have hKX : ((((W5.setCell ⟨w.heap.size + 1, 0, none⟩ (.string ⟨#[]⟩)).setCell ⟨w.heap.size + 1 + 1, 0, none⟩ (.string ⟨#[]⟩)).setCell ⟨w.heap.size + 1 + 1 + 1, 0, none⟩ (.int .i64 5))).heap[D]? = some (.deferred (some [])) := by
        rw [Below.heap_setCell _ _ _ _ (show D ≠ w.heap.size + 1 + 1 + 1 by omega), Below.heap_setCell _ _ _ _ (show D ≠ w.heap.size + 1 + 1 by omega), Below.heap_setCell _ _ _ _ (show D ≠ w.heap.size + 1 by omega)]
        exact (hb5.block D hDW).trans hK
      refine ⟨by simp, .inl ⟨_, _, rfl, run_takeDeferred hKX, ?_⟩⟩
      have e1 := setBox (b' := w.heap.size + 1 + 1 + 1) (u := (.int .i64 5)) (setBox (b' := w.heap.size + 1 + 1) (u := (.string ⟨#[]⟩)) (Boxed.set (.string ⟨#[]⟩) q1) (by omega)) (by omega)
      have e2 := setBox (b' := w.heap.size + 1 + 1 + 1) (u := (.int .i64 5)) (Boxed.set (.string ⟨#[]⟩) (setBox (b' := w.heap.size + 1) (u := (.string ⟨#[]⟩)) q2 (by omega))) (by omega)
      have e3 := Boxed.set (.int .i64 5) (setBox (b' := w.heap.size + 1 + 1) (u := (.string ⟨#[]⟩)) (setBox (b' := w.heap.size + 1) (u := (.string ⟨#[]⟩)) q3 (by omega)) (by omega))
      have hc1 := cell_kept e1.cell (grownBy_putObj' _ D (.deferred none)) (fun r e => by cases e; exact ⟨_, hKX, rfl⟩)
      have hc2 := cell_kept e2.cell (grownBy_putObj' _ D (.deferred none)) (fun r e => by cases e; exact ⟨_, hKX, rfl⟩)
      have hc3 := cell_kept e3.cell (grownBy_putObj' _ D (.deferred none)) (fun r e => by cases e; exact ⟨_, hKX, rfl⟩)
      have hbX := (((hb0.trans (hbel5.mono (show w.heap.size ≤ w1.heap.size by omega))).setCell (p := ⟨w.heap.size + 1, 0, none⟩) (show w.heap.size ≤ w.heap.size + 1 by omega) (.string ⟨#[]⟩)).setCell (p := ⟨w.heap.size + 1 + 1, 0, none⟩) (show w.heap.size ≤ w.heap.size + 1 + 1 by omega) (.string ⟨#[]⟩)).setCell (p := ⟨w.heap.size + 1 + 1 + 1, 0, none⟩) (show w.heap.size ≤ w.heap.size + 1 + 1 + 1 by omega) (.int .i64 5)
      refine ⟨.tuple #[(.string ⟨#[]⟩), (.string ⟨#[]⟩), (.int .i64 5)], ?_, rfl, hbX.trans (belowK_b (w := w) (Nat.le_refl _) _ D _ _ (by omega) hKX rfl rfl)⟩
      simp [results, Tryz.f124, go_sem, hc1, hc2, hc3]
    · have ho3 : ((joinF (qs, [46], ())).bind fun ju => some (ja, ju.1, (0 : Int))) = some (oa, ou, oc) := by rw [← ho2]; simp only; rw [decide_eq_false h253]; rfl
      obtain ⟨⟨ju, ju1⟩, hju, ho4⟩ := Option.bind_eq_some_iff.1 ho3
      cases ho4
      gi_wp2_with (first
        | (refine ⟨trivial, ?_⟩; gi_at_call 73; refine (callsIn_wide.2 hcj).mono ?_; clear hcj; rintro e W5 ⟨rfl, hb5⟩; have hbel5 : Below w1.heap.size w1 W5 := hbel.trans (hb5.mono (by have := hbel.size; omega)); have c11 : W5.cell? ⟨w1.heap.size + 1, 0, none⟩ = some vu := (hb5.cell (p := ⟨w1.heap.size + 1, 0, none⟩) bx10.lt).trans c10; have hcj2 := join_call (ownsRow_oth (N := 0) (Bs := w1.heap.size + 1 + 1) (by omega) rw10 (Oth.of_below hb5).toR) hju (gi_below hg1 hbel5))
        | (refine ⟨trivial, ?_⟩; gi_at_call 73; refine (callsIn_wide.2 hcj2).mono ?_; clear hcj2; rintro e W6 ⟨rfl, hb6⟩; have hbel6 : Below w1.heap.size w1 W6 := hbel5.trans (hb6.mono (by have := hbel5.size; omega)); obtain ⟨q1, q2, q3⟩ := hR W6 hbel6; have q4 := q1.cell; have q5 := q1.frozen; have q6 := q2.cell; have q7 := q2.frozen; have q8 := q3.cell; have q9 := q3.frozen))
      have hKX : ((((W6.setCell ⟨w.heap.size + 1, 0, none⟩ (.string ⟨⟨oa⟩⟩)).setCell ⟨w.heap.size + 1 + 1, 0, none⟩ (.string ⟨⟨ju⟩⟩)).setCell ⟨w.heap.size + 1 + 1 + 1, 0, none⟩ (.int .i64 0))).heap[D]? = some (.deferred (some [])) := by
        rw [Below.heap_setCell _ _ _ _ (show D ≠ w.heap.size + 1 + 1 + 1 by omega), Below.heap_setCell _ _ _ _ (show D ≠ w.heap.size + 1 + 1 by omega), Below.heap_setCell _ _ _ _ (show D ≠ w.heap.size + 1 by omega)]
        exact (hb6.block D (Nat.lt_of_lt_of_le hDW hb5.size)).trans ((hb5.block D hDW).trans hK)
      refine ⟨by simp, .inl ⟨_, _, rfl, run_takeDeferred hKX, ?_⟩⟩
      have e1 := setBox (b' := w.heap.size + 1 + 1 + 1) (u := (.int .i64 0)) (setBox (b' := w.heap.size + 1 + 1) (u := (.string ⟨⟨ju⟩⟩)) (Boxed.set (.string ⟨⟨oa⟩⟩) q1) (by omega)) (by omega)
      have e2 := setBox (b' := w.heap.size + 1 + 1 + 1) (u := (.int .i64 0)) (Boxed.set (.string ⟨⟨ju⟩⟩) (setBox (b' := w.heap.size + 1) (u := (.string ⟨⟨oa⟩⟩)) q2 (by omega))) (by omega)
      have e3 := Boxed.set (.int .i64 0) (setBox (b' := w.heap.size + 1 + 1) (u := (.string ⟨⟨ju⟩⟩)) (setBox (b' := w.heap.size + 1) (u := (.string ⟨⟨oa⟩⟩)) q3 (by omega)) (by omega))
      have hc1 := cell_kept e1.cell (grownBy_putObj' _ D (.deferred none)) (fun r e => by cases e; exact ⟨_, hKX, rfl⟩)
      have hc2 := cell_kept e2.cell (grownBy_putObj' _ D (.deferred none)) (fun r e => by cases e; exact ⟨_, hKX, rfl⟩)
      have hc3 := cell_kept e3.cell (grownBy_putObj' _ D (.deferred none)) (fun r e => by cases e; exact ⟨_, hKX, rfl⟩)
      have hbX := (((hb0.trans (hbel6.mono (show w.heap.size ≤ w1.heap.size by omega))).setCell (p := ⟨w.heap.size + 1, 0, none⟩) (show w.heap.size ≤ w.heap.size + 1 by omega) (.string ⟨⟨oa⟩⟩)).setCell (p := ⟨w.heap.size + 1 + 1, 0, none⟩) (show w.heap.size ≤ w.heap.size + 1 + 1 by omega) (.string ⟨⟨ju⟩⟩)).setCell (p := ⟨w.heap.size + 1 + 1 + 1, 0, none⟩) (show w.heap.size ≤ w.heap.size + 1 + 1 + 1 by omega) (.int .i64 0)
      refine ⟨.tuple #[(.string ⟨⟨oa⟩⟩), (.string ⟨⟨ju⟩⟩), (.int .i64 0)], ?_, rfl, hbX.trans (belowK_b (w := w) (Nat.le_refl _) _ D _ _ (by omega) hKX rfl rfl)⟩
      simp [results, Tryz.f124, go_sem, hc1, hc2, hc3]
  case stop =>
    rintro D c pre W hD hpre ⟨rfl, hne, h1, h2, h3, hbel⟩ hK
    have ho : some (([] : List UInt8), ([] : List UInt8), res.1) = some (oa, ou, oc) := by
      rw [← hout]
      unfold outF
      rw [show (res.1 != 0) = true by simpa using hne]; rfl
    cases ho
    gi_wp2
    refine ⟨by simp, .inl ⟨_, _, rfl, run_takeDeferred hK, ?_⟩⟩
    have hc1 := cell_kept h1.cell (grownBy_putObj' _ D (.deferred none)) (fun r e => by cases e; exact ⟨_, hK, rfl⟩)
    have hc2 := cell_kept h2.cell (grownBy_putObj' _ D (.deferred none)) (fun r e => by cases e; exact ⟨_, hK, rfl⟩)
    have hc3 := cell_kept h3.cell (grownBy_putObj' _ D (.deferred none)) (fun r e => by cases e; exact ⟨_, hK, rfl⟩)
    rw [hszN] at hD
    refine ⟨.tuple #[.string ⟨#[]⟩, .string ⟨#[]⟩, .int .i64 res.1], ?_, rfl, hbel.trans (belowK_b (w := w) (Nat.le_refl _) W D _ _ (by omega) hK rfl rfl)⟩
    simp [results, Tryz.f124, go_sem, hc1, hc2, hc3]
set_option maxHeartbeats 4000000 in
theorem both_err (v0 v1 v2 v3 v4 : Value) (s : List UInt8) (c : Int) (hc : c ≠ 0) (w : World)
    (hlab : ∀ W, Below w.heap.size w W → Calls Tryz.prog 157 #[.agg #[v0, v1, v2, v3, v4], .string ⟨⟨s⟩⟩] W fun e w' => ∃ v, e = .returned (.tuple #[v, .int .i64 c]) ∧ Below W.heap.size W w') :
    Calls Tryz.prog 124 #[.agg #[v0, v1, v2, v3, v4], .string ⟨⟨s⟩⟩] w fun e w' => e = .returned (.tuple #[.string ⟨#[]⟩, .string ⟨#[]⟩, .int .i64 c]) ∧ Below w.heap.size w w' := by
  have hW0 : Below w.heap.size w ((((w.alloc (.cells #[v0, v1, v2, v3, v4] 39)).alloc (.cells #[.string ⟨#[]⟩] 9)).alloc (.cells #[.string ⟨#[]⟩] 9)).alloc (.cells #[.int .i64 0] 44)) :=
    ((((Below.refl _ w).alloc (Nat.le_refl _) _).alloc (by simp) _).alloc (by simp <;> omega) _).alloc (by simp <;> omega) _
  have hR : ∀ X, Below (w.heap.size + 4) ((((w.alloc (.cells #[v0, v1, v2, v3, v4] 39)).alloc (.cells #[.string ⟨#[]⟩] 9)).alloc (.cells #[.string ⟨#[]⟩] 9)).alloc (.cells #[.int .i64 0] 44)) X → Boxed X (w.heap.size + 1) 9 (.string ⟨#[]⟩) ∧ Boxed X (w.heap.size + 1 + 1) 9 (.string ⟨#[]⟩) ∧ Boxed X (w.heap.size + 1 + 1 + 1) 44 (.int .i64 0) := fun X hX => by
    refine ⟨?_, ?_, ?_⟩
    · show X.heap[_]? = _
      rw [hX.block _ (by omega), Below.heap_alloc _ _ _ (by simp <;> omega), Below.heap_alloc _ _ _ (by simp)]
      have := heap_alloc_new (w.alloc (.cells #[v0, v1, v2, v3, v4] 39)) (.cells #[.string ⟨#[]⟩] 9)
      rwa [World.size_alloc] at this
    · show X.heap[_]? = _
      rw [hX.block _ (by omega), Below.heap_alloc _ _ _ (by simp)]
      have := heap_alloc_new ((w.alloc (.cells #[v0, v1, v2, v3, v4] 39)).alloc (.cells #[.string ⟨#[]⟩] 9)) (.cells #[.string ⟨#[]⟩] 9)
      rwa [World.size_alloc, World.size_alloc] at this
    · show X.heap[_]? = _
      rw [hX.block _ (by omega)]
      have := heap_alloc_new (((w.alloc (.cells #[v0, v1, v2, v3, v4] 39)).alloc (.cells #[.string ⟨#[]⟩] 9)).alloc (.cells #[.string ⟨#[]⟩] 9)) (.cells #[.int .i64 0] 44)
      rwa [World.size_alloc, World.size_alloc, World.size_alloc] at this
  have hl := hlab _ hW0
  clear hlab
  go_enter Tryz.func124, Tryz.ntmps124
  go_wp2_with (go_at_call 157; refine hl.mono ?_; rintro e w1 ⟨lv, rfl, hb1⟩; obtain ⟨q1, q2, q3⟩ := hR w1 (hb1.mono (by simp)); have q4 := q1.cell; have q5 := q1.frozen; have q6 := q2.cell; have q7 := q2.frozen; have q8 := q3.cell; have q9 := q3.frozen)
  have e1 := setBox (b' := w.heap.size + 1 + 1 + 1) (u := (.int .i64 c)) (setBox (b' := w.heap.size + 1 + 1) (u := (.string ⟨#[]⟩)) (Boxed.set (.string ⟨#[]⟩) q1) (by omega)) (by omega)
  have e2 := setBox (b' := w.heap.size + 1 + 1 + 1) (u := (.int .i64 c)) (Boxed.set (.string ⟨#[]⟩) (setBox (b' := w.heap.size + 1) (u := (.string ⟨#[]⟩)) q2 (by omega))) (by omega)
  have e3 := Boxed.set (.int .i64 c) (setBox (b' := w.heap.size + 1 + 1) (u := (.string ⟨#[]⟩)) (setBox (b' := w.heap.size + 1) (u := (.string ⟨#[]⟩)) q3 (by omega)) (by omega))
  have hc1 := e1.cell
  have hc2 := e2.cell
  have hc3 := e3.cell
  have hbX := (((hW0.trans (hb1.mono (by simp <;> omega))).setCell (p := ⟨w.heap.size + 1, 0, none⟩) (show w.heap.size ≤ w.heap.size + 1 by omega) (.string ⟨#[]⟩)).setCell (p := ⟨w.heap.size + 1 + 1, 0, none⟩) (show w.heap.size ≤ w.heap.size + 1 + 1 by omega) (.string ⟨#[]⟩)).setCell (p := ⟨w.heap.size + 1 + 1 + 1, 0, none⟩) (show w.heap.size ≤ w.heap.size + 1 + 1 + 1 by omega) (.int .i64 c)
  (try simp only [Exit.inBlock, Exit.then])
  refine bodyPost_ret (by simp [results, Tryz.results124, go_sem, hc1, hc2, hc3]; try rfl) rfl ?_
  exact ⟨rfl, hbX⟩
theorem tbl_int {f : FuncId} {fn : Func} {F : T159} (h : FnOk Tryz.prog f ⟨f159_ins, f159_outs, F⟩) (hf : Tryz.prog.funcs[f]? = some fn) (hb : fn.body.isSome = true) (hname : (fn.name == "runtime.NumGoroutine") = false) {t0 t1 t2} {x r : List UInt8} {c : Int} (hF : F (t0, t1, t2, x, ()) = some (r, c, ()))
    {w : World} {m : Md} (gi : GI w m) (hlt : ∀ b, m.a b → b < w.heap.size) {a : Array Value} (ht : RepL w m [] (tabA t0 t1 t2) a.toList) :
    Calls Tryz.prog f #[.agg a, .string ⟨⟨x⟩⟩] w fun e w' => e = .returned (.tuple #[.string ⟨⟨r⟩⟩, .int .i64 c]) ∧ Below w.heap.size w w' := by
  refine (FnOk.call0 (v := (t0, t1, t2, x, ())) (y := (r, c, ())) h hf hb hname gi hlt rfl ⟨_, _, rfl, ⟨a, rfl, ht⟩, _, _, rfl, rfl, rfl⟩ rfl hF ?_).mono fun e w' ⟨rv, h1, h2, ax, l', u, h3, h4⟩ => ?_
  · intro ax l' u h3
    cases osel_one_inv h3
    rfl
  · cases osel_one_inv h3
    obtain ⟨v, r', e1, ⟨b, e2, e3⟩, e4⟩ := h4
    have e4' : r' = [] := e4
    subst e4'
    cases e1
    subst h1 e2
    refine ⟨?_, h2⟩
    obtain ⟨v1, q1, f1, rfl, v2, q2, f2, ⟨rfl, _⟩, f4⟩ := e3
    have f4' : q2 = [] := f4
    subst f4' f2
    cases b
    cases f1
    rfl
theorem tbl_bool {f : FuncId} {fn : Func} {F : T151} (h : FnOk Tryz.prog f ⟨f151_ins, f151_outs, F⟩) (hf : Tryz.prog.funcs[f]? = some fn) (hb : fn.body.isSome = true) (hname : (fn.name == "runtime.NumGoroutine") = false) {t0 t1 t2} {x r : List UInt8} {c : Bool} (hF : F (t0, t1, t2, x, ()) = some (r, c, ()))
    {w : World} {m : Md} (gi : GI w m) (hlt : ∀ b, m.a b → b < w.heap.size) {a : Array Value} (ht : RepL w m [] (tabA t0 t1 t2) a.toList) :
    Calls Tryz.prog f #[.agg a, .string ⟨⟨x⟩⟩] w fun e w' => e = .returned (.tuple #[.string ⟨⟨r⟩⟩, .bool c]) ∧ Below w.heap.size w w' := by
  refine (FnOk.call0 (v := (t0, t1, t2, x, ())) (y := (r, c, ())) h hf hb hname gi hlt rfl ⟨_, _, rfl, ⟨a, rfl, ht⟩, _, _, rfl, rfl, rfl⟩ rfl hF ?_).mono fun e w' ⟨rv, h1, h2, ax, l', u, h3, h4⟩ => ?_
  · intro ax l' u h3
    cases osel_one_inv h3
    rfl
  · cases osel_one_inv h3
    obtain ⟨v, r', e1, ⟨b, e2, e3⟩, e4⟩ := h4
    have e4' : r' = [] := e4
    subst e4'
    cases e1
    subst h1 e2
    refine ⟨?_, h2⟩
    obtain ⟨v1, q1, f1, rfl, v2, q2, f2, rfl, f4⟩ := e3
    have f4' : q2 = [] := f4
    subst f4' f2
    cases b
    cases f1
    rfl
def C124 : T124 := fun (t0, t1, t2, s, _) =>
  (C151 (t0, t1, t2, s, ())).bind fun f => (labelsF f.1 f.2.1).bind fun lc =>
    bif lc.2 != 0 then some ([], [], lc.2, ()) else
    bif decide (lc.1.length ≤ 32) then
      (bothF (fun x => (C159 (t0, t1, t2, x, ())).map fun r => (r.1, r.2.1)) (fun x => (C160 (t0, t1, t2, x, ())).map fun r => (r.1, r.2.1)) lc.1 [] []).bind fun res => (outF res).map fun o => (o.1, o.2.1, o.2.2, ())
    else none
theorem ok124 : FnOk Tryz.prog 124 (E124 C124) := by
  refine hand Tryz.func124 (by kernel_rfl) (by kernel_rfl) (fun _ => rfl) (fun _ => rfl) ?_
  rintro ⟨t0, t1, t2, s, u⟩ y hy w m args gi hn hlt hargs
  obtain ⟨va, r1, e1, ⟨a, rfl, ht⟩, vs, r2, e2, e3, e4⟩ := hargs
  have e4' : r2 = [] := e4
  have e3' : vs = .string ⟨⟨s⟩⟩ := e3
  subst e4' e3' e2
  have ha : args = #[.agg a, .string ⟨⟨s⟩⟩] := by cases args; simpa using e1
  subst ha
  have ht0 : RepL w m [] (tabA t0 t1 t2) a.toList := ht
  have hst : ∀ W, Below w.heap.size w W → Stp w m W m := fun W hb => stp_below hb fun b hb => (hn b hb).elim
  have htW : ∀ W, Below w.heap.size w W → RepL W m [] (tabA t0 t1 t2) a.toList := fun W hb => RepL.mono (hst W hb) (fun _ _ h => h) _ _ ht0
  have hltW : ∀ W, Below w.heap.size w W → ∀ b, m.a b → b < W.heap.size := fun W hb b h => Nat.lt_of_lt_of_le (hlt b h) hb.size
  have g0 : GI w m0 := ⟨gi.i, fun b hb => ⟨(gi.b b hb).1, fun h => h⟩⟩
  obtain ⟨v0, v1, v2, v3, v4, rfl⟩ : ∃ v0 v1 v2 v3 v4, a = #[v0, v1, v2, v3, v4] := by
    obtain ⟨w0, q0, f0, _, w1, q1, f1, _, w2, q2, f2, _, w3, q3, f3, _, w4, q4, f4, _, f5⟩ := ht0
    have f5' : q4 = [] := f5
    subst f5' f4 f3 f2 f1
    exact ⟨w0, w1, w2, w3, w4, by cases a; simpa using f0⟩
  have hy1 : ((C151 (t0, t1, t2, s, ())).bind fun f => (labelsF f.1 f.2.1).bind fun lc =>
    bif lc.2 != 0 then some ([], [], lc.2, ()) else
    bif decide (lc.1.length ≤ 32) then
      (bothF (fun x => (C159 (t0, t1, t2, x, ())).map fun r => (r.1, r.2.1)) (fun x => (C160 (t0, t1, t2, x, ())).map fun r => (r.1, r.2.1)) lc.1 [] []).bind fun res => (outF res).map fun o => (o.1, o.2.1, o.2.2, ())
    else none) = some y := hy
  obtain ⟨⟨f, ok, u0⟩, hf, hy2⟩ := Option.bind_eq_some_iff.1 hy1
  obtain ⟨⟨ls, c⟩, hls, hy3⟩ := Option.bind_eq_some_iff.1 hy2
  simp only at hls hy3
  have hfold : ∀ W, Below w.heap.size w W → Calls Tryz.prog 151 #[.agg #[v0, v1, v2, v3, v4], .string ⟨⟨s⟩⟩] W fun e W' => e = .returned (.tuple #[.string ⟨⟨f⟩⟩, .bool ok]) ∧ Below W.heap.size W W' :=
    fun W hb => tbl_bool ok151 Tryz.func151 (by kernel_rfl) (by kernel_rfl) hf (gi.mono (hst W hb)) (hltW W hb) (htW W hb)
  have hlab : ∀ W, Below w.heap.size w W → Calls Tryz.prog 157 #[.agg #[v0, v1, v2, v3, v4], .string ⟨⟨s⟩⟩] W fun e w' => ∃ v, e = .returned (.tuple #[v, .int .i64 c]) ∧ Below W.heap.size W w' ∧ w'.ownsRow W.heap.size 9 1 v ls.length (ls.map encS) :=
    fun W hb => labels_walk v0 v1 v2 v3 v4 s f ok ls c W (gi_below g0 hb) hls fun W2 hb2 => hfold W2 (hb.trans (hb2.mono hb.size))
  suffices hmain : ∃ oa ou oc, y = (oa, ou, oc, ()) ∧ Calls Tryz.prog 124 #[.agg #[v0, v1, v2, v3, v4], .string ⟨⟨s⟩⟩] w fun e w' => e = .returned (.tuple #[.string ⟨⟨oa⟩⟩, .string ⟨⟨ou⟩⟩, .int .i64 oc]) ∧ Below w.heap.size w w' by
    obtain ⟨oa, ou, oc, rfl, hc⟩ := hmain
    refine hc.mono fun e w' ⟨k1, k2⟩ => ⟨_, k1, k2, .ret, [.tuple 3, .str, .str, .int .i64], (oa, ou, oc, ()), osel_one [.tuple 3, .str, .str, .int .i64] (oa, ou, oc, ()), rfl, rfl, ?_⟩
    exact ⟨_, [], rfl, ⟨_, rfl, _, _, rfl, rfl, _, _, rfl, rfl, _, _, rfl, ⟨rfl, fun h => (by cases h)⟩, rfl⟩, rfl⟩
  by_cases hc : c = 0
  · subst hc
    have hy4 : (bif decide (ls.length ≤ 32) then
      (bothF (fun x => (C159 (t0, t1, t2, x, ())).map fun r => (r.1, r.2.1)) (fun x => (C160 (t0, t1, t2, x, ())).map fun r => (r.1, r.2.1)) ls [] []).bind fun res => (outF res).map fun o => (o.1, o.2.1, o.2.2, ())
      else none) = some y := hy3
    rcases cond_some hy4 with ⟨h32, hy5⟩ | ⟨_, hy5⟩
    case inr => cases hy5
    obtain ⟨res, hres, hy6⟩ := Option.bind_eq_some_iff.1 hy5
    obtain ⟨⟨oa, ou, oc⟩, hout, hy7⟩ := Option.map_eq_some_iff.1 hy6
    refine ⟨oa, ou, oc, hy7.symm, ?_⟩
    refine both_walk v0 v1 v2 v3 v4 s ls _ _ res w g0 (of_decide_eq_true h32) hres oa ou oc hout (fun W hb => hlab W hb) ?_ ?_
    · intro x r hr W hb
      obtain ⟨⟨r1, r2, r3⟩, hq, rfl⟩ := Option.map_eq_some_iff.1 hr
      exact tbl_int ok159 Tryz.func159 (by kernel_rfl) (by kernel_rfl) hq (gi.mono (hst W hb)) (hltW W hb) (htW W hb)
    · intro x r hr W hb
      obtain ⟨⟨r1, r2, r3⟩, hq, rfl⟩ := Option.map_eq_some_iff.1 hr
      exact tbl_int ok160 Tryz.func160 (by kernel_rfl) (by kernel_rfl) hq (gi.mono (hst W hb)) (hltW W hb) (htW W hb)
  · rcases cond_some hy3 with ⟨_, hy4⟩ | ⟨h0, _⟩
    case inr => exact (hc (by simpa using h0)).elim
    cases hy4
    exact ⟨[], [], c, rfl, both_err v0 v1 v2 v3 v4 s c hc w fun W hb => (hlab W hb).mono fun e w' ⟨v, k1, k2, _⟩ => ⟨v, k1, k2⟩⟩
end Go.Proofs.YtiacnhhmkdkpmaaGreatDoorA.W
set_option maxRecDepth 100000
set_option linter.unusedVariables false
namespace Go.Proofs.YtiacnhhmkdkpmaaGreatDoorA.W
open Go Go.Ae
abbrev T127 := LqS × Int × Unit → Option (Int × Unit)
def E127 (f : T127) : FEnt := ⟨f127_ins, f127_outs, f⟩
def K127 (f162 : T162) : Calls' := fun f => Ae.lookA f [(162, E162 f162)]
theorem kok127 : KOk Tryz.prog (K127 C162) := (kok_cons ok162 (kok_nil _))
def F127 (f162 : T162) : T127 := fun (x0, x1, _) =>
 (f162 (x0, x1, ())).bind fun v => some (v.1, ())
theorem h127 (f162 : T162) : AqF (K127 f162) 0 Tryz.f127 .nil f127_ins f127_outs (F127 f162) := fun v => by kernel_rfl
def C127 : T127 := F127 C162
theorem ok127 : FnOk Tryz.prog 127 (E127 C127) :=
 fnx (n := .nil) kok127 Tryz.func127 (by kernel_rfl) (by kernel_rfl) (ann_nil _) (fun v => by kernel_rfl) (h127 C162)
abbrev T90_c0 := Int × Bool × Unit → Option (Int × Bool × Unit)
def E90_c0 (f : T90_c0) : LEnt := ⟨f90_c0_ins, f90_c0_outs, f⟩
abbrev T90_c1 := Int × Bool × Unit → Option (Int × Bool × Unit)
def E90_c1 (f : T90_c1) : LEnt := ⟨f90_c1_ins, f90_c1_outs, f⟩
abbrev T90 := Int × Unit → Option (Bool × Unit)
def E90 (f : T90) : FEnt := ⟨f90_ins, f90_outs, f⟩
def K90 (f127 : T127) : Calls' := fun f => Ae.lookA f [(127, E127 f127)]
theorem kok90 : KOk Tryz.prog (K90 C127) := (kok_cons ok127 (kok_nil _))
def F90_c0 (f127 : T127) : T90_c0 := fun (x0, x1, _) =>
 bif x1 then some (x0, true, ())
 else
 bif decide (x0 ≥ 48) then
 bif decide (x0 ≤ 57) then some (x0, true, ()) else some (x0, decide (x0 ≥ 128), ())
 else some (x0, decide (x0 ≥ 128), ())
theorem h90_c0 (f127 : T127) : AqC (K90 f127) 0 (subc (code Tryz.f90) [1, 0, 0, 0, 1, 1, 1]) .nil f90_c0_ins f90_c0_outs (F90_c0 f127) := fun v => by kernel_rfl
def C90_c0 : T90_c0 := F90_c0 C127
theorem k90_c0 : FragOk Tryz.prog 0 (fun Q a w => (subc (code Tryz.f90) [1, 0, 0, 0, 1, 1, 1]).wp Tryz.prog Q a w) (E90_c0 C90_c0) :=
 frag_code (ins := f90_c0_ins) (os := f90_c0_outs) (n := .nil) (F := C90_c0) hm hΓ kok90 (ann_nil _) (h90_c0 C127)
def N90_c1 (f90_c0 : T90_c0) : Ann := (.cond .nil (.cut .nil (E90_c0 f90_c0)))
def F90_c1 (f127 : T127) (f90_c0 : T90_c0) : T90_c1 := fun (x0, x1, _) =>
 bif x1 then some (x0, true, ())
 else
 bif decide (x0 ≥ 65) then (f90_c0 (x0, decide (x0 ≤ 90), ())).bind fun v => some (v.1, v.2.1, ())
 else (f90_c0 (x0, false, ())).bind fun v => some (v.1, v.2.1, ())
theorem h90_c1 (f127 : T127) (f90_c0 : T90_c0) : AqC (K90 f127) 0 (subc (code Tryz.f90) [1, 0, 0, 0, 1]) (N90_c1 f90_c0) f90_c1_ins f90_c1_outs (F90_c1 f127 f90_c0) := fun v => by kernel_rfl
def C90_c1 : T90_c1 := F90_c1 C127 C90_c0
theorem k90_c1 : FragOk Tryz.prog 0 (fun Q a w => (subc (code Tryz.f90) [1, 0, 0, 0, 1]).wp Tryz.prog Q a w) (E90_c1 C90_c1) :=
 frag_code (ins := f90_c1_ins) (os := f90_c1_outs) (n := (N90_c1 C90_c0)) (F := C90_c1) hm hΓ kok90 (ann_obs (And.intro k90_c0 trivial) (by kernel_rfl)) (h90_c1 C127 C90_c0)
def N90 (f90_c1 : T90_c1) : Ann := (.seq .nil (.seq (.blk (.seq (.cut .nil (E90_c1 f90_c1)) .nil)) .nil))
def F90 (f127 : T127) (f90_c1 : T90_c1) : T90 := fun (x0, _) =>
 bif decide (x0 ≥ 97) then
 (f90_c1 (x0, decide (x0 ≤ 122), ())).bind fun v =>
 bif v.2.1 then some (true, ())
 else
 (f127
 ([33, 35, 36, 37, 38, 39, 42, 43, 45, 47, 61, 63, 94, 95, 96, 123, 124, 125, 126], v.1,
 ())).bind
 fun v => some (decide (v.1 ≥ 0), ())
 else
 (f90_c1 (x0, false, ())).bind fun v =>
 bif v.2.1 then some (true, ())
 else
 (f127
 ([33, 35, 36, 37, 38, 39, 42, 43, 45, 47, 61, 63, 94, 95, 96, 123, 124, 125, 126], v.1,
 ())).bind
 fun v => some (decide (v.1 ≥ 0), ())
theorem h90 (f127 : T127) (f90_c1 : T90_c1) : AqF (K90 f127) 0 Tryz.f90 (N90 f90_c1) f90_ins f90_outs (F90 f127 f90_c1) := fun v => by kernel_rfl
def C90 : T90 := F90 C127 C90_c1
theorem ok90 : FnOk Tryz.prog 90 (E90 C90) :=
 fnx (n := (N90 C90_c1)) kok90 Tryz.func90 (by kernel_rfl) (by kernel_rfl) (ann_obs (And.intro k90_c1 trivial) (by kernel_rfl)) (fun v => by kernel_rfl) (h90 C127 C90_c1)
abbrev T136_c0 := Int × LqS × Int × Int × Int × Unit → Option (Int × LqS × Int × Int × Int × Unit)
def E136_c0 (f : T136_c0) : LEnt := ⟨f136_c0_ins, f136_c0_outs, f⟩
abbrev T136_l0 := Int × LqS × Int × Int × Int × Unit → Option (Int × LqS × Int × Int × Int × Unit)
def E136_l0 (f : T136_l0) : LEnt := ⟨f136_l0_ins, f136_l0_outs, f⟩
abbrev T136 := LqS × Int × Int × Int × Unit → Option (LqS × LqS × Int × Int × Int × Unit)
def E136 (f : T136) : FEnt := ⟨f136_ins, f136_outs, f⟩
def K136 (f90 : T90) : Calls' := fun f => Ae.lookA f [(90, E90 f90)]
theorem kok136 : KOk Tryz.prog (K136 C90) := (kok_cons ok90 (kok_nil _))
def F136_c0 (f90 : T90) : T136_c0 := fun (x0, x1, x2, x3, x4, _) =>
 some (x0, x1, IntKind.i64.wrap (x2 + 1), x3, x4, ())
theorem h136_c0 (f90 : T90) : AqC (K136 f90) 1 (subc (code Tryz.f136) [1, 1, 0, 0, 0, 1]) .nil f136_c0_ins f136_c0_outs (F136_c0 f90) := fun v => by kernel_rfl
def C136_c0 : T136_c0 := F136_c0 C90
theorem k136_c0 : FragOk Tryz.prog 1 (fun Q a w => (subc (code Tryz.f136) [1, 1, 0, 0, 0, 1]).wp Tryz.prog Q a w) (E136_c0 C136_c0) :=
 frag_code (ins := f136_c0_ins) (os := f136_c0_outs) (n := .nil) (F := C136_c0) hm hΓ kok136 (ann_nil _) (h136_c0 C90)
def N136_l0 (f136_c0 : T136_c0) : Ann := (.cut .nil (E136_c0 f136_c0))
def F136_l0 (f90 : T90) (f136_c0 : T136_c0) : LpF (Int × LqS × Int × Int × Int × Unit) (Int × LqS × Int × Int × Int × Unit) := fun (x0, x1, x2, x3, x4, _) =>
 bif decide (x2 < (↑x1.length : Int)) then
 bif decide (0 ≤ x2) && decide (x2 < (↑x1.length : Int)) then
 (f90 ((↑(x1.getD x2.toNat 0).toNat : Int), ())).bind fun v =>
 bif v.1 then
 (f136_c0 (x0, x1, x2, x3, x4, ())).bind fun v =>
 some
 (Sum.inl (v.1, v.2.1, v.2.2.1, v.2.2.2.1, v.2.2.2.2.1, ()))
 else some (Sum.inr (x0, x1, x2, x3, x4, ()))
 else none
 else some (Sum.inr (x0, x1, x2, x3, x4, ()))
theorem h136_l0 (f90 : T90) (f136_c0 : T136_c0) : AqL (K136 f90) 1 (subc (code Tryz.f136) [1, 1, 0, 0, 0]) (N136_l0 f136_c0) f136_l0_ins f136_l0_outs (F136_l0 f90 f136_c0) := fun v => by kernel_rfl
def C136_l0 : T136_l0 := loopN (F136_l0 C90 C136_c0) big
theorem k136_l0 : FragOk Tryz.prog 1 (fun Q a w => (Code.loop (subc (code Tryz.f136) [1, 1, 0, 0, 0])).wp Tryz.prog Q a w) (E136_l0 C136_l0) :=
 frag_big (ins := f136_l0_ins) (os := f136_l0_outs) (C := C136_l0) (frag_loop (ins := f136_l0_ins) (os := f136_l0_outs) (n := (N136_l0 C136_c0)) (F := F136_l0 C90 C136_c0) hm hΓ kok136 (fun _ => big) (ann_obs (And.intro k136_c0 trivial) (by kernel_rfl)) (h136_l0 C90 C136_c0)) rfl
def N136 (f136_l0 : T136_l0) : Ann := (.seq .nil (.seq .nil (.seq (.blk (.loop (E136_l0 f136_l0))) .nil)))
def F136 (f90 : T90) (f136_l0 : T136_l0) : T136 := fun (x0, x1, x2, x3, _) =>
 (f136_l0 (x1, x0, x1, x2, x3, ())).bind fun v =>
 bif decide (0 ≤ v.2.2.1) && decide (v.2.2.1 ≤ (↑(List.length v.2.1) : Int)) then
 bif decide (0 ≤ v.1) && decide (v.1 ≤ v.2.2.1) then
 some
 (List.drop (Int.toNat v.1) (List.take (Int.toNat v.2.2.1) v.2.1), v.2.1,
 v.2.2.1, v.2.2.2.1, v.2.2.2.2.1, ())
 else none
 else none
theorem h136 (f90 : T90) (f136_l0 : T136_l0) : AqF (K136 f90) 1 Tryz.f136 (N136 f136_l0) f136_ins f136_outs (F136 f90 f136_l0) := fun v => by kernel_rfl
def C136 : T136 := F136 C90 C136_l0
theorem ok136 : FnOk Tryz.prog 136 (E136 C136) :=
 fnx (n := (N136 C136_l0)) kok136 Tryz.func136 (by kernel_rfl) (by kernel_rfl) (ann_obs (And.intro k136_l0 trivial) (by kernel_rfl)) (fun v => by kernel_rfl) (h136 C90 C136_l0)
abbrev T174 := Int × Unit → Option (Bool × Unit)
def E174 (f : T174) : FEnt := ⟨f174_ins, f174_outs, f⟩
def K174 (f127 : T127) : Calls' := fun f => Ae.lookA f [(127, E127 f127)]
theorem kok174 : KOk Tryz.prog (K174 C127) := (kok_cons ok127 (kok_nil _))
def F174 (f127 : T127) : T174 := fun (x0, _) =>
 (f127 ([32, 9], x0, ())).bind fun v => some (decide (v.1 ≥ 0), ())
theorem h174 (f127 : T127) : AqF (K174 f127) 0 Tryz.f174 .nil f174_ins f174_outs (F174 f127) := fun v => by kernel_rfl
def C174 : T174 := F174 C127
theorem ok174 : FnOk Tryz.prog 174 (E174 C174) :=
 fnx (n := .nil) kok174 Tryz.func174 (by kernel_rfl) (by kernel_rfl) (ann_nil _) (fun v => by kernel_rfl) (h174 C127)
abbrev T173 := Int × Unit → Option (Bool × Unit)
def E173 (f : T173) : FEnt := ⟨f173_ins, f173_outs, f⟩
def K173 (f174 : T174) : Calls' := fun f => Ae.lookA f [(174, E174 f174)]
theorem kok173 : KOk Tryz.prog (K173 C174) := (kok_cons ok174 (kok_nil _))
def F173 (f174 : T174) : T173 := fun (x0, _) =>
 (f174 (x0, ())).bind fun v =>
 bif v.1 then some (true, ())
 else bif decide (x0 > 32) then some (bif x0 == 127 then false else true, ()) else some (false, ())
theorem h173 (f174 : T174) : AqF (K173 f174) 0 Tryz.f173 .nil f173_ins f173_outs (F173 f174) := fun v => by kernel_rfl
def C173 : T173 := F173 C174
theorem ok173 : FnOk Tryz.prog 173 (E173 C173) :=
 fnx (n := .nil) kok173 Tryz.func173 (by kernel_rfl) (by kernel_rfl) (ann_nil _) (fun v => by kernel_rfl) (h173 C174)
abbrev T141 := Int × Int × LqS × Int × Int × Int × Unit → Option (LqS × Int × Int × Int × Unit)
def E141 (f : T141) : FEnt := ⟨f141_ins, f141_outs, f⟩
def K141 : Calls' := fun f => Ae.lookA f []
theorem kok141 : KOk Tryz.prog (K141) := (kok_nil _)
def F141 : T141 := fun (x0, x1, x2, x3, x4, x5, _) =>
 some (x2, x3, x0, x1, ())
theorem h141 : AqF (K141) 1 Tryz.f141 .nil f141_ins f141_outs (F141) := fun v => by kernel_rfl
def C141 : T141 := F141
theorem ok141 : FnOk Tryz.prog 141 (E141 C141) :=
 fnx (n := .nil) kok141 Tryz.func141 (by kernel_rfl) (by kernel_rfl) (ann_nil _) (fun v => by kernel_rfl) (h141)
abbrev T137_c0 := Int × LqS × Int × Int × Int × LqS × Unit → Option ((LqS × LqS × Int × Int × Int × Unit) ⊕ (Int × LqS × Int × Int × Int × LqS × Unit))
def E137_c0 (f : T137_c0) : LEnt := ⟨f137_c0_ins, f137_c0_outs, f⟩
abbrev T137_l0 := Int × LqS × Int × Int × Int × LqS × Unit → Option ((LqS × Int × Int × Int × Unit) ⊕ (LqS × LqS × Int × Int × Int × Unit))
def E137_l0 (f : T137_l0) : LEnt := ⟨f137_l0_ins, f137_l0_outs, f⟩
abbrev T137 := LqS × Int × Int × Int × Unit → Option (LqS × LqS × Int × Int × Int × Unit)
def E137 (f : T137) : FEnt := ⟨f137_ins, f137_outs, f⟩
def K137 (f141 : T141) (f173 : T173) : Calls' := fun f => Ae.lookA f [(141, E141 f141), (173, E173 f173)]
theorem kok137 : KOk Tryz.prog (K137 C141 C173) := (kok_cons ok141 (kok_cons ok173 (kok_nil _)))
def F137_c0 (f141 : T141) (f173 : T173) : T137_c0 := fun (x0, x1, x2, x3, x4, x5, _) =>
 bif decide (0 ≤ x0) && decide (x0 < (↑x1.length : Int)) then
 (f173 ((↑(x1.getD x0.toNat 0).toNat : Int), ())).bind fun v =>
 bif !v.1 then
 (f141 (x0, 4, x1, x2, x3, x4, ())).bind fun v =>
 some (Sum.inl ([], v.1, v.2.1, v.2.2.1, v.2.2.2.1, ()))
 else
 bif decide (0 ≤ x0) && decide (x0 < (↑x1.length : Int)) then
 bif
 decide
 (x5.length + [UInt8.ofNat (↑(x1.getD x0.toNat 0).toNat : Int).toNat].length ≤ 140737488355328 / 1) then
 some (Sum.inr (x0, x1, x2, x3, x4, x5 ++ [UInt8.ofNat (↑(x1.getD x0.toNat 0).toNat : Int).toNat], ()))
 else none
 else none
 else none
theorem h137_c0 (f141 : T141) (f173 : T173) : AqC (K137 f141 f173) 1 (subc (code Tryz.f137) [1, 1, 0, 1, 0, 0, 1, 0, 0, 1, 1, 1]) .nil f137_c0_ins f137_c0_outs (F137_c0 f141 f173) := fun v => by kernel_rfl
def C137_c0 : T137_c0 := F137_c0 C141 C173
theorem k137_c0 : FragOk Tryz.prog 1 (fun Q a w => (subc (code Tryz.f137) [1, 1, 0, 1, 0, 0, 1, 0, 0, 1, 1, 1]).wp Tryz.prog Q a w) (E137_c0 C137_c0) :=
 frag_code (ins := f137_c0_ins) (os := f137_c0_outs) (n := .nil) (F := C137_c0) hm hΓ kok137 (ann_nil _) (h137_c0 C141 C173)
def N137_l0 (f137_c0 : T137_c0) : Ann := (.seq .nil (.seq (.blk (.seq .nil (.seq .nil (.cut .nil (E137_c0 f137_c0))))) .nil))
def F137_l0 (f141 : T141) (f173 : T173) (f137_c0 : T137_c0) : LpF (Int × LqS × Int × Int × Int × LqS × Unit) ((LqS × Int × Int × Int × Unit) ⊕ (LqS × LqS × Int × Int × Int × Unit)) := fun (x0, x1, x2, x3, x4, x5, _) =>
 bif decide (x0 < (↑x1.length : Int)) then
 bif decide (0 ≤ x0) && decide (x0 < (↑x1.length : Int)) then
 bif (↑(x1.getD x0.toNat 0).toNat : Int) == 34 then
 some (Sum.inr (Sum.inr (x5, x1, IntKind.i64.wrap (x0 + 1), x3, x4, ())))
 else
 bif (↑(x1.getD x0.toNat 0).toNat : Int) == 92 then
 bif IntKind.i64.wrap (x0 + 1) == (↑x1.length : Int) then some (Sum.inr (Sum.inl (x1, x2, x3, x4, ())))
 else
 (f137_c0 (IntKind.i64.wrap (x0 + 1), x1, x2, x3, x4, x5, ())).bind fun v =>
 Sum.elim
 (fun v =>
 some
 (Sum.inr
 (Sum.inr
 (v.1, v.2.1, v.2.2.1, v.2.2.2.1, v.2.2.2.2.1,
 ()))))
 (fun v =>
 some
 (Sum.inl
 (IntKind.i64.wrap (v.1 + 1), v.2.1, v.2.2.1, v.2.2.2.1,
 v.2.2.2.2.1, v.2.2.2.2.2.1, ())))
 v
 else
 (f137_c0 (x0, x1, x2, x3, x4, x5, ())).bind fun v =>
 Sum.elim
 (fun v =>
 some
 (Sum.inr
 (Sum.inr
 (v.1, v.2.1, v.2.2.1, v.2.2.2.1, v.2.2.2.2.1, ()))))
 (fun v =>
 some
 (Sum.inl
 (IntKind.i64.wrap (v.1 + 1), v.2.1, v.2.2.1, v.2.2.2.1,
 v.2.2.2.2.1, v.2.2.2.2.2.1, ())))
 v
 else none
 else some (Sum.inr (Sum.inl (x1, x2, x3, x4, ())))
theorem h137_l0 (f141 : T141) (f173 : T173) (f137_c0 : T137_c0) : AqL (K137 f141 f173) 1 (subc (code Tryz.f137) [1, 1, 0, 1, 0, 0]) (N137_l0 f137_c0) f137_l0_ins f137_l0_outs (F137_l0 f141 f173 f137_c0) := fun v => by kernel_rfl
def C137_l0 : T137_l0 := loopN (F137_l0 C141 C173 C137_c0) big
theorem k137_l0 : FragOk Tryz.prog 1 (fun Q a w => (Code.loop (subc (code Tryz.f137) [1, 1, 0, 1, 0, 0])).wp Tryz.prog Q a w) (E137_l0 C137_l0) :=
 frag_big (ins := f137_l0_ins) (os := f137_l0_outs) (C := C137_l0) (frag_loop (ins := f137_l0_ins) (os := f137_l0_outs) (n := (N137_l0 C137_c0)) (F := F137_l0 C141 C173 C137_c0) hm hΓ kok137 (fun _ => big) (ann_obs (And.intro k137_c0 trivial) (by kernel_rfl)) (h137_l0 C141 C173 C137_c0)) rfl
def N137 (f137_l0 : T137_l0) : Ann := (.seq .nil (.seq .nil (.seq (.seq .nil (.blk (.loop (E137_l0 f137_l0)))) .nil)))
def F137 (f141 : T141) (f173 : T173) (f137_l0 : T137_l0) : T137 := fun (x0, x1, x2, x3, _) =>
 (f137_l0 (IntKind.i64.wrap (x1 + 1), x0, x1, x2, x3, [], ())).bind fun v =>
 Sum.elim
 (fun v =>
 (f141 (v.2.1, 4, v.1, v.2.1, v.2.2.1, v.2.2.2.1, ())).bind fun v =>
 some ([], v.1, v.2.1, v.2.2.1, v.2.2.2.1, ()))
 (fun v => some (v.1, v.2.1, v.2.2.1, v.2.2.2.1, v.2.2.2.2.1, ()))
 v
theorem h137 (f141 : T141) (f173 : T173) (f137_l0 : T137_l0) : AqF (K137 f141 f173) 1 Tryz.f137 (N137 f137_l0) f137_ins f137_outs (F137 f141 f173 f137_l0) := fun v => by kernel_rfl
def C137 : T137 := F137 C141 C173 C137_l0
theorem ok137 : FnOk Tryz.prog 137 (E137 C137) :=
 fnx (n := (N137 C137_l0)) kok137 Tryz.func137 (by kernel_rfl) (by kernel_rfl) (ann_obs (And.intro k137_l0 trivial) (by kernel_rfl)) (fun v => by kernel_rfl) (h137 C141 C173 C137_l0)
abbrev T138_c0 := Int × LqS × LqS × Int × Int × Int × Unit → Option (LqS × LqS × Int × Int × Int × Unit)
def E138_c0 (f : T138_c0) : LEnt := ⟨f138_c0_ins, f138_c0_outs, f⟩
abbrev T138_l0 := Int × LqS × Int × Int × Int × Unit → Option ((LqS × Int × Int × Int × Unit) ⊕ (LqS × LqS × Int × Int × Int × Unit))
def E138_l0 (f : T138_l0) : LEnt := ⟨f138_l0_ins, f138_l0_outs, f⟩
abbrev T138 := LqS × Int × Int × Int × Unit → Option (LqS × LqS × Int × Int × Int × Unit)
def E138 (f : T138) : FEnt := ⟨f138_ins, f138_outs, f⟩
def K138 (f141 : T141) (f173 : T173) (f174 : T174) : Calls' := fun f => Ae.lookA f [(141, E141 f141), (173, E173 f173), (174, E174 f174)]
theorem kok138 : KOk Tryz.prog (K138 C141 C173 C174) := (kok_cons ok141 (kok_cons ok173 (kok_cons ok174 (kok_nil _))))
def F138_c0 (f141 : T141) (f173 : T173) (f174 : T174) : T138_c0 := fun (x0, x1, x2, x3, x4, x5, _) =>
 some (x1, x2, IntKind.i64.wrap (x0 + 1), x4, x5, ())
theorem h138_c0 (f141 : T141) (f173 : T173) (f174 : T174) : AqC (K138 f141 f173 f174) 1 (subc (code Tryz.f138) [1, 0, 1, 0, 0, 1, 0, 0, 1, 0, 1, 0, 1]) .nil f138_c0_ins f138_c0_outs (F138_c0 f141 f173 f174) := fun v => by kernel_rfl
def C138_c0 : T138_c0 := F138_c0 C141 C173 C174
theorem k138_c0 : FragOk Tryz.prog 1 (fun Q a w => (subc (code Tryz.f138) [1, 0, 1, 0, 0, 1, 0, 0, 1, 0, 1, 0, 1]).wp Tryz.prog Q a w) (E138_c0 C138_c0) :=
 frag_code (ins := f138_c0_ins) (os := f138_c0_outs) (n := .nil) (F := C138_c0) hm hΓ kok138 (ann_nil _) (h138_c0 C141 C173 C174)
def N138_l0 (f138_c0 : T138_c0) : Ann := (.seq .nil (.seq (.blk (.seq .nil (.blk (.seq .nil (.cond (.cut .nil (E138_c0 f138_c0)) .nil))))) .nil))
def F138_l0 (f141 : T141) (f173 : T173) (f174 : T174) (f138_c0 : T138_c0) : LpF (Int × LqS × Int × Int × Int × Unit) ((LqS × Int × Int × Int × Unit) ⊕ (LqS × LqS × Int × Int × Int × Unit)) := fun (x0, x1, x2, x3, x4, _) =>
 bif decide (x0 < (↑x1.length : Int)) then
 bif decide (0 ≤ x0) && decide (x0 < (↑x1.length : Int)) then
 bif (↑(x1.getD x0.toNat 0).toNat : Int) == 93 then
 bif decide (0 ≤ x0) && decide (x0 ≤ (↑x1.length : Int)) then
 bif decide (0 ≤ IntKind.i64.wrap (x2 + 1)) && decide (IntKind.i64.wrap (x2 + 1) ≤ x0) then
 (f138_c0 (x0, List.drop (IntKind.i64.wrap (x2 + 1)).toNat (List.take x0.toNat x1), x1, x2, x3, x4, ())).bind
 fun v =>
 some
 (Sum.inr
 (Sum.inr
 (v.1, v.2.1, v.2.2.1, v.2.2.2.1, v.2.2.2.2.1, ())))
 else none
 else none
 else
 bif (↑(x1.getD x0.toNat 0).toNat : Int) == 91 then
 (f141 (x0, 4, x1, x2, x3, x4, ())).bind fun v =>
 some (Sum.inr (Sum.inr ([], v.1, v.2.1, v.2.2.1, v.2.2.2.1, ())))
 else
 bif (↑(x1.getD x0.toNat 0).toNat : Int) == 92 then
 (f141 (x0, 4, x1, x2, x3, x4, ())).bind fun v =>
 some
 (Sum.inr (Sum.inr ([], v.1, v.2.1, v.2.2.1, v.2.2.2.1, ())))
 else
 (f174 ((↑(x1.getD x0.toNat 0).toNat : Int), ())).bind fun v =>
 bif v.1 then
 (f141 (x0, 4, x1, x2, x3, x4, ())).bind fun v =>
 some
 (Sum.inr
 (Sum.inr ([], v.1, v.2.1, v.2.2.1, v.2.2.2.1, ())))
 else
 (f173 ((↑(x1.getD x0.toNat 0).toNat : Int), ())).bind fun v =>
 bif !v.1 then
 (f141 (x0, 4, x1, x2, x3, x4, ())).bind fun v =>
 some
 (Sum.inr
 (Sum.inr ([], v.1, v.2.1, v.2.2.1, v.2.2.2.1, ())))
 else some (Sum.inl (IntKind.i64.wrap (x0 + 1), x1, x2, x3, x4, ()))
 else none
 else some (Sum.inr (Sum.inl (x1, x2, x3, x4, ())))
theorem h138_l0 (f141 : T141) (f173 : T173) (f174 : T174) (f138_c0 : T138_c0) : AqL (K138 f141 f173 f174) 1 (subc (code Tryz.f138) [1, 0, 1, 0, 0]) (N138_l0 f138_c0) f138_l0_ins f138_l0_outs (F138_l0 f141 f173 f174 f138_c0) := fun v => by kernel_rfl
def C138_l0 : T138_l0 := loopN (F138_l0 C141 C173 C174 C138_c0) big
theorem k138_l0 : FragOk Tryz.prog 1 (fun Q a w => (Code.loop (subc (code Tryz.f138) [1, 0, 1, 0, 0])).wp Tryz.prog Q a w) (E138_l0 C138_l0) :=
 frag_big (ins := f138_l0_ins) (os := f138_l0_outs) (C := C138_l0) (frag_loop (ins := f138_l0_ins) (os := f138_l0_outs) (n := (N138_l0 C138_c0)) (F := F138_l0 C141 C173 C174 C138_c0) hm hΓ kok138 (fun _ => big) (ann_obs (And.intro k138_c0 trivial) (by kernel_rfl)) (h138_l0 C141 C173 C174 C138_c0)) rfl
def N138 (f138_l0 : T138_l0) : Ann := (.seq .nil (.seq (.seq .nil (.blk (.loop (E138_l0 f138_l0)))) .nil))
def F138 (f141 : T141) (f173 : T173) (f174 : T174) (f138_l0 : T138_l0) : T138 := fun (x0, x1, x2, x3, _) =>
 (f138_l0 (IntKind.i64.wrap (x1 + 1), x0, x1, x2, x3, ())).bind fun v =>
 Sum.elim
 (fun v =>
 (f141 (v.2.1, 4, v.1, v.2.1, v.2.2.1, v.2.2.2.1, ())).bind fun v =>
 some ([], v.1, v.2.1, v.2.2.1, v.2.2.2.1, ()))
 (fun v => some (v.1, v.2.1, v.2.2.1, v.2.2.2.1, v.2.2.2.2.1, ()))
 v
theorem h138 (f141 : T141) (f173 : T173) (f174 : T174) (f138_l0 : T138_l0) : AqF (K138 f141 f173 f174) 1 Tryz.f138 (N138 f138_l0) f138_ins f138_outs (F138 f141 f173 f174 f138_l0) := fun v => by kernel_rfl
def C138 : T138 := F138 C141 C173 C174 C138_l0
theorem ok138 : FnOk Tryz.prog 138 (E138 C138) :=
 fnx (n := (N138 C138_l0)) kok138 Tryz.func138 (by kernel_rfl) (by kernel_rfl) (ann_obs (And.intro k138_l0 trivial) (by kernel_rfl)) (fun v => by kernel_rfl) (h138 C141 C173 C174 C138_l0)
abbrev T139_l0 := Int × Int × Int × Int × LqS × Int × Int × Int × Unit → Option ((Int × Int × LqS × Int × Int × Int × Unit) ⊕ (Int × Int × LqS × Int × Int × Int × Unit) ⊕ (LqS × LqS × Int × Int × Int × Unit))
def E139_l0 (f : T139_l0) : LEnt := ⟨f139_l0_ins, f139_l0_outs, f⟩
abbrev T139_g0 := Int × Int × LqS × Int × Int × Int × Unit → Option (LqS × LqS × Int × Int × Int × Unit)
def E139_g0 (f : T139_g0) : LEnt := ⟨f139_g0_ins, f139_g0_outs, f⟩
abbrev T139 := LqS × Int × Int × Int × Unit → Option (LqS × LqS × Int × Int × Int × Unit)
def E139 (f : T139) : FEnt := ⟨f139_ins, f139_outs, f⟩
def K139 (f141 : T141) (f173 : T173) : Calls' := fun f => Ae.lookA f [(141, E141 f141), (173, E173 f173)]
theorem kok139 : KOk Tryz.prog (K139 C141 C173) := (kok_cons ok141 (kok_cons ok173 (kok_nil _)))
def F139_l0 (f141 : T141) (f173 : T173) : LpF (Int × Int × Int × Int × LqS × Int × Int × Int × Unit) ((Int × Int × LqS × Int × Int × Int × Unit) ⊕ (Int × Int × LqS × Int × Int × Int × Unit) ⊕ (LqS × LqS × Int × Int × Int × Unit)) := fun (x0, x1, x2, x3, x4, x5, x6, x7, _) =>
 bif decide (x3 < (↑x4.length : Int)) then
 bif decide (0 ≤ x3) && decide (x3 < (↑x4.length : Int)) then
 bif (↑(x4.getD x3.toNat 0).toNat : Int) == 40 then
 bif decide (IntKind.i64.wrap (x1 + 1) > 32) then
 some (Sum.inr (Sum.inr (Sum.inl (6, x3, x4, x5, x6, x7, ()))))
 else some (Sum.inl (x0, IntKind.i64.wrap (x1 + 1), x2, IntKind.i64.wrap (x3 + 1), x4, x5, x6, x7, ()))
 else
 bif (↑(x4.getD x3.toNat 0).toNat : Int) == 41 then
 bif IntKind.i64.wrap (x1 - 1) == 0 then
 bif decide (0 ≤ x3) && decide (x3 ≤ (↑x4.length : Int)) then
 bif decide (0 ≤ IntKind.i64.wrap (x0 + 1)) && decide (IntKind.i64.wrap (x0 + 1) ≤ x3) then
 some
 (Sum.inr
 (Sum.inr
 (Sum.inr
 (List.drop (IntKind.i64.wrap (x0 + 1)).toNat (List.take x3.toNat x4), x4,
 IntKind.i64.wrap (x3 + 1), x6, x7, ()))))
 else none
 else none
 else some (Sum.inl (x0, IntKind.i64.wrap (x1 - 1), x2, IntKind.i64.wrap (x3 + 1), x4, x5, x6, x7, ()))
 else
 bif (↑(x4.getD x3.toNat 0).toNat : Int) == 92 then
 bif IntKind.i64.wrap (x3 + 1) == (↑x4.length : Int) then
 some (Sum.inl (x0, x1, x2, IntKind.i64.wrap (IntKind.i64.wrap (x3 + 1) + 1), x4, x5, x6, x7, ()))
 else
 bif decide (0 ≤ IntKind.i64.wrap (x3 + 1)) && decide (IntKind.i64.wrap (x3 + 1) < (↑x4.length : Int)) then
 (f173 ((↑(x4.getD (IntKind.i64.wrap (x3 + 1)).toNat 0).toNat : Int), ())).bind fun v =>
 bif !v.1 then
 some (Sum.inr (Sum.inr (Sum.inl (x2, IntKind.i64.wrap (x3 + 1), x4, x5, x6, x7, ()))))
 else
 some
 (Sum.inl (x0, x1, x2, IntKind.i64.wrap (IntKind.i64.wrap (x3 + 1) + 1), x4, x5, x6, x7, ()))
 else none
 else
 (f173 ((↑(x4.getD x3.toNat 0).toNat : Int), ())).bind fun v =>
 bif !v.1 then some (Sum.inr (Sum.inr (Sum.inl (x2, x3, x4, x5, x6, x7, ()))))
 else some (Sum.inl (x0, x1, x2, IntKind.i64.wrap (x3 + 1), x4, x5, x6, x7, ()))
 else none
 else some (Sum.inr (Sum.inl (x0, x2, x4, x5, x6, x7, ())))
theorem h139_l0 (f141 : T141) (f173 : T173) : AqL (K139 f141 f173) 1 (subc (code Tryz.f139) [1, 0, 1, 1, 0, 1, 0, 0]) .nil f139_l0_ins f139_l0_outs (F139_l0 f141 f173) := fun v => by kernel_rfl
def C139_l0 : T139_l0 := loopN (F139_l0 C141 C173) big
theorem k139_l0 : FragOk Tryz.prog 1 (fun Q a w => (Code.loop (subc (code Tryz.f139) [1, 0, 1, 1, 0, 1, 0, 0])).wp Tryz.prog Q a w) (E139_l0 C139_l0) :=
 frag_big (ins := f139_l0_ins) (os := f139_l0_outs) (C := C139_l0) (frag_loop (ins := f139_l0_ins) (os := f139_l0_outs) (n := .nil) (F := F139_l0 C141 C173) hm hΓ kok139 (fun _ => big) (ann_nil _) (h139_l0 C141 C173)) rfl
def F139_g0 (f141 : T141) (f173 : T173) : LpF (Int × Int × LqS × Int × Int × Int × Unit) (LqS × LqS × Int × Int × Int × Unit) := fun (x0, x1, x2, x3, x4, x5, _) =>
 (f141 (x1, x0, x2, x3, x4, x5, ())).bind fun v =>
 some (Sum.inr ([], v.1, v.2.1, v.2.2.1, v.2.2.2.1, ()))
theorem h139_g0 (f141 : T141) (f173 : T173) (v : HS f139_g0_ins) : aev Γ (K139 f141 f173) 1 ((findLabel (subc (code Tryz.f139) [1, 0]) 0).getD .skip) .nil (stof f139_g0_ins v) (aroundL 1 0 [] f139_g0_ins f139_g0_outs) = F139_g0 f141 f173 v := by kernel_rfl
def C139_g0 : T139_g0 := loopN (F139_g0 C141 C173) big
theorem k139_g0 : FragOk Tryz.prog 1 (ScopeFrom Tryz.prog (subc (code Tryz.f139) [1, 0]) 0) (E139_g0 C139_g0) :=
 frag_big (ins := f139_g0_ins) (os := f139_g0_outs) (C := C139_g0) (frag_label (ins := f139_g0_ins) (os := f139_g0_outs) (n := .nil) (ls := []) (F := F139_g0 C141 C173) (rest := ((findLabel (subc (code Tryz.f139) [1, 0]) 0).getD .skip)) hm hΓ kok139 (fun _ => big) (by kernel_rfl) (ann_nil _) find_nil (h139_g0 C141 C173)) rfl
def N139 (f139_g0 : T139_g0) (f139_l0 : T139_l0) : Ann := (.seq .nil (.scope (.seq .nil (.seq .nil (.seq (.seq .nil (.blk (.loop (E139_l0 f139_l0)))) .nil))) [(0, (E139_g0 f139_g0))]))
def F139 (f141 : T141) (f173 : T173) (f139_g0 : T139_g0) (f139_l0 : T139_l0) : T139 := fun (x0, x1, x2, x3, _) =>
 (f139_l0 (x1, 0, 4, x1, x0, x1, x2, x3, ())).bind fun v =>
 Sum.elim
 (fun v =>
 (f141
 (v.1, v.2.1, v.2.2.1, v.2.2.2.1, v.2.2.2.2.1,
 v.2.2.2.2.2.1, ())).bind
 fun v => some ([], v.1, v.2.1, v.2.2.1, v.2.2.2.1, ()))
 (fun v =>
 Sum.elim
 (fun v =>
 (f139_g0
 (v.1, v.2.1, v.2.2.1, v.2.2.2.1, v.2.2.2.2.1,
 v.2.2.2.2.2.1, ())).bind
 fun v =>
 some (v.1, v.2.1, v.2.2.1, v.2.2.2.1, v.2.2.2.2.1, ()))
 (fun v =>
 some (v.1, v.2.1, v.2.2.1, v.2.2.2.1, v.2.2.2.2.1, ()))
 v)
 v
theorem h139 (f141 : T141) (f173 : T173) (f139_g0 : T139_g0) (f139_l0 : T139_l0) : AqF (K139 f141 f173) 1 Tryz.f139 (N139 f139_g0 f139_l0) f139_ins f139_outs (F139 f141 f173 f139_g0 f139_l0) := fun v => by kernel_rfl
def C139 : T139 := F139 C141 C173 C139_g0 C139_l0
theorem ok139 : FnOk Tryz.prog 139 (E139 C139) :=
 fnx (n := (N139 C139_g0 C139_l0)) kok139 Tryz.func139 (by kernel_rfl) (by kernel_rfl) (ann_obs (And.intro k139_l0 (And.intro k139_g0 trivial)) (by kernel_rfl)) (fun v => by kernel_rfl) (h139 C141 C173 C139_g0 C139_l0)
abbrev T140_c0 := Int × Bool × LqS × Int × Int × Int × Unit → Option ((Int × LqS × Int × Int × Int × Unit) ⊕ (LqS × LqS × Int × Int × Int × Unit))
def E140_c0 (f : T140_c0) : LEnt := ⟨f140_c0_ins, f140_c0_outs, f⟩
abbrev T140_l0 := Int × LqS × Int × Int × Int × Unit → Option ((Int × LqS × Int × Int × Int × Unit) ⊕ (LqS × LqS × Int × Int × Int × Unit))
def E140_l0 (f : T140_l0) : LEnt := ⟨f140_l0_ins, f140_l0_outs, f⟩
abbrev T140 := LqS × Int × Int × Int × Unit → Option (LqS × LqS × Int × Int × Int × Unit)
def E140 (f : T140) : FEnt := ⟨f140_ins, f140_outs, f⟩
def K140 (f174 : T174) : Calls' := fun f => Ae.lookA f [(174, E174 f174)]
theorem kok140 : KOk Tryz.prog (K140 C174) := (kok_cons ok174 (kok_nil _))
def F140_c0 (f174 : T174) : T140_c0 := fun (x0, x1, x2, x3, x4, x5, _) =>
 bif x1 then some (Sum.inl (x0, x2, IntKind.i64.wrap (x3 + 3), x4, x5, ()))
 else
 bif decide (0 ≤ x3) && decide (x3 ≤ (↑x2.length : Int)) then
 bif decide (0 ≤ x0) && decide (x0 ≤ x3) then
 some (Sum.inr (List.drop x0.toNat (List.take x3.toNat x2), x2, x3, x4, x5, ()))
 else none
 else none
theorem h140_c0 (f174 : T174) : AqC (K140 f174) 1 (subc (code Tryz.f140) [1, 1, 0, 0, 0, 1, 0, 1, 0, 1, 1, 1]) .nil f140_c0_ins f140_c0_outs (F140_c0 f174) := fun v => by kernel_rfl
def C140_c0 : T140_c0 := F140_c0 C174
theorem k140_c0 : FragOk Tryz.prog 1 (fun Q a w => (subc (code Tryz.f140) [1, 1, 0, 0, 0, 1, 0, 1, 0, 1, 1, 1]).wp Tryz.prog Q a w) (E140_c0 C140_c0) :=
 frag_code (ins := f140_c0_ins) (os := f140_c0_outs) (n := .nil) (F := C140_c0) hm hΓ kok140 (ann_nil _) (h140_c0 C174)
def N140_l0 (f140_c0 : T140_c0) : Ann := (.seq .nil (.blk (.seq .nil (.blk (.seq .nil (.cond .nil (.cut .nil (E140_c0 f140_c0))))))))
def F140_l0 (f174 : T174) (f140_c0 : T140_c0) : LpF (Int × LqS × Int × Int × Int × Unit) ((Int × LqS × Int × Int × Int × Unit) ⊕ (LqS × LqS × Int × Int × Int × Unit)) := fun (x0, x1, x2, x3, x4, _) =>
 bif decide (x2 < (↑x1.length : Int)) then
 bif decide (0 ≤ x2) && decide (x2 ≤ (↑x1.length : Int)) then
 bif decide (0 < (↑(List.drop x2.toNat x1).length : Int)) then
 (f174 ((↑((List.drop x2.toNat x1).getD 0 0).toNat : Int), ())).bind fun v =>
 bif v.1 then some (Sum.inl (x0, x1, IntKind.i64.wrap (x2 + 1), x3, x4, ()))
 else
 bif decide ((↑(List.drop x2.toNat x1).length : Int) > 2) then
 bif decide (2 ≤ (↑(List.drop x2.toNat x1).length : Int)) then
 bif List.take 2 (List.drop x2.toNat x1) == [13, 10] then
 bif decide (2 < (↑(List.drop x2.toNat x1).length : Int)) then
 (f174 ((↑((List.drop x2.toNat x1).getD 2 0).toNat : Int), ())).bind fun v =>
 (f140_c0 (x0, v.1, x1, x2, x3, x4, ())).bind fun v =>
 Sum.elim
 (fun v =>
 some
 (Sum.inl
 (v.1, v.2.1, v.2.2.1, v.2.2.2.1, v.2.2.2.2.1,
 ())))
 (fun v =>
 some
 (Sum.inr
 (Sum.inr
 (v.1, v.2.1, v.2.2.1, v.2.2.2.1, v.2.2.2.2.1,
 ()))))
 v
 else none
 else
 (f140_c0 (x0, false, x1, x2, x3, x4, ())).bind fun v =>
 Sum.elim
 (fun v =>
 some
 (Sum.inl
 (v.1, v.2.1, v.2.2.1, v.2.2.2.1, v.2.2.2.2.1,
 ())))
 (fun v =>
 some
 (Sum.inr
 (Sum.inr
 (v.1, v.2.1, v.2.2.1, v.2.2.2.1, v.2.2.2.2.1,
 ()))))
 v
 else none
 else
 (f140_c0 (x0, false, x1, x2, x3, x4, ())).bind fun v =>
 Sum.elim
 (fun v =>
 some
 (Sum.inl
 (v.1, v.2.1, v.2.2.1, v.2.2.2.1, v.2.2.2.2.1,
 ())))
 (fun v =>
 some
 (Sum.inr
 (Sum.inr
 (v.1, v.2.1, v.2.2.1, v.2.2.2.1, v.2.2.2.2.1,
 ()))))
 v
 else none
 else none
 else some (Sum.inr (Sum.inl (x0, x1, x2, x3, x4, ())))
theorem h140_l0 (f174 : T174) (f140_c0 : T140_c0) : AqL (K140 f174) 1 (subc (code Tryz.f140) [1, 1, 0, 0, 0]) (N140_l0 f140_c0) f140_l0_ins f140_l0_outs (F140_l0 f174 f140_c0) := fun v => by kernel_rfl
def C140_l0 : T140_l0 := loopN (F140_l0 C174 C140_c0) big
theorem k140_l0 : FragOk Tryz.prog 1 (fun Q a w => (Code.loop (subc (code Tryz.f140) [1, 1, 0, 0, 0])).wp Tryz.prog Q a w) (E140_l0 C140_l0) :=
 frag_big (ins := f140_l0_ins) (os := f140_l0_outs) (C := C140_l0) (frag_loop (ins := f140_l0_ins) (os := f140_l0_outs) (n := (N140_l0 C140_c0)) (F := F140_l0 C174 C140_c0) hm hΓ kok140 (fun _ => big) (ann_obs (And.intro k140_c0 trivial) (by kernel_rfl)) (h140_l0 C174 C140_c0)) rfl
def N140 (f140_l0 : T140_l0) : Ann := (.seq .nil (.seq .nil (.seq (.blk (.loop (E140_l0 f140_l0))) .nil)))
def F140 (f174 : T174) (f140_l0 : T140_l0) : T140 := fun (x0, x1, x2, x3, _) =>
 (f140_l0 (x1, x0, x1, x2, x3, ())).bind fun v =>
 Sum.elim
 (fun v =>
 bif decide (0 ≤ v.2.2.1) && decide (v.2.2.1 ≤ (↑(List.length v.2.1) : Int)) then
 bif decide (0 ≤ v.1) && decide (v.1 ≤ v.2.2.1) then
 some
 (List.drop (Int.toNat v.1) (List.take (Int.toNat v.2.2.1) v.2.1), v.2.1,
 v.2.2.1, v.2.2.2.1, v.2.2.2.2.1, ())
 else none
 else none)
 (fun v => some (v.1, v.2.1, v.2.2.1, v.2.2.2.1, v.2.2.2.2.1, ()))
 v
theorem h140 (f174 : T174) (f140_l0 : T140_l0) : AqF (K140 f174) 1 Tryz.f140 (N140 f140_l0) f140_ins f140_outs (F140 f174 f140_l0) := fun v => by kernel_rfl
def C140 : T140 := F140 C174 C140_l0
theorem ok140 : FnOk Tryz.prog 140 (E140 C140) :=
 fnx (n := (N140 C140_l0)) kok140 Tryz.func140 (by kernel_rfl) (by kernel_rfl) (ann_obs (And.intro k140_l0 trivial) (by kernel_rfl)) (fun v => by kernel_rfl) (h140 C174 C140_l0)
abbrev T105_c0 := Int × Int × LqS × Int × Int × Int × Int × LqS × Int × Unit → Option (LqS × Int × Int × Int × Int × LqS × Int × Unit)
def E105_c0 (f : T105_c0) : LEnt := ⟨f105_c0_ins, f105_c0_outs, f⟩
abbrev T105 := LqS × Int × Int × Int × Unit → Option (Int × LqS × Int × LqS × Int × Int × Int × Unit)
def E105 (f : T105) : FEnt := ⟨f105_ins, f105_outs, f⟩
def K105 (f127 : T127) (f136 : T136) (f137 : T137) (f138 : T138) (f139 : T139) (f140 : T140) (f141 : T141) (f90 : T90) : Calls' := fun f => Ae.lookA f [(127, E127 f127), (136, E136 f136), (137, E137 f137), (138, E138 f138), (139, E139 f139), (140, E140 f140), (141, E141 f141), (90, E90 f90)]
theorem kok105 : KOk Tryz.prog (K105 C127 C136 C137 C138 C139 C140 C141 C90) := (kok_cons ok127 (kok_cons ok136 (kok_cons ok137 (kok_cons ok138 (kok_cons ok139 (kok_cons ok140 (kok_cons ok141 (kok_cons ok90 (kok_nil _)))))))))
def F105_c0 (f127 : T127) (f136 : T136) (f137 : T137) (f138 : T138) (f139 : T139) (f140 : T140) (f141 : T141) (f90 : T90) : T105_c0 := fun (x0, x1, x2, x3, x4, x5, x6, x7, x8, _) =>
 (f90 (x1, ())).bind fun v =>
 bif v.1 then
 (f136 (x2, x3, x4, x5, ())).bind fun v =>
 some (v.2.1, v.2.2.1, v.2.2.2.1, v.2.2.2.2.1, 0, v.1, x0, ())
 else
 (f127 ([60, 62, 58, 59, 64, 44, 46], x1, ())).bind fun v =>
 bif decide (v.1 ≥ 0) then
 bif decide (0 ≤ IntKind.i64.wrap (x3 + 1)) && decide (IntKind.i64.wrap (x3 + 1) ≤ (↑x2.length : Int)) then
 bif decide (0 ≤ x0) && decide (x0 ≤ IntKind.i64.wrap (x3 + 1)) then
 some
 (x2, IntKind.i64.wrap (x3 + 1), x4, x5, 2,
 List.drop x0.toNat (List.take (IntKind.i64.wrap (x3 + 1)).toNat x2), x0, ())
 else none
 else none
 else
 bif x1 == 34 then
 (f137 (x2, x3, x4, x5, ())).bind fun v =>
 some
 (v.2.1, v.2.2.1, v.2.2.2.1, v.2.2.2.2.1, 1, v.1, x0, ())
 else
 bif x1 == 91 then
 (f138 (x2, x3, x4, x5, ())).bind fun v =>
 some
 (v.2.1, v.2.2.1, v.2.2.2.1, v.2.2.2.2.1, 5, v.1, x0, ())
 else
 bif x1 == 40 then
 (f139 (x2, x3, x4, x5, ())).bind fun v =>
 some
 (v.2.1, v.2.2.1, v.2.2.2.1, v.2.2.2.2.1, 3, v.1, x0,
 ())
 else
 (f140 (x2, x3, x4, x5, ())).bind fun v =>
 bif v.1 == [] then
 (f141 (x0, 4, v.2.1, v.2.2.1, v.2.2.2.1, v.2.2.2.2.1, ())).bind
 fun v1 =>
 some
 (v1.1, v1.2.1, v1.2.2.1, v1.2.2.2.1, 4, v.1, x0, ())
 else
 some
 (v.2.1, v.2.2.1, v.2.2.2.1, v.2.2.2.2.1, 4, v.1, x0,
 ())
theorem h105_c0 (f127 : T127) (f136 : T136) (f137 : T137) (f138 : T138) (f139 : T139) (f140 : T140) (f141 : T141) (f90 : T90) : AqC (K105 f127 f136 f137 f138 f139 f140 f141 f90) 1 (subc (code Tryz.f105) [1, 1]) .nil f105_c0_ins f105_c0_outs (F105_c0 f127 f136 f137 f138 f139 f140 f141 f90) := fun v => by kernel_rfl
def C105_c0 : T105_c0 := F105_c0 C127 C136 C137 C138 C139 C140 C141 C90
theorem k105_c0 : FragOk Tryz.prog 1 (fun Q a w => (subc (code Tryz.f105) [1, 1]).wp Tryz.prog Q a w) (E105_c0 C105_c0) :=
 frag_code (ins := f105_c0_ins) (os := f105_c0_outs) (n := .nil) (F := C105_c0) hm hΓ kok105 (ann_nil _) (h105_c0 C127 C136 C137 C138 C139 C140 C141 C90)
def N105 (f105_c0 : T105_c0) : Ann := (.seq .nil (.cut .nil (E105_c0 f105_c0)))
def F105 (f127 : T127) (f136 : T136) (f137 : T137) (f138 : T138) (f139 : T139) (f140 : T140) (f141 : T141) (f90 : T90) (f105_c0 : T105_c0) : T105 := fun (x0, x1, x2, x3, _) =>
 bif decide (0 ≤ x1) && decide (x1 < (↑x0.length : Int)) then
 (f105_c0 (x1, (↑(x0.getD x1.toNat 0).toNat : Int), x0, x1, x2, x3, 0, [], 0, ())).bind fun v =>
 some
 (v.2.2.2.2.1, v.2.2.2.2.2.1, v.2.2.2.2.2.2.1, v.1, v.2.1,
 v.2.2.1, v.2.2.2.1, ())
 else none
theorem h105 (f127 : T127) (f136 : T136) (f137 : T137) (f138 : T138) (f139 : T139) (f140 : T140) (f141 : T141) (f90 : T90) (f105_c0 : T105_c0) : AqF (K105 f127 f136 f137 f138 f139 f140 f141 f90) 1 Tryz.f105 (N105 f105_c0) f105_ins f105_outs (F105 f127 f136 f137 f138 f139 f140 f141 f90 f105_c0) := fun v => by kernel_rfl
def C105 : T105 := F105 C127 C136 C137 C138 C139 C140 C141 C90 C105_c0
theorem ok105 : FnOk Tryz.prog 105 (E105 C105) :=
 fnx (n := (N105 C105_c0)) kok105 Tryz.func105 (by kernel_rfl) (by kernel_rfl) (ann_obs (And.intro k105_c0 trivial) (by kernel_rfl)) (fun v => by kernel_rfl) (h105 C127 C136 C137 C138 C139 C140 C141 C90 C105_c0)
abbrev T67_l0 := LqS × LqD × LqS × Int × Int × Int × Unit → Option ((LqD × Unit) ⊕ (Int × Int × Unit))
def E67_l0 (f : T67_l0) : LEnt := ⟨f67_l0_ins, f67_l0_outs, f⟩
abbrev T67 := LqS × Unit → Option (LqD × Int × Int × Unit)
def E67 (f : T67) : FEnt := ⟨f67_ins, f67_outs, f⟩
def K67 (f105 : T105) (f83 : T83) : Calls' := fun f => Ae.lookA f [(105, E105 f105), (83, E83 f83)]
theorem kok67 : KOk Tryz.prog (K67 C105 C83) := (kok_cons ok105 (kok_cons ok83 (kok_nil _)))
def F67_l0 (f105 : T105) (f83 : T83) : LpF (LqS × LqD × LqS × Int × Int × Int × Unit) ((LqD × Unit) ⊕ (Int × Int × Unit)) := fun (x0, x1, x2, x3, x4, x5, _) =>
 bif decide (x3 < (↑x0.length : Int)) then
 (f105 (x2, x3, x4, x5, ())).bind fun v =>
 bif decide (x1.length + [(v.1, v.2.1, v.2.2.1)].length ≤ 140737488355328 / 32) then
 bif v.2.2.2.2.2.2.1 != 0 then
 some (Sum.inr (Sum.inr (v.2.2.2.2.2.1, v.2.2.2.2.2.2.1, ())))
 else
 some
 (Sum.inl
 (x0, x1 ++ [(v.1, v.2.1, v.2.2.1)], v.2.2.2.1, v.2.2.2.2.1,
 v.2.2.2.2.2.1, v.2.2.2.2.2.2.1, ()))
 else none
 else some (Sum.inr (Sum.inl (x1, ())))
theorem h67_l0 (f105 : T105) (f83 : T83) : AqL (K67 f105 f83) 0 (subc (code Tryz.f67) [1, 1, 1, 1, 1, 0, 0, 0]) .nil f67_l0_ins f67_l0_outs (F67_l0 f105 f83) := fun v => by kernel_rfl
def C67_l0 : T67_l0 := loopN (F67_l0 C105 C83) big
theorem k67_l0 : FragOk Tryz.prog 0 (fun Q a w => (Code.loop (subc (code Tryz.f67) [1, 1, 1, 1, 1, 0, 0, 0])).wp Tryz.prog Q a w) (E67_l0 C67_l0) :=
 frag_big (ins := f67_l0_ins) (os := f67_l0_outs) (C := C67_l0) (frag_loop (ins := f67_l0_ins) (os := f67_l0_outs) (n := .nil) (F := F67_l0 C105 C83) hm hΓ kok67 (fun _ => big) (ann_nil _) (h67_l0 C105 C83)) rfl
def N67 (f67_l0 : T67_l0) : Ann := (.seq .nil (.seq .nil (.seq .nil (.seq .nil (.seq .nil (.seq (.blk (.loop (E67_l0 f67_l0))) .nil))))))
def F67 (f105 : T105) (f83 : T83) (f67_l0 : T67_l0) : T67 := fun (x0, _) =>
 bif decide ((↑x0.length : Int) > 2000) then some ([], 0, 5, ())
 else
 (f83 (x0, ())).bind fun v =>
 bif decide (v.2.1 ≥ 0) then some ([], v.2.1, 7, ())
 else
 (f67_l0 (x0, [], x0, 0, 0, 0, ())).bind fun v =>
 Sum.elim (fun v => some (v.1, 0, 0, ())) (fun v => some ([], v.1, v.2.1, ()))
 v
theorem h67 (f105 : T105) (f83 : T83) (f67_l0 : T67_l0) : AqF (K67 f105 f83) 0 Tryz.f67 (N67 f67_l0) f67_ins f67_outs (F67 f105 f83 f67_l0) := fun v => by kernel_rfl
def C67 : T67 := F67 C105 C83 C67_l0
theorem ok67 : FnOk Tryz.prog 67 (E67 C67) :=
 fnx (n := (N67 C67_l0)) kok67 Tryz.func67 (by kernel_rfl) (by kernel_rfl) (ann_obs (And.intro k67_l0 trivial) (by kernel_rfl)) (fun v => by kernel_rfl) (h67 C105 C83 C67_l0)
abbrev T146_c0 := Int × LqD × Int × LqS × LqS × Unit → Option (Int × LqD × Int × LqS × LqS × Unit)
def E146_c0 (f : T146_c0) : LEnt := ⟨f146_c0_ins, f146_c0_outs, f⟩
abbrev T146 := Int × LqD × Int × LqS × LqS × Unit → Option (Int × LqD × Int × LqS × LqS × Unit)
def E146 (f : T146) : FEnt := ⟨f146_ins, f146_outs, f⟩
def K146 : Calls' := fun f => Ae.lookA f []
theorem kok146 : KOk Tryz.prog (K146) := (kok_nil _)
def F146_c0 : T146_c0 := fun (x0, x1, x2, x3, x4, _) =>
 bif decide (0 ≤ IntKind.i64.wrap (x2 + x0)) && decide (IntKind.i64.wrap (x2 + x0) < (↑x1.length : Int)) then
 some
 ((x1.getD (IntKind.i64.wrap (x2 + x0)).toNat
 (0, ([], 0))).1,
 x1, x2, x3, x4, ())
 else none
theorem h146_c0 : AqC (K146) 1 (subc (code Tryz.f146) [1, 1]) .nil f146_c0_ins f146_c0_outs (F146_c0) := fun v => by kernel_rfl
def C146_c0 : T146_c0 := F146_c0
theorem k146_c0 : FragOk Tryz.prog 1 (fun Q a w => (subc (code Tryz.f146) [1, 1]).wp Tryz.prog Q a w) (E146_c0 C146_c0) :=
 frag_code (ins := f146_c0_ins) (os := f146_c0_outs) (n := .nil) (F := C146_c0) hm hΓ kok146 (ann_nil _) (h146_c0)
def N146 (f146_c0 : T146_c0) : Ann := (.seq .nil (.cut .nil (E146_c0 f146_c0)))
def F146 (f146_c0 : T146_c0) : T146 := fun (x0, x1, x2, x3, x4, _) =>
 bif decide (IntKind.i64.wrap (x2 + x0) ≥ (↑x1.length : Int)) then some (-1, x1, x2, x3, x4, ())
 else
 (f146_c0 (x0, x1, x2, x3, x4, ())).bind fun v =>
 some (v.1, v.2.1, v.2.2.1, v.2.2.2.1, v.2.2.2.2.1, ())
theorem h146 (f146_c0 : T146_c0) : AqF (K146) 1 Tryz.f146 (N146 f146_c0) f146_ins f146_outs (F146 f146_c0) := fun v => by kernel_rfl
def C146 : T146 := F146 C146_c0
theorem ok146 : FnOk Tryz.prog 146 (E146 C146) :=
 fnx (n := (N146 C146_c0)) kok146 Tryz.func146 (by kernel_rfl) (by kernel_rfl) (ann_obs (And.intro k146_c0 trivial) (by kernel_rfl)) (fun v => by kernel_rfl) (h146 C146_c0)
end Go.Proofs.YtiacnhhmkdkpmaaGreatDoorA.W
set_option maxRecDepth 100000
set_option linter.unusedVariables false
namespace Go.Proofs.YtiacnhhmkdkpmaaGreatDoorA.W
open Go Go.Ae
abbrev T109_l0 := LqD × Int × LqS × LqS × Unit → Option (LqD × Int × LqS × LqS × Unit)
def E109_l0 (f : T109_l0) : LEnt := ⟨f109_l0_ins, f109_l0_outs, f⟩
abbrev T109 := LqD × Int × LqS × LqS × Unit → Option (Bool × LqD × Int × LqS × LqS × Unit)
def E109 (f : T109) : FEnt := ⟨f109_ins, f109_outs, f⟩
def K109 (f146 : T146) : Calls' := fun f => Ae.lookA f [(146, E146 f146)]
theorem kok109 : KOk Tryz.prog (K109 C146) := (kok_cons ok146 (kok_nil _))
def F109_l0 (f146 : T146) : LpF (LqD × Int × LqS × LqS × Unit) (LqD × Int × LqS × LqS × Unit) := fun (x0, x1, x2, x3, _) =>
 (f146 (0, x0, x1, x2, x3, ())).bind fun v =>
 bif v.1 == 4 then
 some
 (Sum.inl
 (v.2.1, IntKind.i64.wrap (v.2.2.1 + 1), v.2.2.2.1, v.2.2.2.2.1, ()))
 else
 (f146 (0, v.2.1, v.2.2.1, v.2.2.2.1, v.2.2.2.2.1, ())).bind fun v =>
 bif v.1 == 3 then
 some
 (Sum.inl
 (v.2.1, IntKind.i64.wrap (v.2.2.1 + 1), v.2.2.2.1, v.2.2.2.2.1,
 ()))
 else some (Sum.inr (v.2.1, v.2.2.1, v.2.2.2.1, v.2.2.2.2.1, ()))
theorem h109_l0 (f146 : T146) : AqL (K109 f146) 1 (subc (code Tryz.f109) [1, 0, 0, 0]) .nil f109_l0_ins f109_l0_outs (F109_l0 f146) := fun v => by kernel_rfl
def C109_l0 : T109_l0 := loopN (F109_l0 C146) big
theorem k109_l0 : FragOk Tryz.prog 1 (fun Q a w => (Code.loop (subc (code Tryz.f109) [1, 0, 0, 0])).wp Tryz.prog Q a w) (E109_l0 C109_l0) :=
 frag_big (ins := f109_l0_ins) (os := f109_l0_outs) (C := C109_l0) (frag_loop (ins := f109_l0_ins) (os := f109_l0_outs) (n := .nil) (F := F109_l0 C146) hm hΓ kok109 (fun _ => big) (ann_nil _) (h109_l0 C146)) rfl
def N109 (f109_l0 : T109_l0) : Ann := (.seq .nil (.seq (.blk (.loop (E109_l0 f109_l0))) .nil))
def F109 (f146 : T146) (f109_l0 : T109_l0) : T109 := fun (x0, x1, x2, x3, _) =>
 (f109_l0 (x0, x1, x2, x3, ())).bind fun v =>
 some (true, v.1, v.2.1, v.2.2.1, v.2.2.2.1, ())
theorem h109 (f146 : T146) (f109_l0 : T109_l0) : AqF (K109 f146) 1 Tryz.f109 (N109 f109_l0) f109_ins f109_outs (F109 f146 f109_l0) := fun v => by kernel_rfl
def C109 : T109 := F109 C146 C109_l0
theorem ok109 : FnOk Tryz.prog 109 (E109 C109) :=
 fnx (n := (N109 C109_l0)) kok109 Tryz.func109 (by kernel_rfl) (by kernel_rfl) (ann_obs (And.intro k109_l0 trivial) (by kernel_rfl)) (fun v => by kernel_rfl) (h109 C146 C109_l0)
abbrev T148 := LqS × LqD × Int × LqS × LqS × Unit → Option (Bool × LqD × Int × LqS × LqS × Unit)
def E148 (f : T148) : FEnt := ⟨f148_ins, f148_outs, f⟩
def K148 (f146 : T146) : Calls' := fun f => Ae.lookA f [(146, E146 f146)]
theorem kok148 : KOk Tryz.prog (K148 C146) := (kok_cons ok146 (kok_nil _))
def F148 (f146 : T146) : T148 := fun (x0, x1, x2, x3, x4, _) =>
 (f146 (0, x1, x2, x3, x4, ())).bind fun v =>
 bif v.1 == 2 then
 bif decide (0 ≤ v.2.2.1) && decide (v.2.2.1 < (↑(List.length v.2.1) : Int)) then
 some
 ((List.getD v.2.1 (Int.toNat v.2.2.1)
 (0, ([], 0))).2.1 ==
 x0,
 v.2.1, v.2.2.1, v.2.2.2.1, v.2.2.2.2.1, ())
 else none
 else some (false, v.2.1, v.2.2.1, v.2.2.2.1, v.2.2.2.2.1, ())
theorem h148 (f146 : T146) : AqF (K148 f146) 1 Tryz.f148 .nil f148_ins f148_outs (F148 f146) := fun v => by kernel_rfl
def C148 : T148 := F148 C146
theorem ok148 : FnOk Tryz.prog 148 (E148 C148) :=
 fnx (n := .nil) kok148 Tryz.func148 (by kernel_rfl) (by kernel_rfl) (ann_nil _) (fun v => by kernel_rfl) (h148 C146)
abbrev T147_l0 := LqS × LqD × Int × LqS × LqS × Unit → Option (LqS × LqD × Int × LqS × LqS × Unit)
def E147_l0 (f : T147_l0) : LEnt := ⟨f147_l0_ins, f147_l0_outs, f⟩
abbrev T147_c0 := LqS × LqD × Int × LqS × LqS × Unit → Option (LqS × Bool × LqD × Int × LqS × LqS × Unit)
def E147_c0 (f : T147_c0) : LEnt := ⟨f147_c0_ins, f147_c0_outs, f⟩
abbrev T147 := LqD × Int × LqS × LqS × Unit → Option (LqS × Bool × LqD × Int × LqS × LqS × Unit)
def E147 (f : T147) : FEnt := ⟨f147_ins, f147_outs, f⟩
def K147 (f146 : T146) (f148 : T148) : Calls' := fun f => Ae.lookA f [(146, E146 f146), (148, E148 f148)]
theorem kok147 : KOk Tryz.prog (K147 C146 C148) := (kok_cons ok146 (kok_cons ok148 (kok_nil _)))
def F147_l0 (f146 : T146) (f148 : T148) : LpF (LqS × LqD × Int × LqS × LqS × Unit) (LqS × LqD × Int × LqS × LqS × Unit) := fun (x0, x1, x2, x3, x4, _) =>
 (f148 ([46], x1, x2, x3, x4, ())).bind fun v =>
 bif v.1 then
 (f146 (1, v.2.1, v.2.2.1, v.2.2.2.1, v.2.2.2.2.1, ())).bind fun v =>
 bif v.1 == 0 then
 bif
 decide (0 ≤ IntKind.i64.wrap (v.2.2.1 + 1)) &&
 decide (IntKind.i64.wrap (v.2.2.1 + 1) < (↑(List.length v.2.1) : Int)) then
 bif
 decide
 ([46].length +
 List.length
 (List.getD v.2.1 (IntKind.i64.wrap (v.2.2.1 + 1)).toNat
 (0, ([], 0))).2.1 ≤
 9223372036854775807) then
 bif
 decide
 (x0.length +
 ([46] ++
 (List.getD v.2.1 (IntKind.i64.wrap (v.2.2.1 + 1)).toNat
 (0, ([], 0))).2.1).length ≤
 9223372036854775807) then
 some
 (Sum.inl
 (x0 ++
 ([46] ++
 (List.getD v.2.1 (IntKind.i64.wrap (v.2.2.1 + 1)).toNat
 (0, ([], 0))).2.1),
 v.2.1, IntKind.i64.wrap (v.2.2.1 + 2), v.2.2.2.1, v.2.2.2.2.1,
 ()))
 else none
 else none
 else none
 else some (Sum.inr (x0, v.2.1, v.2.2.1, v.2.2.2.1, v.2.2.2.2.1, ()))
 else some (Sum.inr (x0, v.2.1, v.2.2.1, v.2.2.2.1, v.2.2.2.2.1, ()))
theorem h147_l0 (f146 : T146) (f148 : T148) : AqL (K147 f146 f148) 1 (subc (code Tryz.f147) [1, 1, 1, 0, 1, 0, 0]) .nil f147_l0_ins f147_l0_outs (F147_l0 f146 f148) := fun v => by kernel_rfl
def C147_l0 : T147_l0 := loopN (F147_l0 C146 C148) big
theorem k147_l0 : FragOk Tryz.prog 1 (fun Q a w => (Code.loop (subc (code Tryz.f147) [1, 1, 1, 0, 1, 0, 0])).wp Tryz.prog Q a w) (E147_l0 C147_l0) :=
 frag_big (ins := f147_l0_ins) (os := f147_l0_outs) (C := C147_l0) (frag_loop (ins := f147_l0_ins) (os := f147_l0_outs) (n := .nil) (F := F147_l0 C146 C148) hm hΓ kok147 (fun _ => big) (ann_nil _) (h147_l0 C146 C148)) rfl
def N147_c0 (f147_l0 : T147_l0) : Ann := (.seq (.seq .nil (.blk (.loop (E147_l0 f147_l0)))) .nil)
def F147_c0 (f146 : T146) (f148 : T148) (f147_l0 : T147_l0) : T147_c0 := fun (x0, x1, x2, x3, x4, _) =>
 (f147_l0 (x0, x1, IntKind.i64.wrap (x2 + 1), x3, x4, ())).bind fun v =>
 some (v.1, true, v.2.1, v.2.2.1, v.2.2.2.1, v.2.2.2.2.1, ())
theorem h147_c0 (f146 : T146) (f148 : T148) (f147_l0 : T147_l0) : AqC (K147 f146 f148) 1 (subc (code Tryz.f147) [1, 1, 1]) (N147_c0 f147_l0) f147_c0_ins f147_c0_outs (F147_c0 f146 f148 f147_l0) := fun v => by kernel_rfl
def C147_c0 : T147_c0 := F147_c0 C146 C148 C147_l0
theorem k147_c0 : FragOk Tryz.prog 1 (fun Q a w => (subc (code Tryz.f147) [1, 1, 1]).wp Tryz.prog Q a w) (E147_c0 C147_c0) :=
 frag_code (ins := f147_c0_ins) (os := f147_c0_outs) (n := (N147_c0 C147_l0)) (F := C147_c0) hm hΓ kok147 (ann_obs (And.intro k147_l0 trivial) (by kernel_rfl)) (h147_c0 C146 C148 C147_l0)
def N147 (f147_c0 : T147_c0) : Ann := (.seq .nil (.seq .nil (.cut .nil (E147_c0 f147_c0))))
def F147 (f146 : T146) (f148 : T148) (f147_c0 : T147_c0) : T147 := fun (x0, x1, x2, x3, _) =>
 (f146 (0, x0, x1, x2, x3, ())).bind fun v =>
 bif v.1 != 0 then
 some ([], false, v.2.1, v.2.2.1, v.2.2.2.1, v.2.2.2.2.1, ())
 else
 bif decide (0 ≤ v.2.2.1) && decide (v.2.2.1 < (↑(List.length v.2.1) : Int)) then
 (f147_c0
 ((List.getD v.2.1 (Int.toNat v.2.2.1)
 (0, ([], 0))).2.1,
 v.2.1, v.2.2.1, v.2.2.2.1, v.2.2.2.2.1, ())).bind
 fun v =>
 some
 (v.1, v.2.1, v.2.2.1, v.2.2.2.1, v.2.2.2.2.1,
 v.2.2.2.2.2.1, ())
 else none
theorem h147 (f146 : T146) (f148 : T148) (f147_c0 : T147_c0) : AqF (K147 f146 f148) 1 Tryz.f147 (N147 f147_c0) f147_ins f147_outs (F147 f146 f148 f147_c0) := fun v => by kernel_rfl
def C147 : T147 := F147 C146 C148 C147_c0
theorem ok147 : FnOk Tryz.prog 147 (E147 C147) :=
 fnx (n := (N147 C147_c0)) kok147 Tryz.func147 (by kernel_rfl) (by kernel_rfl) (ann_obs (And.intro k147_c0 trivial) (by kernel_rfl)) (fun v => by kernel_rfl) (h147 C146 C148 C147_c0)
abbrev T110_c0 := LqD × Int × LqS × LqS × Unit → Option (Bool × LqD × Int × LqS × LqS × Unit)
def E110_c0 (f : T110_c0) : LEnt := ⟨f110_c0_ins, f110_c0_outs, f⟩
abbrev T110 := LqD × Int × LqS × LqS × Unit → Option (Bool × LqD × Int × LqS × LqS × Unit)
def E110 (f : T110) : FEnt := ⟨f110_ins, f110_outs, f⟩
def K110 (f146 : T146) (f147 : T147) : Calls' := fun f => Ae.lookA f [(146, E146 f146), (147, E147 f147)]
theorem kok110 : KOk Tryz.prog (K110 C146 C147) := (kok_cons ok146 (kok_cons ok147 (kok_nil _)))
def F110_c0 (f146 : T146) (f147 : T147) : T110_c0 := fun (x0, x1, x2, x3, _) =>
 some (true, x0, IntKind.i64.wrap (x1 + 1), x2, x3, ())
theorem h110_c0 (f146 : T146) (f147 : T147) : AqC (K110 f146 f147) 1 (subc (code Tryz.f110) [1, 0, 1, 0, 1]) .nil f110_c0_ins f110_c0_outs (F110_c0 f146 f147) := fun v => by kernel_rfl
def C110_c0 : T110_c0 := F110_c0 C146 C147
theorem k110_c0 : FragOk Tryz.prog 1 (fun Q a w => (subc (code Tryz.f110) [1, 0, 1, 0, 1]).wp Tryz.prog Q a w) (E110_c0 C110_c0) :=
 frag_code (ins := f110_c0_ins) (os := f110_c0_outs) (n := .nil) (F := C110_c0) hm hΓ kok110 (ann_nil _) (h110_c0 C146 C147)
def N110 (f110_c0 : T110_c0) : Ann := (.seq .nil (.seq (.seq .nil (.cond (.cut .nil (E110_c0 f110_c0)) .nil)) .nil))
def F110 (f146 : T146) (f147 : T147) (f110_c0 : T110_c0) : T110 := fun (x0, x1, x2, x3, _) =>
 (f146 (0, x0, x1, x2, x3, ())).bind fun v =>
 bif v.1 == 1 then
 bif decide (0 ≤ v.2.2.1) && decide (v.2.2.1 < (↑(List.length v.2.1) : Int)) then
 (f110_c0
 (v.2.1, v.2.2.1,
 (List.getD v.2.1 (Int.toNat v.2.2.1)
 (0, ([], 0))).2.1,
 v.2.2.2.2.1, ())).bind
 fun v =>
 some (v.1, v.2.1, v.2.2.1, v.2.2.2.1, v.2.2.2.2.1, ())
 else none
 else
 (f147 (v.2.1, v.2.2.1, v.2.2.2.1, v.2.2.2.2.1, ())).bind fun v =>
 some (v.2.1, v.2.2.1, v.2.2.2.1, v.1, v.2.2.2.2.2.1, ())
theorem h110 (f146 : T146) (f147 : T147) (f110_c0 : T110_c0) : AqF (K110 f146 f147) 1 Tryz.f110 (N110 f110_c0) f110_ins f110_outs (F110 f146 f147 f110_c0) := fun v => by kernel_rfl
def C110 : T110 := F110 C146 C147 C110_c0
theorem ok110 : FnOk Tryz.prog 110 (E110 C110) :=
 fnx (n := (N110 C110_c0)) kok110 Tryz.func110 (by kernel_rfl) (by kernel_rfl) (ann_obs (And.intro k110_c0 trivial) (by kernel_rfl)) (fun v => by kernel_rfl) (h110 C146 C147 C110_c0)
abbrev T111 := LqD × Int × LqS × LqS × Unit → Option (Bool × LqD × Int × LqS × LqS × Unit)
def E111 (f : T111) : FEnt := ⟨f111_ins, f111_outs, f⟩
def K111 (f148 : T148) : Calls' := fun f => Ae.lookA f [(148, E148 f148)]
theorem kok111 : KOk Tryz.prog (K111 C148) := (kok_cons ok148 (kok_nil _))
def F111 (f148 : T148) : T111 := fun (x0, x1, x2, x3, _) =>
 (f148 ([64], x0, x1, x2, x3, ())).bind fun v =>
 some
 (v.1, v.2.1, IntKind.i64.wrap (v.2.2.1 + 1), v.2.2.2.1, v.2.2.2.2.1,
 ())
theorem h111 (f148 : T148) : AqF (K111 f148) 1 Tryz.f111 .nil f111_ins f111_outs (F111 f148) := fun v => by kernel_rfl
def C111 : T111 := F111 C148
theorem ok111 : FnOk Tryz.prog 111 (E111 C111) :=
 fnx (n := .nil) kok111 Tryz.func111 (by kernel_rfl) (by kernel_rfl) (ann_nil _) (fun v => by kernel_rfl) (h111 C148)
abbrev T126_l0 := LqS × Int × Int × LqS × Unit → Option (LqS × Unit)
def E126_l0 (f : T126_l0) : LEnt := ⟨f126_l0_ins, f126_l0_outs, f⟩
abbrev T126 := LqS × Unit → Option (LqS × Unit)
def E126 (f : T126) : FEnt := ⟨f126_ins, f126_outs, f⟩
def K126 : Calls' := fun f => Ae.lookA f []
theorem kok126 : KOk Tryz.prog (K126) := (kok_nil _)
def F126_l0 : LpF (LqS × Int × Int × LqS × Unit) (LqS × Unit) := fun (x0, x1, x2, x3, _) =>
 bif decide (x2 < x1) then
 bif decide (0 ≤ x2) && decide (x2 < (↑x0.length : Int)) then
 bif (↑(x0.getD x2.toNat 0).toNat : Int) == 34 then
 bif decide (x3.length + [92].length ≤ 140737488355328 / 1) then
 bif decide (0 ≤ x2) && decide (x2 < (↑x0.length : Int)) then
 bif
 decide
 ((x3 ++ [92]).length +
 [UInt8.ofNat (↑(x0.getD x2.toNat 0).toNat : Int).toNat].length ≤
 140737488355328 / 1) then
 some
 (Sum.inl
 (x0, x1, IntKind.i64.wrap (x2 + 1),
 x3 ++ [92] ++ [UInt8.ofNat (↑(x0.getD x2.toNat 0).toNat : Int).toNat],
 ()))
 else none
 else none
 else none
 else
 bif decide (0 ≤ x2) && decide (x2 < (↑x0.length : Int)) then
 bif (↑(x0.getD x2.toNat 0).toNat : Int) == 92 then
 bif decide (x3.length + [92].length ≤ 140737488355328 / 1) then
 bif decide (0 ≤ x2) && decide (x2 < (↑x0.length : Int)) then
 bif
 decide
 ((x3 ++ [92]).length +
 [UInt8.ofNat (↑(x0.getD x2.toNat 0).toNat : Int).toNat].length ≤
 140737488355328 / 1) then
 some
 (Sum.inl
 (x0, x1, IntKind.i64.wrap (x2 + 1),
 x3 ++ [92] ++ [UInt8.ofNat (↑(x0.getD x2.toNat 0).toNat : Int).toNat],
 ()))
 else none
 else none
 else none
 else
 bif decide (0 ≤ x2) && decide (x2 < (↑x0.length : Int)) then
 bif
 decide
 (x3.length + [UInt8.ofNat (↑(x0.getD x2.toNat 0).toNat : Int).toNat].length ≤
 140737488355328 / 1) then
 some
 (Sum.inl
 (x0, x1, IntKind.i64.wrap (x2 + 1), x3 ++ [UInt8.ofNat (↑(x0.getD x2.toNat 0).toNat : Int).toNat],
 ()))
 else none
 else none
 else none
 else none
 else some (Sum.inr (x3, ()))
theorem h126_l0 : AqL (K126) 0 (subc (code Tryz.f126) [1, 1, 0, 1, 0, 0]) .nil f126_l0_ins f126_l0_outs (F126_l0) := fun v => by kernel_rfl
def C126_l0 : T126_l0 := loopN (F126_l0) big
theorem k126_l0 : FragOk Tryz.prog 0 (fun Q a w => (Code.loop (subc (code Tryz.f126) [1, 1, 0, 1, 0, 0])).wp Tryz.prog Q a w) (E126_l0 C126_l0) :=
 frag_big (ins := f126_l0_ins) (os := f126_l0_outs) (C := C126_l0) (frag_loop (ins := f126_l0_ins) (os := f126_l0_outs) (n := .nil) (F := F126_l0) hm hΓ kok126 (fun _ => big) (ann_nil _) (h126_l0)) rfl
def N126 (f126_l0 : T126_l0) : Ann := (.seq .nil (.seq .nil (.seq (.seq .nil (.blk (.loop (E126_l0 f126_l0)))) .nil)))
def F126 (f126_l0 : T126_l0) : T126 := fun (x0, _) =>
 (f126_l0 (x0, (↑x0.length : Int), 0, [], ())).bind fun v => some (v.1, ())
theorem h126 (f126_l0 : T126_l0) : AqF (K126) 0 Tryz.f126 (N126 f126_l0) f126_ins f126_outs (F126 f126_l0) := fun v => by kernel_rfl
def C126 : T126 := F126 C126_l0
theorem ok126 : FnOk Tryz.prog 126 (E126 C126) :=
 fnx (n := (N126 C126_l0)) kok126 Tryz.func126 (by kernel_rfl) (by kernel_rfl) (ann_obs (And.intro k126_l0 trivial) (by kernel_rfl)) (fun v => by kernel_rfl) (h126 C126_l0)
abbrev T89 := Int × LqS × Int × Unit → Option (LqS × Unit)
def E89 (f : T89) : FEnt := ⟨f89_ins, f89_outs, f⟩
def K89 (f126 : T126) : Calls' := fun f => Ae.lookA f [(126, E126 f126)]
theorem kok89 : KOk Tryz.prog (K89 C126) := (kok_cons ok126 (kok_nil _))
def F89 (f126 : T126) : T89 := fun (x0, x1, x2, _) =>
 bif x0 == 1 then
 (f126 (x1, ())).bind fun v =>
 bif decide ([34].length + List.length v.1 ≤ 9223372036854775807) then
 bif decide (([34] ++ v.1).length + [34].length ≤ 9223372036854775807) then
 some ([34] ++ v.1 ++ [34], ())
 else none
 else none
 else
 bif x0 == 3 then
 bif decide ([40].length + x1.length ≤ 9223372036854775807) then
 bif decide (([40] ++ x1).length + [41].length ≤ 9223372036854775807) then
 some ([40] ++ x1 ++ [41], ())
 else none
 else none
 else
 bif x0 == 5 then
 bif decide ([91].length + x1.length ≤ 9223372036854775807) then
 bif decide (([91] ++ x1).length + [93].length ≤ 9223372036854775807) then
 some ([91] ++ x1 ++ [93], ())
 else none
 else none
 else some (x1, ())
theorem h89 (f126 : T126) : AqF (K89 f126) 0 Tryz.f89 .nil f89_ins f89_outs (F89 f126) := fun v => by kernel_rfl
def C89 : T89 := F89 C126
theorem ok89 : FnOk Tryz.prog 89 (E89 C89) :=
 fnx (n := .nil) kok89 Tryz.func89 (by kernel_rfl) (by kernel_rfl) (ann_nil _) (fun v => by kernel_rfl) (h89 C126)
abbrev T112_c0 := LqD × Int × LqS × LqS × Unit → Option (Bool × LqD × Int × LqS × LqS × Unit)
def E112_c0 (f : T112_c0) : LEnt := ⟨f112_c0_ins, f112_c0_outs, f⟩
abbrev T112 := LqD × Int × LqS × LqS × Unit → Option (Bool × LqD × Int × LqS × LqS × Unit)
def E112 (f : T112) : FEnt := ⟨f112_ins, f112_outs, f⟩
def K112 (f146 : T146) (f147 : T147) (f89 : T89) : Calls' := fun f => Ae.lookA f [(146, E146 f146), (147, E147 f147), (89, E89 f89)]
theorem kok112 : KOk Tryz.prog (K112 C146 C147 C89) := (kok_cons ok146 (kok_cons ok147 (kok_cons ok89 (kok_nil _))))
def F112_c0 (f146 : T146) (f147 : T147) (f89 : T89) : T112_c0 := fun (x0, x1, x2, x3, _) =>
 some (true, x0, IntKind.i64.wrap (x1 + 1), x2, x3, ())
theorem h112_c0 (f146 : T146) (f147 : T147) (f89 : T89) : AqC (K112 f146 f147 f89) 1 (subc (code Tryz.f112) [1, 0, 1, 0, 1]) .nil f112_c0_ins f112_c0_outs (F112_c0 f146 f147 f89) := fun v => by kernel_rfl
def C112_c0 : T112_c0 := F112_c0 C146 C147 C89
theorem k112_c0 : FragOk Tryz.prog 1 (fun Q a w => (subc (code Tryz.f112) [1, 0, 1, 0, 1]).wp Tryz.prog Q a w) (E112_c0 C112_c0) :=
 frag_code (ins := f112_c0_ins) (os := f112_c0_outs) (n := .nil) (F := C112_c0) hm hΓ kok112 (ann_nil _) (h112_c0 C146 C147 C89)
def N112 (f112_c0 : T112_c0) : Ann := (.seq .nil (.seq (.seq .nil (.cond (.cut .nil (E112_c0 f112_c0)) .nil)) .nil))
def F112 (f146 : T146) (f147 : T147) (f89 : T89) (f112_c0 : T112_c0) : T112 := fun (x0, x1, x2, x3, _) =>
 (f146 (0, x0, x1, x2, x3, ())).bind fun v =>
 bif v.1 == 5 then
 bif decide (0 ≤ v.2.2.1) && decide (v.2.2.1 < (↑(List.length v.2.1) : Int)) then
 (f89
 ((List.getD v.2.1 (Int.toNat v.2.2.1)
 (0, ([], 0))).1,
 (List.getD v.2.1 (Int.toNat v.2.2.1)
 (0, ([], 0))).2.1,
 (List.getD v.2.1 (Int.toNat v.2.2.1)
 (0, ([], 0))).2.2,
 ())).bind
 fun v1 =>
 (f112_c0 (v.2.1, v.2.2.1, v.2.2.2.1, v1.1, ())).bind fun v =>
 some (v.1, v.2.1, v.2.2.1, v.2.2.2.1, v.2.2.2.2.1, ())
 else none
 else
 (f147 (v.2.1, v.2.2.1, v.2.2.2.1, v.2.2.2.2.1, ())).bind fun v =>
 some (v.2.1, v.2.2.1, v.2.2.2.1, v.2.2.2.2.1, v.1, ())
theorem h112 (f146 : T146) (f147 : T147) (f89 : T89) (f112_c0 : T112_c0) : AqF (K112 f146 f147 f89) 1 Tryz.f112 (N112 f112_c0) f112_ins f112_outs (F112 f146 f147 f89 f112_c0) := fun v => by kernel_rfl
def C112 : T112 := F112 C146 C147 C89 C112_c0
theorem ok112 : FnOk Tryz.prog 112 (E112 C112) :=
 fnx (n := (N112 C112_c0)) kok112 Tryz.func112 (by kernel_rfl) (by kernel_rfl) (ann_obs (And.intro k112_c0 trivial) (by kernel_rfl)) (fun v => by kernel_rfl) (h112 C146 C147 C89 C112_c0)
abbrev T71 := LqD × Unit → Option (LqS × LqS × Int × Bool × Unit)
def E71 (f : T71) : FEnt := ⟨f71_ins, f71_outs, f⟩
def K71 (f109 : T109) (f110 : T110) (f111 : T111) (f112 : T112) : Calls' := fun f => Ae.lookA f [(109, E109 f109), (110, E110 f110), (111, E111 f111), (112, E112 f112)]
theorem kok71 : KOk Tryz.prog (K71 C109 C110 C111 C112) := (kok_cons ok109 (kok_cons ok110 (kok_cons ok111 (kok_cons ok112 (kok_nil _)))))
def N71 : Ann := (.seq .nil (.seq .nil (.seq (.seq .nil (.blk (.unroll 9 .nil))) .nil)))
def F71 (f109 : T109) (f110 : T110) (f111 : T111) (f112 : T112) : T71 := fun (x0, _) =>
 (f109 (x0, 0, [], [], ())).bind fun v =>
 bif !v.1 then some ([], [], 0, false, ())
 else
 (f110 (v.2.1, v.2.2.1, v.2.2.2.1, v.2.2.2.2.1, ())).bind fun v =>
 bif !v.1 then some ([], [], 0, false, ())
 else
 (f109 (v.2.1, v.2.2.1, v.2.2.2.1, v.2.2.2.2.1, ())).bind fun v =>
 bif !v.1 then some ([], [], 0, false, ())
 else
 (f111 (v.2.1, v.2.2.1, v.2.2.2.1, v.2.2.2.2.1, ())).bind fun v =>
 bif !v.1 then some ([], [], 0, false, ())
 else
 (f109 (v.2.1, v.2.2.1, v.2.2.2.1, v.2.2.2.2.1, ())).bind fun v =>
 bif !v.1 then some ([], [], 0, false, ())
 else
 (f112 (v.2.1, v.2.2.1, v.2.2.2.1, v.2.2.2.2.1, ())).bind
 fun v =>
 bif !v.1 then some ([], [], 0, false, ())
 else
 (f109 (v.2.1, v.2.2.1, v.2.2.2.1, v.2.2.2.2.1, ())).bind
 fun v =>
 bif !v.1 then some ([], [], 0, false, ())
 else some (v.2.2.2.1, v.2.2.2.2.1, v.2.2.1, true, ())
theorem h71 (f109 : T109) (f110 : T110) (f111 : T111) (f112 : T112) : AqF (K71 f109 f110 f111 f112) 0 Tryz.f71 N71 f71_ins f71_outs (F71 f109 f110 f111 f112) := fun v => by kernel_rfl
def C71 : T71 := F71 C109 C110 C111 C112
theorem ok71 : FnOk Tryz.prog 71 (E71 C71) :=
 fnx (n := N71) kok71 Tryz.func71 (by kernel_rfl) (by kernel_rfl) (ann_obs trivial (by kernel_rfl)) (fun v => by kernel_rfl) (h71 C109 C110 C111 C112)
abbrev T143_c0 := Int × Bool × LqD × Int × LqS × LqS × LqS × LqS × Unit → Option (Bool × LqD × Int × LqS × LqS × Unit)
def E143_c0 (f : T143_c0) : LEnt := ⟨f143_c0_ins, f143_c0_outs, f⟩
abbrev T143 := LqD × Int × Unit → Option (LqS × LqS × Bool × LqD × Int × Unit)
def E143 (f : T143) : FEnt := ⟨f143_ins, f143_outs, f⟩
def K143 (f71 : T71) : Calls' := fun f => Ae.lookA f [(71, E71 f71)]
theorem kok143 : KOk Tryz.prog (K143 C71) := (kok_cons ok71 (kok_nil _))
def F143_c0 (f71 : T71) : T143_c0 := fun (x0, x1, x2, x3, x4, x5, x6, x7, _) =>
 some (x1, x2, IntKind.i64.wrap (x3 + x0), x6, x7, ())
theorem h143_c0 (f71 : T71) : AqC (K143 f71) 1 (subc (code Tryz.f143) [1, 1]) .nil f143_c0_ins f143_c0_outs (F143_c0 f71) := fun v => by kernel_rfl
def C143_c0 : T143_c0 := F143_c0 C71
theorem k143_c0 : FragOk Tryz.prog 1 (fun Q a w => (subc (code Tryz.f143) [1, 1]).wp Tryz.prog Q a w) (E143_c0 C143_c0) :=
 frag_code (ins := f143_c0_ins) (os := f143_c0_outs) (n := .nil) (F := C143_c0) hm hΓ kok143 (ann_nil _) (h143_c0 C71)
def N143 (f143_c0 : T143_c0) : Ann := (.seq .nil (.cut .nil (E143_c0 f143_c0)))
def F143 (f71 : T71) (f143_c0 : T143_c0) : T143 := fun (x0, x1, _) =>
 bif decide (0 ≤ x1) && decide (x1 ≤ (↑x0.length : Int)) then
 (f71 (List.drop x1.toNat x0, ())).bind fun v =>
 (f143_c0 (v.2.2.1, v.2.2.2.1, x0, x1, [], [], v.1, v.2.1, ())).bind fun v =>
 some (v.2.2.2.1, v.2.2.2.2.1, v.1, v.2.1, v.2.2.1, ())
 else none
theorem h143 (f71 : T71) (f143_c0 : T143_c0) : AqF (K143 f71) 1 Tryz.f143 (N143 f143_c0) f143_ins f143_outs (F143 f71 f143_c0) := fun v => by kernel_rfl
def C143 : T143 := F143 C71 C143_c0
theorem ok143 : FnOk Tryz.prog 143 (E143 C143) :=
 fnx (n := (N143 C143_c0)) kok143 Tryz.func143 (by kernel_rfl) (by kernel_rfl) (ann_obs (And.intro k143_c0 trivial) (by kernel_rfl)) (fun v => by kernel_rfl) (h143 C71 C143_c0)
abbrev T175_l0 := List (Int) × Int × Int × Int × Unit → Option (Unit ⊕ (Int × Unit))
def E175_l0 (f : T175_l0) : LEnt := ⟨f175_l0_ins, f175_l0_outs, f⟩
abbrev T175 := List (Int) × Int × Unit → Option (Int × Unit)
def E175 (f : T175) : FEnt := ⟨f175_ins, f175_outs, f⟩
def K175 : Calls' := fun f => Ae.lookA f []
theorem kok175 : KOk Tryz.prog (K175) := (kok_nil _)
def F175_l0 : LpF (List (Int) × Int × Int × Int × Unit) (Unit ⊕ (Int × Unit)) := fun (x0, x1, x2, x3, _) =>
 bif decide (x3 < x2) then
 bif decide (0 ≤ x3) && decide (x3 < (↑x0.length : Int)) then
 bif x1 == x0.getD x3.toNat 0 then some (Sum.inr (Sum.inr (x3, ())))
 else some (Sum.inl (x0, x1, x2, IntKind.i64.wrap (x3 + 1), ()))
 else none
 else some (Sum.inr (Sum.inl ()))
theorem h175_l0 : AqL (K175) 0 (subc (code Tryz.f175) [1, 0, 1, 0, 0]) .nil f175_l0_ins f175_l0_outs (F175_l0) := fun v => by kernel_rfl
def C175_l0 : T175_l0 := loopN (F175_l0) big
theorem k175_l0 : FragOk Tryz.prog 0 (fun Q a w => (Code.loop (subc (code Tryz.f175) [1, 0, 1, 0, 0])).wp Tryz.prog Q a w) (E175_l0 C175_l0) :=
 frag_big (ins := f175_l0_ins) (os := f175_l0_outs) (C := C175_l0) (frag_loop (ins := f175_l0_ins) (os := f175_l0_outs) (n := .nil) (F := F175_l0) hm hΓ kok175 (fun _ => big) (ann_nil _) (h175_l0)) rfl
def N175 (f175_l0 : T175_l0) : Ann := (.seq .nil (.seq (.seq .nil (.blk (.loop (E175_l0 f175_l0)))) .nil))
def F175 (f175_l0 : T175_l0) : T175 := fun (x0, x1, _) =>
 (f175_l0 (x0, x1, (↑x0.length : Int), 0, ())).bind fun v =>
 Sum.elim (fun v => some (-1, ())) (fun v => some (v.1, ())) v
theorem h175 (f175_l0 : T175_l0) : AqF (K175) 0 Tryz.f175 (N175 f175_l0) f175_ins f175_outs (F175 f175_l0) := fun v => by kernel_rfl
def C175 : T175 := F175 C175_l0
theorem ok175 : FnOk Tryz.prog 175 (E175 C175) :=
 fnx (n := (N175 C175_l0)) kok175 Tryz.func175 (by kernel_rfl) (by kernel_rfl) (ann_obs (And.intro k175_l0 trivial) (by kernel_rfl)) (fun v => by kernel_rfl) (h175 C175_l0)
abbrev T142 := List (Int) × Int × Unit → Option (Bool × Unit)
def E142 (f : T142) : FEnt := ⟨f142_ins, f142_outs, f⟩
def K142 (f175 : T175) : Calls' := fun f => Ae.lookA f [(175, E175 f175)]
theorem kok142 : KOk Tryz.prog (K142 C175) := (kok_cons ok175 (kok_nil _))
def F142 (f175 : T175) : T142 := fun (x0, x1, _) =>
 (f175 (x0, x1, ())).bind fun v => some (decide (v.1 ≥ 0), ())
theorem h142 (f175 : T175) : AqF (K142 f175) 0 Tryz.f142 .nil f142_ins f142_outs (F142 f175) := fun v => by kernel_rfl
def C142 : T142 := F142 C175
theorem ok142 : FnOk Tryz.prog 142 (E142 C142) :=
 fnx (n := .nil) kok142 Tryz.func142 (by kernel_rfl) (by kernel_rfl) (ann_nil _) (fun v => by kernel_rfl) (h142 C175)
abbrev T106 := List (Int) × LqD × Int × Unit → Option (Bool × LqD × Int × Unit)
def E106 (f : T106) : FEnt := ⟨f106_ins, f106_outs, f⟩
def K106 (f142 : T142) : Calls' := fun f => Ae.lookA f [(142, E142 f142)]
theorem kok106 : KOk Tryz.prog (K106 C142) := (kok_cons ok142 (kok_nil _))
def F106 (f142 : T142) : T106 := fun (x0, x1, x2, _) =>
 bif decide (x2 < (↑x1.length : Int)) then
 bif decide (0 ≤ x2) && decide (x2 < (↑x1.length : Int)) then
 (f142 (x0, (x1.getD x2.toNat (0, ([], 0))).1, ())).bind
 fun v => some (v.1, x1, x2, ())
 else none
 else some (false, x1, x2, ())
theorem h106 (f142 : T142) : AqF (K106 f142) 1 Tryz.f106 .nil f106_ins f106_outs (F106 f142) := fun v => by kernel_rfl
def C106 : T106 := F106 C142
theorem ok106 : FnOk Tryz.prog 106 (E106 C106) :=
 fnx (n := .nil) kok106 Tryz.func106 (by kernel_rfl) (by kernel_rfl) (ann_nil _) (fun v => by kernel_rfl) (h106 C142)
abbrev T145_l0 := LqD × Int × Unit → Option (LqD × Int × Unit)
def E145_l0 (f : T145_l0) : LEnt := ⟨f145_l0_ins, f145_l0_outs, f⟩
abbrev T145 := LqD × Int × Unit → Option (LqD × Int × Unit)
def E145 (f : T145) : FEnt := ⟨f145_ins, f145_outs, f⟩
def K145 (f106 : T106) : Calls' := fun f => Ae.lookA f [(106, E106 f106)]
theorem kok145 : KOk Tryz.prog (K145 C106) := (kok_cons ok106 (kok_nil _))
def F145_l0 (f106 : T106) : LpF (LqD × Int × Unit) (LqD × Int × Unit) := fun (x0, x1, _) =>
 (f106 ([4, 3], x0, x1, ())).bind fun v =>
 bif v.1 then some (Sum.inl (v.2.1, IntKind.i64.wrap (v.2.2.1 + 1), ()))
 else some (Sum.inr (v.2.1, v.2.2.1, ()))
theorem h145_l0 (f106 : T106) : AqL (K145 f106) 1 (subc (code Tryz.f145) [0, 0]) .nil f145_l0_ins f145_l0_outs (F145_l0 f106) := fun v => by kernel_rfl
def C145_l0 : T145_l0 := loopN (F145_l0 C106) big
theorem k145_l0 : FragOk Tryz.prog 1 (fun Q a w => (Code.loop (subc (code Tryz.f145) [0, 0])).wp Tryz.prog Q a w) (E145_l0 C145_l0) :=
 frag_big (ins := f145_l0_ins) (os := f145_l0_outs) (C := C145_l0) (frag_loop (ins := f145_l0_ins) (os := f145_l0_outs) (n := .nil) (F := F145_l0 C106) hm hΓ kok145 (fun _ => big) (ann_nil _) (h145_l0 C106)) rfl
def N145 (f145_l0 : T145_l0) : Ann := (.blk (.loop (E145_l0 f145_l0)))
def F145 (f106 : T106) (f145_l0 : T145_l0) : T145 := fun (x0, x1, _) =>
 (f145_l0 (x0, x1, ())).bind fun v => some (v.1, v.2.1, ())
theorem h145 (f106 : T106) (f145_l0 : T145_l0) : AqF (K145 f106) 1 Tryz.f145 (N145 f145_l0) f145_ins f145_outs (F145 f106 f145_l0) := fun v => by kernel_rfl
def C145 : T145 := F145 C106 C145_l0
theorem ok145 : FnOk Tryz.prog 145 (E145 C145) :=
 fnx (n := (N145 C145_l0)) kok145 Tryz.func145 (by kernel_rfl) (by kernel_rfl) (ann_obs (And.intro k145_l0 trivial) (by kernel_rfl)) (fun v => by kernel_rfl) (h145 C106 C145_l0)
abbrev T144_c0 := LqD × Int × List (LqS) × Unit → Option (LqD × Int × List (LqS) × Unit)
def E144_c0 (f : T144_c0) : LEnt := ⟨f144_c0_ins, f144_c0_outs, f⟩
abbrev T144_l0 := LqD × Int × List (LqS) × Unit → Option (LqD × Int × List (LqS) × Unit)
def E144_l0 (f : T144_l0) : LEnt := ⟨f144_l0_ins, f144_l0_outs, f⟩
abbrev T144 := LqD × Int × Unit → Option (LqS × Bool × LqD × Int × Unit)
def E144 (f : T144) : FEnt := ⟨f144_ins, f144_outs, f⟩
def K144 (f106 : T106) (f145 : T145) (f73 : T73) : Calls' := fun f => Ae.lookA f [(106, E106 f106), (145, E145 f145), (73, E73 f73)]
theorem kok144 : KOk Tryz.prog (K144 C106 C145 C73) := (kok_cons ok106 (kok_cons ok145 (kok_cons ok73 (kok_nil _))))
def F144_c0 (f106 : T106) (f145 : T145) (f73 : T73) : T144_c0 := fun (x0, x1, x2, _) =>
 some (x0, IntKind.i64.wrap (x1 + 1), x2, ())
theorem h144_c0 (f106 : T106) (f145 : T145) (f73 : T73) : AqC (K144 f106 f145 f73) 1 (subc (code Tryz.f144) [1, 1, 0, 1, 0, 0, 1, 0, 0, 1]) .nil f144_c0_ins f144_c0_outs (F144_c0 f106 f145 f73) := fun v => by kernel_rfl
def C144_c0 : T144_c0 := F144_c0 C106 C145 C73
theorem k144_c0 : FragOk Tryz.prog 1 (fun Q a w => (subc (code Tryz.f144) [1, 1, 0, 1, 0, 0, 1, 0, 0, 1]).wp Tryz.prog Q a w) (E144_c0 C144_c0) :=
 frag_code (ins := f144_c0_ins) (os := f144_c0_outs) (n := .nil) (F := C144_c0) hm hΓ kok144 (ann_nil _) (h144_c0 C106 C145 C73)
def N144_l0 (f144_c0 : T144_c0) : Ann := (.seq .nil (.seq (.blk (.cut .nil (E144_c0 f144_c0))) .nil))
def F144_l0 (f106 : T106) (f145 : T145) (f73 : T73) (f144_c0 : T144_c0) : LpF (LqD × Int × List (LqS) × Unit) (LqD × Int × List (LqS) × Unit) := fun (x0, x1, x2, _) =>
 (f106 ([0, 1], x0, x1, ())).bind fun v =>
 bif v.1 then
 bif decide (0 ≤ v.2.2.1) && decide (v.2.2.1 < (↑(List.length v.2.1) : Int)) then
 bif
 decide
 (x2.length +
 [(List.getD v.2.1 (Int.toNat v.2.2.1)
 (0, ([], 0))).2.1].length ≤
 140737488355328 / 16) then
 (f144_c0
 (v.2.1, v.2.2.1,
 x2 ++
 [(List.getD v.2.1 (Int.toNat v.2.2.1)
 (0, ([], 0))).2.1],
 ())).bind
 fun v =>
 (f145 (v.1, v.2.1, ())).bind fun v1 =>
 some (Sum.inl (v1.1, v1.2.1, v.2.2.1, ()))
 else none
 else none
 else some (Sum.inr (v.2.1, v.2.2.1, x2, ()))
theorem h144_l0 (f106 : T106) (f145 : T145) (f73 : T73) (f144_c0 : T144_c0) : AqL (K144 f106 f145 f73) 1 (subc (code Tryz.f144) [1, 1, 0, 1, 0, 0]) (N144_l0 f144_c0) f144_l0_ins f144_l0_outs (F144_l0 f106 f145 f73 f144_c0) := fun v => by kernel_rfl
def C144_l0 : T144_l0 := loopN (F144_l0 C106 C145 C73 C144_c0) big
theorem k144_l0 : FragOk Tryz.prog 1 (fun Q a w => (Code.loop (subc (code Tryz.f144) [1, 1, 0, 1, 0, 0])).wp Tryz.prog Q a w) (E144_l0 C144_l0) :=
 frag_big (ins := f144_l0_ins) (os := f144_l0_outs) (C := C144_l0) (frag_loop (ins := f144_l0_ins) (os := f144_l0_outs) (n := (N144_l0 C144_c0)) (F := F144_l0 C106 C145 C73 C144_c0) hm hΓ kok144 (fun _ => big) (ann_obs (And.intro k144_c0 trivial) (by kernel_rfl)) (h144_l0 C106 C145 C73 C144_c0)) rfl
def N144 (f144_l0 : T144_l0) : Ann := (.seq .nil (.seq .nil (.seq (.seq .nil (.blk (.loop (E144_l0 f144_l0)))) .nil)))
def F144 (f106 : T106) (f145 : T145) (f73 : T73) (f144_l0 : T144_l0) : T144 := fun (x0, x1, _) =>
 (f145 (x0, x1, ())).bind fun v =>
 (f144_l0 (v.1, v.2.1, [], ())).bind fun v =>
 (f73 (v.2.2.1, [32], ())).bind fun v1 =>
 some (v1.1, decide ((↑(List.length v.2.2.1) : Int) > 0), v.1, v.2.1, ())
theorem h144 (f106 : T106) (f145 : T145) (f73 : T73) (f144_l0 : T144_l0) : AqF (K144 f106 f145 f73) 1 Tryz.f144 (N144 f144_l0) f144_ins f144_outs (F144 f106 f145 f73 f144_l0) := fun v => by kernel_rfl
def C144 : T144 := F144 C106 C145 C73 C144_l0
theorem ok144 : FnOk Tryz.prog 144 (E144 C144) :=
 fnx (n := (N144 C144_l0)) kok144 Tryz.func144 (by kernel_rfl) (by kernel_rfl) (ann_obs (And.intro k144_l0 trivial) (by kernel_rfl)) (fun v => by kernel_rfl) (h144 C106 C145 C73 C144_l0)
abbrev T68_c0 := LqD × Int × Unit → Option (Bool × LqD × Int × Unit)
def E68_c0 (f : T68_c0) : LEnt := ⟨f68_c0_ins, f68_c0_outs, f⟩
abbrev T68 := LqS × LqD × Int × Unit → Option (Bool × LqD × Int × Unit)
def E68 (f : T68) : FEnt := ⟨f68_ins, f68_outs, f⟩
def K68 (f106 : T106) : Calls' := fun f => Ae.lookA f [(106, E106 f106)]
theorem kok68 : KOk Tryz.prog (K68 C106) := (kok_cons ok106 (kok_nil _))
def F68_c0 (f106 : T106) : T68_c0 := fun (x0, x1, _) =>
 some (true, x0, IntKind.i64.wrap (x1 + 1), ())
theorem h68_c0 (f106 : T106) : AqC (K68 f106) 1 (subc (code Tryz.f68) [1, 1]) .nil f68_c0_ins f68_c0_outs (F68_c0 f106) := fun v => by kernel_rfl
def C68_c0 : T68_c0 := F68_c0 C106
theorem k68_c0 : FragOk Tryz.prog 1 (fun Q a w => (subc (code Tryz.f68) [1, 1]).wp Tryz.prog Q a w) (E68_c0 C68_c0) :=
 frag_code (ins := f68_c0_ins) (os := f68_c0_outs) (n := .nil) (F := C68_c0) hm hΓ kok68 (ann_nil _) (h68_c0 C106)
def N68 (f68_c0 : T68_c0) : Ann := (.seq .nil (.cut .nil (E68_c0 f68_c0)))
def F68 (f106 : T106) (f68_c0 : T68_c0) : T68 := fun (x0, x1, x2, _) =>
 (f106 ([2], x1, x2, ())).bind fun v =>
 bif !v.1 then some (false, v.2.1, v.2.2.1, ())
 else
 bif decide (0 ≤ v.2.2.1) && decide (v.2.2.1 < (↑(List.length v.2.1) : Int)) then
 bif
 !(List.getD v.2.1 (Int.toNat v.2.2.1)
 (0, ([], 0))).2.1 ==
 x0 then
 some (false, v.2.1, v.2.2.1, ())
 else
 (f68_c0 (v.2.1, v.2.2.1, ())).bind fun v =>
 some (v.1, v.2.1, v.2.2.1, ())
 else none
theorem h68 (f106 : T106) (f68_c0 : T68_c0) : AqF (K68 f106) 1 Tryz.f68 (N68 f68_c0) f68_ins f68_outs (F68 f106 f68_c0) := fun v => by kernel_rfl
def C68 : T68 := F68 C106 C68_c0
theorem ok68 : FnOk Tryz.prog 68 (E68 C68) :=
 fnx (n := (N68 C68_c0)) kok68 Tryz.func68 (by kernel_rfl) (by kernel_rfl) (ann_obs (And.intro k68_c0 trivial) (by kernel_rfl)) (fun v => by kernel_rfl) (h68 C106 C68_c0)
end Go.Proofs.YtiacnhhmkdkpmaaGreatDoorA.W
set_option maxRecDepth 100000
set_option linter.unusedVariables false
namespace Go.Proofs.YtiacnhhmkdkpmaaGreatDoorA.W
open Go Go.Ae
abbrev T107_c0 := LqS × Bool × LqD × Int × LqS × Bool × LqS × LqS × Unit → Option (Bool × LqD × Int × LqS × Bool × List ((LqS × LqS)) × Unit)
def E107_c0 (f : T107_c0) : LEnt := ⟨f107_c0_ins, f107_c0_outs, f⟩
abbrev T107 := LqD × Int × Unit → Option (LqS × Bool × List ((LqS × LqS)) × Bool × LqD × Int × Unit)
def E107 (f : T107) : FEnt := ⟨f107_ins, f107_outs, f⟩
def K107 (f143 : T143) (f144 : T144) (f145 : T145) (f68 : T68) : Calls' := fun f => Ae.lookA f [(143, E143 f143), (144, E144 f144), (145, E145 f145), (68, E68 f68)]
theorem kok107 : KOk Tryz.prog (K107 C143 C144 C145 C68) := (kok_cons ok143 (kok_cons ok144 (kok_cons ok145 (kok_cons ok68 (kok_nil _)))))
def F107_c0 (f143 : T143) (f144 : T144) (f145 : T145) (f68 : T68) : T107_c0 := fun (x0, x1, x2, x3, x4, x5, x6, x7, _) =>
 (f145 (x2, x3, ())).bind fun v => some (x1, v.1, v.2.1, x0, false, [(x6, x7)], ())
theorem h107_c0 (f143 : T143) (f144 : T144) (f145 : T145) (f68 : T68) : AqC (K107 f143 f144 f145 f68) 1 (subc (code Tryz.f107) [1, 1, 1, 1, 1, 1]) .nil f107_c0_ins f107_c0_outs (F107_c0 f143 f144 f145 f68) := fun v => by kernel_rfl
def C107_c0 : T107_c0 := F107_c0 C143 C144 C145 C68
theorem k107_c0 : FragOk Tryz.prog 1 (fun Q a w => (subc (code Tryz.f107) [1, 1, 1, 1, 1, 1]).wp Tryz.prog Q a w) (E107_c0 C107_c0) :=
 frag_code (ins := f107_c0_ins) (os := f107_c0_outs) (n := .nil) (F := C107_c0) hm hΓ kok107 (ann_nil _) (h107_c0 C143 C144 C145 C68)
def N107 (f107_c0 : T107_c0) : Ann := (.seq .nil (.seq .nil (.seq .nil (.seq .nil (.seq .nil (.cut .nil (E107_c0 f107_c0)))))))
def F107 (f143 : T143) (f144 : T144) (f145 : T145) (f68 : T68) (f107_c0 : T107_c0) : T107 := fun (x0, x1, _) =>
 (f143 (x0, x1, ())).bind fun v =>
 bif v.2.2.1 then
 some ([], false, [(v.1, v.2.1)], true, v.2.2.2.1, v.2.2.2.2.1, ())
 else
 (f144 (v.2.2.2.1, v.2.2.2.2.1, ())).bind fun v =>
 (f68 ([60], v.2.2.1, v.2.2.2.1, ())).bind fun v1 =>
 bif !v1.1 then some ([], false, [], false, v1.2.1, v1.2.2.1, ())
 else
 (f143 (v1.2.1, v1.2.2.1, ())).bind fun v2 =>
 bif v2.2.2.1 then
 (f68 ([62], v2.2.2.2.1, v2.2.2.2.2.1, ())).bind fun v3 =>
 (f107_c0
 (v.1, v3.1, v3.2.1, v3.2.2.1, [], false, v2.1, v2.2.1,
 ())).bind
 fun v =>
 some
 (v.2.2.2.1, v.2.2.2.2.1, v.2.2.2.2.2.1, v.1, v.2.1,
 v.2.2.1, ())
 else
 (f107_c0
 (v.1, false, v2.2.2.2.1, v2.2.2.2.2.1, [], false, v2.1,
 v2.2.1, ())).bind
 fun v =>
 some
 (v.2.2.2.1, v.2.2.2.2.1, v.2.2.2.2.2.1, v.1, v.2.1,
 v.2.2.1, ())
theorem h107 (f143 : T143) (f144 : T144) (f145 : T145) (f68 : T68) (f107_c0 : T107_c0) : AqF (K107 f143 f144 f145 f68) 1 Tryz.f107 (N107 f107_c0) f107_ins f107_outs (F107 f143 f144 f145 f68 f107_c0) := fun v => by kernel_rfl
def C107 : T107 := F107 C143 C144 C145 C68 C107_c0
theorem ok107 : FnOk Tryz.prog 107 (E107 C107) :=
 fnx (n := (N107 C107_c0)) kok107 Tryz.func107 (by kernel_rfl) (by kernel_rfl) (ann_obs (And.intro k107_c0 trivial) (by kernel_rfl)) (fun v => by kernel_rfl) (h107 C143 C144 C145 C68 C107_c0)
abbrev T108_l0 := Bool × LqD × Int × LqS × Bool × LqS × Bool × List ((LqS × LqS)) × Unit → Option ((LqD × Int × LqS × Bool × LqS × Bool × List ((LqS × LqS)) × Unit) ⊕ (Bool × LqD × Int × LqS × Bool × Unit))
def E108_l0 (f : T108_l0) : LEnt := ⟨f108_l0_ins, f108_l0_outs, f⟩
abbrev T108 := LqD × Int × Unit → Option (LqS × Bool × List ((LqS × LqS)) × Bool × LqD × Int × Unit)
def E108 (f : T108) : FEnt := ⟨f108_ins, f108_outs, f⟩
def K108 (f107 : T107) (f144 : T144) (f145 : T145) (f68 : T68) : Calls' := fun f => Ae.lookA f [(107, E107 f107), (144, E144 f144), (145, E145 f145), (68, E68 f68)]
theorem kok108 : KOk Tryz.prog (K108 C107 C144 C145 C68) := (kok_cons ok107 (kok_cons ok144 (kok_cons ok145 (kok_cons ok68 (kok_nil _)))))
def F108_l0 (f107 : T107) (f144 : T144) (f145 : T145) (f68 : T68) : LpF (Bool × LqD × Int × LqS × Bool × LqS × Bool × List ((LqS × LqS)) × Unit) ((LqD × Int × LqS × Bool × LqS × Bool × List ((LqS × LqS)) × Unit) ⊕ (Bool × LqD × Int × LqS × Bool × Unit)) := fun (x0, x1, x2, x3, x4, x5, x6, x7, _) =>
 bif x0 then
 bif decide ((↑x7.length : Int) > 0) then
 (f68 ([44], x1, x2, ())).bind fun v =>
 bif !v.1 then some (Sum.inr (Sum.inr (false, v.2.1, v.2.2.1, [], false, ())))
 else
 (f107 (v.2.1, v.2.2.1, ())).bind fun v =>
 bif !v.2.2.2.1 then
 some
 (Sum.inr (Sum.inr (false, v.2.2.2.2.1, v.2.2.2.2.2.1, [], false, ())))
 else
 bif decide (x7.length + List.length v.2.2.1 ≤ 140737488355328 / 32) then
 (f68 ([59], v.2.2.2.2.1, v.2.2.2.2.2.1, ())).bind fun v1 =>
 some
 (Sum.inl
 (bif v1.1 then false else true, v1.2.1, v1.2.2.1, x3, x4, x5, x6,
 x7 ++ v.2.2.1, ()))
 else none
 else
 (f107 (x1, x2, ())).bind fun v =>
 bif !v.2.2.2.1 then
 some (Sum.inr (Sum.inr (false, v.2.2.2.2.1, v.2.2.2.2.2.1, [], false, ())))
 else
 bif decide (x7.length + List.length v.2.2.1 ≤ 140737488355328 / 32) then
 (f68 ([59], v.2.2.2.2.1, v.2.2.2.2.2.1, ())).bind fun v1 =>
 some
 (Sum.inl
 (bif v1.1 then false else true, v1.2.1, v1.2.2.1, x3, x4, x5, x6,
 x7 ++ v.2.2.1, ()))
 else none
 else some (Sum.inr (Sum.inl (x1, x2, x3, x4, x5, x6, x7, ())))
theorem h108_l0 (f107 : T107) (f144 : T144) (f145 : T145) (f68 : T68) : AqL (K108 f107 f144 f145 f68) 1 (subc (code Tryz.f108) [1, 1, 1, 1, 1, 0, 1, 0, 0]) .nil f108_l0_ins f108_l0_outs (F108_l0 f107 f144 f145 f68) := fun v => by kernel_rfl
def C108_l0 : T108_l0 := loopN (F108_l0 C107 C144 C145 C68) big
theorem k108_l0 : FragOk Tryz.prog 1 (fun Q a w => (Code.loop (subc (code Tryz.f108) [1, 1, 1, 1, 1, 0, 1, 0, 0])).wp Tryz.prog Q a w) (E108_l0 C108_l0) :=
 frag_big (ins := f108_l0_ins) (os := f108_l0_outs) (C := C108_l0) (frag_loop (ins := f108_l0_ins) (os := f108_l0_outs) (n := .nil) (F := F108_l0 C107 C144 C145 C68) hm hΓ kok108 (fun _ => big) (ann_nil _) (h108_l0 C107 C144 C145 C68)) rfl
def N108 (f108_l0 : T108_l0) : Ann := (.seq .nil (.seq .nil (.seq .nil (.seq .nil (.seq .nil (.seq (.seq .nil (.blk (.loop (E108_l0 f108_l0)))) .nil))))))
def F108 (f107 : T107) (f144 : T144) (f145 : T145) (f68 : T68) (f108_l0 : T108_l0) : T108 := fun (x0, x1, _) =>
 (f144 (x0, x1, ())).bind fun v =>
 bif v.1 == [] then some ([], false, [], false, v.2.2.1, v.2.2.2.1, ())
 else
 (f68 ([58], v.2.2.1, v.2.2.2.1, ())).bind fun v1 =>
 bif !v1.1 then some ([], false, [], false, v1.2.1, v1.2.2.1, ())
 else
 (f145 (v1.2.1, v1.2.2.1, ())).bind fun v2 =>
 (f68 ([59], v2.1, v2.2.1, ())).bind fun v3 =>
 (f108_l0 (!v3.1, v3.2.1, v3.2.2.1, [], false, v.1, true, [], ())).bind fun v =>
 Sum.elim
 (fun v =>
 (f145 (v.1, v.2.1, ())).bind fun v4 =>
 some
 (v.2.2.2.2.1, v.2.2.2.2.2.1, v.2.2.2.2.2.2.1, true,
 v4.1, v4.2.1, ()))
 (fun v =>
 some
 (v.2.2.2.1, v.2.2.2.2.1, [], v.1, v.2.1, v.2.2.1,
 ()))
 v
theorem h108 (f107 : T107) (f144 : T144) (f145 : T145) (f68 : T68) (f108_l0 : T108_l0) : AqF (K108 f107 f144 f145 f68) 1 Tryz.f108 (N108 f108_l0) f108_ins f108_outs (F108 f107 f144 f145 f68 f108_l0) := fun v => by kernel_rfl
def C108 : T108 := F108 C107 C144 C145 C68 C108_l0
theorem ok108 : FnOk Tryz.prog 108 (E108 C108) :=
 fnx (n := (N108 C108_l0)) kok108 Tryz.func108 (by kernel_rfl) (by kernel_rfl) (ann_obs (And.intro k108_l0 trivial) (by kernel_rfl)) (fun v => by kernel_rfl) (h108 C107 C144 C145 C68 C108_l0)
abbrev T69 := LqD × Int × Unit → Option (LqS × Bool × List ((LqS × LqS)) × Bool × LqD × Int × Unit)
def E69 (f : T69) : FEnt := ⟨f69_ins, f69_outs, f⟩
def K69 (f107 : T107) (f108 : T108) : Calls' := fun f => Ae.lookA f [(107, E107 f107), (108, E108 f108)]
theorem kok69 : KOk Tryz.prog (K69 C107 C108) := (kok_cons ok107 (kok_cons ok108 (kok_nil _)))
def N69 : Ann := (.seq .nil (.seq .nil (.seq (.seq .nil (.blk (.unroll 4 .nil))) .nil)))
def F69 (f107 : T107) (f108 : T108) : T69 := fun (x0, x1, _) =>
 (f107 (x0, x1, ())).bind fun v =>
 bif v.2.2.2.1 then
 some (v.1, v.2.1, v.2.2.1, true, v.2.2.2.2.1, v.2.2.2.2.2.1, ())
 else
 (f108 (v.2.2.2.2.1, x1, ())).bind fun v =>
 bif v.2.2.2.1 then
 some
 (v.1, v.2.1, v.2.2.1, true, v.2.2.2.2.1, v.2.2.2.2.2.1,
 ())
 else some ([], false, [], false, v.2.2.2.2.1, v.2.2.2.2.2.1, ())
theorem h69 (f107 : T107) (f108 : T108) : AqF (K69 f107 f108) 1 Tryz.f69 N69 f69_ins f69_outs (F69 f107 f108) := fun v => by kernel_rfl
def C69 : T69 := F69 C107 C108
theorem ok69 : FnOk Tryz.prog 69 (E69 C69) :=
 fnx (n := N69) kok69 Tryz.func69 (by kernel_rfl) (by kernel_rfl) (ann_obs trivial (by kernel_rfl)) (fun v => by kernel_rfl) (h69 C107 C108)
abbrev T31_l0 := List ((LqS × (Bool × List ((LqS × LqS))))) × Int × Int × List ((LqS × LqS)) × Unit → Option (List ((LqS × LqS)) × Unit)
def E31_l0 (f : T31_l0) : LEnt := ⟨f31_l0_ins, f31_l0_outs, f⟩
abbrev T31 := List ((LqS × (Bool × List ((LqS × LqS))))) × Unit → Option (List ((LqS × LqS)) × Unit)
def E31 (f : T31) : FEnt := ⟨f31_ins, f31_outs, f⟩
def K31 : Calls' := fun f => Ae.lookA f []
theorem kok31 : KOk Tryz.prog (K31) := (kok_nil _)
def F31_l0 : LpF (List ((LqS × (Bool × List ((LqS × LqS))))) × Int × Int × List ((LqS × LqS)) × Unit) (List ((LqS × LqS)) × Unit) := fun (x0, x1, x2, x3, _) =>
 bif decide (x2 < x1) then
 bif decide (0 ≤ x2) && decide (x2 < (↑x0.length : Int)) then
 bif
 decide
 (x3.length +
 List.length (x0.getD x2.toNat ([], (false, []))).2.2 ≤
 140737488355328 / 32) then
 some
 (Sum.inl
 (x0, x1, IntKind.i64.wrap (x2 + 1),
 x3 ++ (x0.getD x2.toNat ([], (false, []))).2.2, ()))
 else none
 else none
 else some (Sum.inr (x3, ()))
theorem h31_l0 : AqL (K31) 0 (subc (code Tryz.f31) [1, 1, 0, 1, 0, 0]) .nil f31_l0_ins f31_l0_outs (F31_l0) := fun v => by kernel_rfl
def C31_l0 : T31_l0 := loopN (F31_l0) big
theorem k31_l0 : FragOk Tryz.prog 0 (fun Q a w => (Code.loop (subc (code Tryz.f31) [1, 1, 0, 1, 0, 0])).wp Tryz.prog Q a w) (E31_l0 C31_l0) :=
 frag_big (ins := f31_l0_ins) (os := f31_l0_outs) (C := C31_l0) (frag_loop (ins := f31_l0_ins) (os := f31_l0_outs) (n := .nil) (F := F31_l0) hm hΓ kok31 (fun _ => big) (ann_nil _) (h31_l0)) rfl
def N31 (f31_l0 : T31_l0) : Ann := (.seq .nil (.seq .nil (.seq (.seq .nil (.blk (.loop (E31_l0 f31_l0)))) .nil)))
def F31 (f31_l0 : T31_l0) : T31 := fun (x0, _) =>
 (f31_l0 (x0, (↑x0.length : Int), 0, [], ())).bind fun v => some (v.1, ())
theorem h31 (f31_l0 : T31_l0) : AqF (K31) 0 Tryz.f31 (N31 f31_l0) f31_ins f31_outs (F31 f31_l0) := fun v => by kernel_rfl
def C31 : T31 := F31 C31_l0
theorem ok31 : FnOk Tryz.prog 31 (E31 C31) :=
 fnx (n := (N31 C31_l0)) kok31 Tryz.func31 (by kernel_rfl) (by kernel_rfl) (ann_obs (And.intro k31_l0 trivial) (by kernel_rfl)) (fun v => by kernel_rfl) (h31 C31_l0)
abbrev T85 := Int × Unit → Option (Bool × Unit)
def E85 (f : T85) : FEnt := ⟨f85_ins, f85_outs, f⟩
def K85 : Calls' := fun f => Ae.lookA f []
theorem kok85 : KOk Tryz.prog (K85) := (kok_nil _)
def F85 : T85 := fun (x0, _) =>
 bif x0 != 9 then bif decide (x0 < 32) then some (true, ()) else some (x0 == 127, ())
 else some (false, ())
theorem h85 : AqF (K85) 0 Tryz.f85 .nil f85_ins f85_outs (F85) := fun v => by kernel_rfl
def C85 : T85 := F85
theorem ok85 : FnOk Tryz.prog 85 (E85 C85) :=
 fnx (n := .nil) kok85 Tryz.func85 (by kernel_rfl) (by kernel_rfl) (ann_nil _) (fun v => by kernel_rfl) (h85)
abbrev T156v1_l0 := Bool × (LqS × Int) × Unit → Option ((Int × Unit) ⊕ Unit)
def E156v1_l0 (f : T156v1_l0) : LEnt := ⟨f156v1_l0_ins, f156v1_l0_outs, f⟩
abbrev T156v1 := LqS × Bool × Unit → Option (Int × Unit)
def E156v1 (f : T156v1) : FEnt := ⟨f156v1_ins, f156v1_outs, f⟩
def K156v1 (f85 : T85) : Calls' := fun f => Ae.lookA f [(85, E85 f85)]
theorem kok156v1 : KOk Tryz.prog (K156v1 C85) := (kok_cons ok85 (kok_nil _))
def F156v1_l0 (f85 : T85) : LpF (Bool × (LqS × Int) × Unit) ((Int × Unit) ⊕ Unit) := fun (x0, x1, _) =>
 bif decide (Int.toNat x1.2 < List.length x1.1) then
 (f85 ((↑(decR x1.1 (Int.toNat x1.2)).1 : Int), ())).bind fun v =>
 bif v.1 == x0 then some (Sum.inr (Sum.inl ((↑(Int.toNat x1.2) : Int), ())))
 else some (Sum.inl (x0, (x1.1, (↑(Int.toNat x1.2 + (decR x1.1 (Int.toNat x1.2)).2) : Int)), ()))
 else some (Sum.inr (Sum.inr ()))
theorem h156v1_l0 (f85 : T85) : AqL (K156v1 f85) 0 (subc (code Tryz.f156) [1, 0, 1, 0, 0]) .nil f156v1_l0_ins f156v1_l0_outs (F156v1_l0 f85) := fun v => by kernel_rfl
def C156v1_l0 : T156v1_l0 := loopN (F156v1_l0 C85) big
theorem k156v1_l0 : FragOk Tryz.prog 0 (fun Q a w => (Code.loop (subc (code Tryz.f156) [1, 0, 1, 0, 0])).wp Tryz.prog Q a w) (E156v1_l0 C156v1_l0) :=
 frag_big (ins := f156v1_l0_ins) (os := f156v1_l0_outs) (C := C156v1_l0) (frag_loop (ins := f156v1_l0_ins) (os := f156v1_l0_outs) (n := .nil) (F := F156v1_l0 C85) hm hΓ kok156v1 (fun _ => big) (ann_nil _) (h156v1_l0 C85)) rfl
def N156v1 (f156v1_l0 : T156v1_l0) : Ann := (.seq .nil (.seq (.seq .nil (.blk (.loop (E156v1_l0 f156v1_l0)))) .nil))
def F156v1 (f85 : T85) (f156v1_l0 : T156v1_l0) : T156v1 := fun (x0, x1, _) =>
 (f156v1_l0 (x1, (x0, (↑0 : Int)), ())).bind fun v =>
 Sum.elim (fun v => some (v.1, ())) (fun v => some (-1, ())) v
theorem h156v1 (f85 : T85) (f156v1_l0 : T156v1_l0) : AqF (K156v1 f85) 0 Tryz.f156 (N156v1 f156v1_l0) f156v1_ins f156v1_outs (F156v1 f85 f156v1_l0) := fun v => by kernel_rfl
def C156v1 : T156v1 := F156v1 C85 C156v1_l0
theorem ok156v1 : FnOk Tryz.prog 156 (E156v1 C156v1) :=
 fnx (n := (N156v1 C156v1_l0)) kok156v1 Tryz.func156 (by kernel_rfl) (by kernel_rfl) (ann_obs (And.intro k156v1_l0 trivial) (by kernel_rfl)) (fun v => by kernel_rfl) (h156v1 C85 C156v1_l0)
abbrev T123v1 := LqS × Unit → Option (Int × Unit)
def E123v1 (f : T123v1) : FEnt := ⟨f123v1_ins, f123v1_outs, f⟩
def K123v1 (f156v1 : T156v1) : Calls' := fun f => Ae.lookA f [(156, E156v1 f156v1)]
theorem kok123v1 : KOk Tryz.prog (K123v1 C156v1) := (kok_cons ok156v1 (kok_nil _))
def F123v1 (f156v1 : T156v1) : T123v1 := fun (x0, _) =>
 (f156v1 (x0, true, ())).bind fun v => some (v.1, ())
theorem h123v1 (f156v1 : T156v1) : AqF (K123v1 f156v1) 0 Tryz.f123 .nil f123v1_ins f123v1_outs (F123v1 f156v1) := fun v => by kernel_rfl
def C123v1 : T123v1 := F123v1 C156v1
theorem ok123v1 : FnOk Tryz.prog 123 (E123v1 C123v1) :=
 fnx (n := .nil) kok123v1 Tryz.func123 (by kernel_rfl) (by kernel_rfl) (ann_nil _) (fun v => by kernel_rfl) (h123v1 C156v1)
abbrev T84v1 := LqS × Unit → Option (Bool × Unit)
def E84v1 (f : T84v1) : FEnt := ⟨f84v1_ins, f84v1_outs, f⟩
def K84v1 (f123v1 : T123v1) : Calls' := fun f => Ae.lookA f [(123, E123v1 f123v1)]
theorem kok84v1 : KOk Tryz.prog (K84v1 C123v1) := (kok_cons ok123v1 (kok_nil _))
def F84v1 (f123v1 : T123v1) : T84v1 := fun (x0, _) =>
 (f123v1 (x0, ())).bind fun v => some (decide (v.1 ≥ 0), ())
theorem h84v1 (f123v1 : T123v1) : AqF (K84v1 f123v1) 0 Tryz.f84 .nil f84v1_ins f84v1_outs (F84v1 f123v1) := fun v => by kernel_rfl
def C84v1 : T84v1 := F84v1 C123v1
theorem ok84v1 : FnOk Tryz.prog 84 (E84v1 C84v1) :=
 fnx (n := .nil) kok84v1 Tryz.func84 (by kernel_rfl) (by kernel_rfl) (ann_nil _) (fun v => by kernel_rfl) (h84v1 C123v1)
abbrev T86 := LqS × Unit → Option (Bool × Unit)
def E86 (f : T86) : FEnt := ⟨f86_ins, f86_outs, f⟩
def K86 (f96 : T96) : Calls' := fun f => Ae.lookA f [(96, E96 f96)]
theorem kok86 : KOk Tryz.prog (K86 C96) := (kok_cons ok96 (kok_nil _))
def F86 (f96 : T96) : T86 := fun (x0, _) =>
 (f96 (x0, [91], ())).bind fun v => some (v.1, ())
theorem h86 (f96 : T96) : AqF (K86 f96) 0 Tryz.f86 .nil f86_ins f86_outs (F86 f96) := fun v => by kernel_rfl
def C86 : T86 := F86 C96
theorem ok86 : FnOk Tryz.prog 86 (E86 C86) :=
 fnx (n := .nil) kok86 Tryz.func86 (by kernel_rfl) (by kernel_rfl) (ann_nil _) (fun v => by kernel_rfl) (h86 C96)
abbrev T87 := LqA × LqB × LqC × LqS × Unit → Option (LqS × Int × Unit)
def E87 (f : T87) : FEnt := ⟨f87_ins, f87_outs, f⟩
def K87 (f124 : T124) : Calls' := fun f => Ae.lookA f [(124, E124 f124)]
theorem kok87 : KOk Tryz.prog (K87 C124) := (kok_cons ok124 (kok_nil _))
def F87 (f124 : T124) : T87 := fun (x0, x1, x2, x3, _) =>
 (f124 (x0, x1, x2, x3, ())).bind fun v => some (v.1, v.2.2.1, ())
theorem h87 (f124 : T124) : AqF (K87 f124) 0 Tryz.f87 .nil f87_ins f87_outs (F87 f124) := fun v => by kernel_rfl
def C87 : T87 := F87 C124
theorem ok87 : FnOk Tryz.prog 87 (E87 C87) :=
 fnx (n := .nil) kok87 Tryz.func87 (by kernel_rfl) (by kernel_rfl) (ann_nil _) (fun v => by kernel_rfl) (h87 C124)
abbrev T44 := LqA × LqB × LqC × LqS × LqS × Unit → Option (Int × Unit)
def E44 (f : T44) : FEnt := ⟨f44_ins, f44_outs, f⟩
def K44 (f67 : T67) (f83 : T83) (f84v1 : T84v1) (f86 : T86) (f87 : T87) : Calls' := fun f => Ae.lookA f [(67, E67 f67), (83, E83 f83), (84, E84v1 f84v1), (86, E86 f86), (87, E87 f87)]
theorem kok44 : KOk Tryz.prog (K44 C67 C83 C84v1 C86 C87) := (kok_cons ok67 (kok_cons ok83 (kok_cons ok84v1 (kok_cons ok86 (kok_cons ok87 (kok_nil _))))))
def F44 (f67 : T67) (f83 : T83) (f84v1 : T84v1) (f86 : T86) (f87 : T87) : T44 := fun (x0, x1, x2, x3, x4, _) =>
 (f83 (x3, ())).bind fun v =>
 bif x3 == [] then some (13, ())
 else
 bif decide ((↑x3.length : Int) > 64) then some (5, ())
 else
 bif decide (v.2.1 ≥ 0) then some (7, ())
 else
 (f84v1 (x3, ())).bind fun v =>
 bif v.1 then some (8, ())
 else
 (f86 (x4, ())).bind fun v =>
 bif v.1 then
 (f67 (x4, ())).bind fun v =>
 bif v.2.2.1 != 0 then some (4, ())
 else
 bif (↑(List.length v.1) : Int) != 1 then some (4, ())
 else
 bif decide (0 < (↑(List.length v.1) : Int)) then
 bif
 (List.getD v.1 0
 (0, ([], 0))).1 !=
 5 then
 some (4, ())
 else some (0, ())
 else none
 else (f87 (x0, x1, x2, x4, ())).bind fun v => some (v.2.1, ())
theorem h44 (f67 : T67) (f83 : T83) (f84v1 : T84v1) (f86 : T86) (f87 : T87) : AqF (K44 f67 f83 f84v1 f86 f87) 0 Tryz.f44 .nil f44_ins f44_outs (F44 f67 f83 f84v1 f86 f87) := fun v => by kernel_rfl
def C44 : T44 := F44 C67 C83 C84v1 C86 C87
theorem ok44 : FnOk Tryz.prog 44 (E44 C44) :=
 fnx (n := .nil) kok44 Tryz.func44 (by kernel_rfl) (by kernel_rfl) (ann_nil _) (fun v => by kernel_rfl) (h44 C67 C83 C84v1 C86 C87)
abbrev T70_l0 := List ((LqS × LqS)) × Int × Int × LqA × LqB × LqC × Unit → Option (Unit ⊕ (Int × Unit))
def E70_l0 (f : T70_l0) : LEnt := ⟨f70_l0_ins, f70_l0_outs, f⟩
abbrev T70 := LqA × LqB × LqC × List ((LqS × LqS)) × Unit → Option (Int × Unit)
def E70 (f : T70) : FEnt := ⟨f70_ins, f70_outs, f⟩
def K70 (f44 : T44) : Calls' := fun f => Ae.lookA f [(44, E44 f44)]
theorem kok70 : KOk Tryz.prog (K70 C44) := (kok_cons ok44 (kok_nil _))
def F70_l0 (f44 : T44) : LpF (List ((LqS × LqS)) × Int × Int × LqA × LqB × LqC × Unit) (Unit ⊕ (Int × Unit)) := fun (x0, x1, x2, x3, x4, x5, _) =>
 bif decide (x2 < x1) then
 bif decide (0 ≤ x2) && decide (x2 < (↑x0.length : Int)) then
 (f44
 (x3, x4, x5, (x0.getD x2.toNat ([], [])).1,
 (x0.getD x2.toNat ([], [])).2, ())).bind
 fun v =>
 bif v.1 != 0 then some (Sum.inr (Sum.inr (v.1, ())))
 else some (Sum.inl (x0, x1, IntKind.i64.wrap (x2 + 1), x3, x4, x5, ()))
 else none
 else some (Sum.inr (Sum.inl ()))
theorem h70_l0 (f44 : T44) : AqL (K70 f44) 0 (subc (code Tryz.f70) [1, 1, 0, 1, 0, 0]) .nil f70_l0_ins f70_l0_outs (F70_l0 f44) := fun v => by kernel_rfl
def C70_l0 : T70_l0 := loopN (F70_l0 C44) big
theorem k70_l0 : FragOk Tryz.prog 0 (fun Q a w => (Code.loop (subc (code Tryz.f70) [1, 1, 0, 1, 0, 0])).wp Tryz.prog Q a w) (E70_l0 C70_l0) :=
 frag_big (ins := f70_l0_ins) (os := f70_l0_outs) (C := C70_l0) (frag_loop (ins := f70_l0_ins) (os := f70_l0_outs) (n := .nil) (F := F70_l0 C44) hm hΓ kok70 (fun _ => big) (ann_nil _) (h70_l0 C44)) rfl
def N70 (f70_l0 : T70_l0) : Ann := (.seq .nil (.seq .nil (.seq (.seq .nil (.blk (.loop (E70_l0 f70_l0)))) .nil)))
def F70 (f44 : T44) (f70_l0 : T70_l0) : T70 := fun (x0, x1, x2, x3, _) =>
 bif decide ((↑x3.length : Int) > 100) then some (2, ())
 else
 (f70_l0 (x3, (↑x3.length : Int), 0, x0, x1, x2, ())).bind fun v =>
 Sum.elim (fun v => some (0, ())) (fun v => some (v.1, ())) v
theorem h70 (f44 : T44) (f70_l0 : T70_l0) : AqF (K70 f44) 0 Tryz.f70 (N70 f70_l0) f70_ins f70_outs (F70 f44 f70_l0) := fun v => by kernel_rfl
def C70 : T70 := F70 C44 C70_l0
theorem ok70 : FnOk Tryz.prog 70 (E70 C70) :=
 fnx (n := (N70 C70_l0)) kok70 Tryz.func70 (by kernel_rfl) (by kernel_rfl) (ann_obs (And.intro k70_l0 trivial) (by kernel_rfl)) (fun v => by kernel_rfl) (h70 C44 C70_l0)
abbrev T30_l0 := LqD × Bool × LqA × LqB × LqC × LqD × Int × List ((LqS × (Bool × List ((LqS × LqS))))) × Unit → Option ((LqD × LqA × LqB × LqC × LqD × Int × List ((LqS × (Bool × List ((LqS × LqS))))) × Unit) ⊕ (Int × Unit))
def E30_l0 (f : T30_l0) : LEnt := ⟨f30_l0_ins, f30_l0_outs, f⟩
abbrev T30 := LqA × LqB × LqC × LqS × Unit → Option (List ((LqS × (Bool × List ((LqS × LqS))))) × Int × Unit)
def E30 (f : T30) : FEnt := ⟨f30_ins, f30_outs, f⟩
def K30 (f31 : T31) (f67 : T67) (f68 : T68) (f69 : T69) (f70 : T70) : Calls' := fun f => Ae.lookA f [(31, E31 f31), (67, E67 f67), (68, E68 f68), (69, E69 f69), (70, E70 f70)]
theorem kok30 : KOk Tryz.prog (K30 C31 C67 C68 C69 C70) := (kok_cons ok31 (kok_cons ok67 (kok_cons ok68 (kok_cons ok69 (kok_cons ok70 (kok_nil _))))))
def F30_l0 (f31 : T31) (f67 : T67) (f68 : T68) (f69 : T69) (f70 : T70) : LpF (LqD × Bool × LqA × LqB × LqC × LqD × Int × List ((LqS × (Bool × List ((LqS × LqS))))) × Unit) ((LqD × LqA × LqB × LqC × LqD × Int × List ((LqS × (Bool × List ((LqS × LqS))))) × Unit) ⊕ (Int × Unit)) := fun (x0, x1, x2, x3, x4, x5, x6, x7, _) =>
 bif x1 then
 (f69 (x5, x6, ())).bind fun v =>
 bif !v.2.2.2.1 then some (Sum.inr (Sum.inr (4, ())))
 else
 bif decide (x7.length + [(v.1, v.2.1, v.2.2.1)].length ≤ 140737488355328 / 48) then
 (f68 ([44], v.2.2.2.2.1, v.2.2.2.2.2.1, ())).bind fun v1 =>
 some
 (Sum.inl
 (x0, v1.1, x2, x3, x4, v1.2.1, v1.2.2.1,
 x7 ++ [(v.1, v.2.1, v.2.2.1)], ()))
 else none
 else some (Sum.inr (Sum.inl (x0, x2, x3, x4, x5, x6, x7, ())))
theorem h30_l0 (f31 : T31) (f67 : T67) (f68 : T68) (f69 : T69) (f70 : T70) : AqL (K30 f31 f67 f68 f69 f70) 0 (subc (code Tryz.f30) [1, 1, 1, 1, 1, 0, 1, 0, 0]) .nil f30_l0_ins f30_l0_outs (F30_l0 f31 f67 f68 f69 f70) := fun v => by kernel_rfl
def C30_l0 : T30_l0 := loopN (F30_l0 C31 C67 C68 C69 C70) big
theorem k30_l0 : FragOk Tryz.prog 0 (fun Q a w => (Code.loop (subc (code Tryz.f30) [1, 1, 1, 1, 1, 0, 1, 0, 0])).wp Tryz.prog Q a w) (E30_l0 C30_l0) :=
 frag_big (ins := f30_l0_ins) (os := f30_l0_outs) (C := C30_l0) (frag_loop (ins := f30_l0_ins) (os := f30_l0_outs) (n := .nil) (F := F30_l0 C31 C67 C68 C69 C70) hm hΓ kok30 (fun _ => big) (ann_nil _) (h30_l0 C31 C67 C68 C69 C70)) rfl
def N30 (f30_l0 : T30_l0) : Ann := (.seq .nil (.seq .nil (.seq .nil (.seq .nil (.seq .nil (.seq (.seq .nil (.blk (.loop (E30_l0 f30_l0)))) .nil))))))
def F30 (f31 : T31) (f67 : T67) (f68 : T68) (f69 : T69) (f70 : T70) (f30_l0 : T30_l0) : T30 := fun (x0, x1, x2, x3, _) =>
 (f67 (x3, ())).bind fun v =>
 bif v.2.2.1 != 0 then some ([], v.2.2.1, ())
 else
 (f30_l0 (v.1, true, x0, x1, x2, v.1, 0, [], ())).bind fun v =>
 Sum.elim
 (fun v =>
 bif decide (v.2.2.2.2.2.1 < (↑(List.length v.1) : Int)) then some ([], 4, ())
 else
 (f31 (v.2.2.2.2.2.2.1, ())).bind fun v1 =>
 (f70 (v.2.1, v.2.2.1, v.2.2.2.1, v1.1, ())).bind fun v2 =>
 bif v2.1 != 0 then some ([], v2.1, ())
 else some (v.2.2.2.2.2.2.1, 0, ()))
 (fun v => some ([], v.1, ())) v
theorem h30 (f31 : T31) (f67 : T67) (f68 : T68) (f69 : T69) (f70 : T70) (f30_l0 : T30_l0) : AqF (K30 f31 f67 f68 f69 f70) 0 Tryz.f30 (N30 f30_l0) f30_ins f30_outs (F30 f31 f67 f68 f69 f70 f30_l0) := fun v => by kernel_rfl
def C30 : T30 := F30 C31 C67 C68 C69 C70 C30_l0
theorem ok30 : FnOk Tryz.prog 30 (E30 C30) :=
 fnx (n := (N30 C30_l0)) kok30 Tryz.func30 (by kernel_rfl) (by kernel_rfl) (ann_obs (And.intro k30_l0 trivial) (by kernel_rfl)) (fun v => by kernel_rfl) (h30 C31 C67 C68 C69 C70 C30_l0)
abbrev T227_l0 := Int × (LqS × Int) × Unit → Option (Int × Unit)
def E227_l0 (f : T227_l0) : LEnt := ⟨f227_l0_ins, f227_l0_outs, f⟩
abbrev T227 := LqS × Unit → Option (Int × Unit)
def E227 (f : T227) : FEnt := ⟨f227_ins, f227_outs, f⟩
def K227 : Calls' := fun f => Ae.lookA f []
theorem kok227 : KOk Tryz.prog (K227) := (kok_nil _)
def F227_l0 : LpF (Int × (LqS × Int) × Unit) (Int × Unit) := fun (x0, x1, _) =>
 bif decide (Int.toNat x1.2 < List.length x1.1) then
 some
 (Sum.inl
 (IntKind.i64.wrap (x0 + 1), (x1.1, (↑(Int.toNat x1.2 + (decR x1.1 (Int.toNat x1.2)).2) : Int)),
 ()))
 else some (Sum.inr (x0, ()))
theorem h227_l0 : AqL (K227) 0 (subc (code Tryz.f227) [1, 0, 1, 0, 0]) .nil f227_l0_ins f227_l0_outs (F227_l0) := fun v => by kernel_rfl
def C227_l0 : T227_l0 := loopN (F227_l0) big
theorem k227_l0 : FragOk Tryz.prog 0 (fun Q a w => (Code.loop (subc (code Tryz.f227) [1, 0, 1, 0, 0])).wp Tryz.prog Q a w) (E227_l0 C227_l0) :=
 frag_big (ins := f227_l0_ins) (os := f227_l0_outs) (C := C227_l0) (frag_loop (ins := f227_l0_ins) (os := f227_l0_outs) (n := .nil) (F := F227_l0) hm hΓ kok227 (fun _ => big) (ann_nil _) (h227_l0)) rfl
def N227 (f227_l0 : T227_l0) : Ann := (.seq .nil (.seq (.seq .nil (.blk (.loop (E227_l0 f227_l0)))) .nil))
def F227 (f227_l0 : T227_l0) : T227 := fun (x0, _) =>
 (f227_l0 (0, (x0, (↑0 : Int)), ())).bind fun v => some (v.1, ())
theorem h227 (f227_l0 : T227_l0) : AqF (K227) 0 Tryz.f227 (N227 f227_l0) f227_ins f227_outs (F227 f227_l0) := fun v => by kernel_rfl
def C227 : T227 := F227 C227_l0
theorem ok227 : FnOk Tryz.prog 227 (E227 C227) :=
 fnx (n := (N227 C227_l0)) kok227 Tryz.func227 (by kernel_rfl) (by kernel_rfl) (ann_obs (And.intro k227_l0 trivial) (by kernel_rfl)) (fun v => by kernel_rfl) (h227 C227_l0)
abbrev T273 := LqS × Unit → Option (Int × Int × Unit)
def E273 (f : T273) : FEnt := ⟨f273_ins, f273_outs, f⟩
def K273 : Calls' := fun f => Ae.lookA f []
theorem kok273 : KOk Tryz.prog (K273) := (kok_nil _)
def F273 : T273 := fun (x0, _) =>
 bif decide ((↑x0.length : Int) < 1) then some (65533, 0, ())
 else bif decide (0 < (↑x0.length : Int)) then none else none
theorem h273 : AqF (K273) 0 Tryz.f273 .nil f273_ins f273_outs (F273) := fun v => by kernel_rfl
def C273 : T273 := F273
theorem ok273 : FnOk Tryz.prog 273 (E273 C273) :=
 fnx (n := .nil) kok273 Tryz.func273 (by kernel_rfl) (by kernel_rfl) (ann_nil _) (fun v => by kernel_rfl) (h273)
abbrev T228_c0 := LqS × Bool × Unit → Option ((Int × Int × Unit) ⊕ (Int × Int × Unit))
def E228_c0 (f : T228_c0) : LEnt := ⟨f228_c0_ins, f228_c0_outs, f⟩
abbrev T228 := LqS × Unit → Option (Int × Int × Unit)
def E228 (f : T228) : FEnt := ⟨f228_ins, f228_outs, f⟩
def K228 (f273 : T273) : Calls' := fun f => Ae.lookA f [(273, E273 f273)]
theorem kok228 : KOk Tryz.prog (K228 C273) := (kok_cons ok273 (kok_nil _))
def F228_c0 (f273 : T273) : T228_c0 := fun (x0, x1, _) =>
 bif x1 then
 bif decide (0 < (↑x0.length : Int)) then
 some (Sum.inl (IntKind.i32.wrap (↑(x0.getD 0 0).toNat : Int), 1, ()))
 else none
 else (f273 (x0, ())).bind fun v => some (Sum.inr (v.1, v.2.1, ()))
theorem h228_c0 (f273 : T273) : AqC (K228 f273) 0 (subc (code Tryz.f228) [1, 0, 1]) .nil f228_c0_ins f228_c0_outs (F228_c0 f273) := fun v => by kernel_rfl
def C228_c0 : T228_c0 := F228_c0 C273
theorem k228_c0 : FragOk Tryz.prog 0 (fun Q a w => (subc (code Tryz.f228) [1, 0, 1]).wp Tryz.prog Q a w) (E228_c0 C228_c0) :=
 frag_code (ins := f228_c0_ins) (os := f228_c0_outs) (n := .nil) (F := C228_c0) hm hΓ kok228 (ann_nil _) (h228_c0 C273)
def N228 (f228_c0 : T228_c0) : Ann := (.seq .nil (.seq (.cut .nil (E228_c0 f228_c0)) .nil))
def F228 (f273 : T273) (f228_c0 : T228_c0) : T228 := fun (x0, _) =>
 bif !x0 == [] then
 bif decide (0 < (↑x0.length : Int)) then
 (f228_c0 (x0, decide ((↑(x0.getD 0 0).toNat : Int) < 128), ())).bind fun v =>
 Sum.elim (fun v => some (v.1, v.2.1, ())) (fun v => some (v.1, v.2.1, ()))
 v
 else none
 else
 (f228_c0 (x0, false, ())).bind fun v =>
 Sum.elim (fun v => some (v.1, v.2.1, ())) (fun v => some (v.1, v.2.1, ()))
 v
theorem h228 (f273 : T273) (f228_c0 : T228_c0) : AqF (K228 f273) 0 Tryz.f228 (N228 f228_c0) f228_ins f228_outs (F228 f273 f228_c0) := fun v => by kernel_rfl
def C228 : T228 := F228 C273 C228_c0
theorem ok228 : FnOk Tryz.prog 228 (E228 C228) :=
 fnx (n := (N228 C228_c0)) kok228 Tryz.func228 (by kernel_rfl) (by kernel_rfl) (ann_obs (And.intro k228_c0 trivial) (by kernel_rfl)) (fun v => by kernel_rfl) (h228 C273 C228_c0)
abbrev T193_l0 := LqS × Int × Int × List (LqS) × Unit → Option (LqS × Int × List (LqS) × Unit)
def E193_l0 (f : T193_l0) : LEnt := ⟨f193_l0_ins, f193_l0_outs, f⟩
abbrev T193_c0 := LqS × Int × Unit → Option (List (LqS) × Unit)
def E193_c0 (f : T193_c0) : LEnt := ⟨f193_c0_ins, f193_c0_outs, f⟩
abbrev T193 := LqS × Int × Unit → Option (List (LqS) × Unit)
def E193 (f : T193) : FEnt := ⟨f193_ins, f193_outs, f⟩
def K193 (f227 : T227) (f228 : T228) : Calls' := fun f => Ae.lookA f [(227, E227 f227), (228, E228 f228)]
theorem kok193 : KOk Tryz.prog (K193 C227 C228) := (kok_cons ok227 (kok_cons ok228 (kok_nil _)))
def F193_l0 (f227 : T227) (f228 : T228) : LpF (LqS × Int × Int × List (LqS) × Unit) (LqS × Int × List (LqS) × Unit) := fun (x0, x1, x2, x3, _) =>
 bif decide (x2 < IntKind.i64.wrap (x1 - 1)) then
 (f228 (x0, ())).bind fun v =>
 bif decide (0 ≤ v.2.1) && decide (v.2.1 ≤ (↑x0.length : Int)) then
 bif decide (0 ≤ x2) && decide (x2 < (↑x3.length : Int)) then
 bif decide (0 ≤ v.2.1) && decide (v.2.1 ≤ (↑x0.length : Int)) then
 some
 (Sum.inl
 (List.drop (Int.toNat v.2.1) x0, x1, IntKind.i64.wrap (x2 + 1),
 x3.set x2.toNat (List.take (Int.toNat v.2.1) x0), ()))
 else none
 else none
 else none
 else some (Sum.inr (x0, x1, x3, ()))
theorem h193_l0 (f227 : T227) (f228 : T228) : AqL (K193 f227 f228) 0 (subc (code Tryz.f193) [1, 1, 1, 1, 0, 1, 0, 0]) .nil f193_l0_ins f193_l0_outs (F193_l0 f227 f228) := fun v => by kernel_rfl
def C193_l0 : T193_l0 := loopN (F193_l0 C227 C228) big
theorem k193_l0 : FragOk Tryz.prog 0 (fun Q a w => (Code.loop (subc (code Tryz.f193) [1, 1, 1, 1, 0, 1, 0, 0])).wp Tryz.prog Q a w) (E193_l0 C193_l0) :=
 frag_big (ins := f193_l0_ins) (os := f193_l0_outs) (C := C193_l0) (frag_loop (ins := f193_l0_ins) (os := f193_l0_outs) (n := .nil) (F := F193_l0 C227 C228) hm hΓ kok193 (fun _ => big) (ann_nil _) (h193_l0 C227 C228)) rfl
def N193_c0 (f193_l0 : T193_l0) : Ann := (.seq .nil (.seq (.seq .nil (.blk (.loop (E193_l0 f193_l0)))) .nil))
def F193_c0 (f227 : T227) (f228 : T228) (f193_l0 : T193_l0) : T193_c0 := fun (x0, x1, _) =>
 bif
 decide (0 ≤ x1) &&
 (decide (x1 = x1) && (decide ((↑16 : Int) * x1 ≤ 281474976710656) && decide (x1 ≤ 140737488355328))) then
 (f193_l0 (x0, x1, 0, List.replicate x1.toNat [], ())).bind fun v =>
 bif decide (v.2.1 > 0) then
 bif
 decide (0 ≤ IntKind.i64.wrap (v.2.1 - 1)) &&
 decide (IntKind.i64.wrap (v.2.1 - 1) < (↑(List.length v.2.2.1) : Int)) then
 some (List.set v.2.2.1 (IntKind.i64.wrap (v.2.1 - 1)).toNat v.1, ())
 else none
 else some (v.2.2.1, ())
 else none
theorem h193_c0 (f227 : T227) (f228 : T228) (f193_l0 : T193_l0) : AqC (K193 f227 f228) 0 (subc (code Tryz.f193) [1, 1, 1]) (N193_c0 f193_l0) f193_c0_ins f193_c0_outs (F193_c0 f227 f228 f193_l0) := fun v => by kernel_rfl
def C193_c0 : T193_c0 := F193_c0 C227 C228 C193_l0
theorem k193_c0 : FragOk Tryz.prog 0 (fun Q a w => (subc (code Tryz.f193) [1, 1, 1]).wp Tryz.prog Q a w) (E193_c0 C193_c0) :=
 frag_code (ins := f193_c0_ins) (os := f193_c0_outs) (n := (N193_c0 C193_l0)) (F := C193_c0) hm hΓ kok193 (ann_obs (And.intro k193_l0 trivial) (by kernel_rfl)) (h193_c0 C227 C228 C193_l0)
def N193 (f193_c0 : T193_c0) : Ann := (.seq .nil (.seq .nil (.cut .nil (E193_c0 f193_c0))))
def F193 (f227 : T227) (f228 : T228) (f193_c0 : T193_c0) : T193 := fun (x0, x1, _) =>
 (f227 (x0, ())).bind fun v =>
 bif decide (x1 < 0) then (f193_c0 (x0, v.1, ())).bind fun v => some (v.1, ())
 else
 bif decide (x1 > v.1) then (f193_c0 (x0, v.1, ())).bind fun v => some (v.1, ())
 else (f193_c0 (x0, x1, ())).bind fun v => some (v.1, ())
theorem h193 (f227 : T227) (f228 : T228) (f193_c0 : T193_c0) : AqF (K193 f227 f228) 0 Tryz.f193 (N193 f193_c0) f193_ins f193_outs (F193 f227 f228 f193_c0) := fun v => by kernel_rfl
def C193 : T193 := F193 C227 C228 C193_c0
theorem ok193 : FnOk Tryz.prog 193 (E193 C193) :=
 fnx (n := (N193 C193_c0)) kok193 Tryz.func193 (by kernel_rfl) (by kernel_rfl) (ann_obs (And.intro k193_c0 trivial) (by kernel_rfl)) (fun v => by kernel_rfl) (h193 C227 C228 C193_c0)
abbrev T195 := LqS × LqS × Unit → Option (Int × Unit)
def E195 (f : T195) : FEnt := ⟨f195_ins, f195_outs, f⟩
def K195 (f197 : T197) : Calls' := fun f => Ae.lookA f [(197, E197 f197)]
theorem kok195 : KOk Tryz.prog (K195 C197) := (kok_cons ok197 (kok_nil _))
def F195 (f197 : T197) : T195 := fun (x0, x1, _) =>
 (f197 (x0, x1, ())).bind fun v => some (v.1, ())
theorem h195 (f197 : T197) : AqF (K195 f197) 0 Tryz.f195 .nil f195_ins f195_outs (F195 f197) := fun v => by kernel_rfl
def C195 : T195 := F195 C197
theorem ok195 : FnOk Tryz.prog 195 (E195 C195) :=
 fnx (n := .nil) kok195 Tryz.func195 (by kernel_rfl) (by kernel_rfl) (ann_nil _) (fun v => by kernel_rfl) (h195 C197)
end Go.Proofs.YtiacnhhmkdkpmaaGreatDoorA.W
set_option maxRecDepth 100000
set_option linter.unusedVariables false
namespace Go.Proofs.YtiacnhhmkdkpmaaGreatDoorA.W
open Go Go.Ae
abbrev T194_l0 := LqS × LqS × Int × Unit → Option (Int × Unit)
def E194_l0 (f : T194_l0) : LEnt := ⟨f194_l0_ins, f194_l0_outs, f⟩
abbrev T194 := LqS × LqS × Unit → Option (Int × Unit)
def E194 (f : T194) : FEnt := ⟨f194_ins, f194_outs, f⟩
def K194 (f195 : T195) (f227 : T227) (f229 : T229) : Calls' := fun f => Ae.lookA f [(195, E195 f195), (227, E227 f227), (229, E229 f229)]
theorem kok194 : KOk Tryz.prog (K194 C195 C227 C229) := (kok_cons ok195 (kok_cons ok227 (kok_cons ok229 (kok_nil _))))
def F194_l0 (f195 : T195) (f227 : T227) (f229 : T229) : LpF (LqS × LqS × Int × Unit) (Int × Unit) := fun (x0, x1, x2, _) =>
 (f195 (x0, x1, ())).bind fun v =>
 bif v.1 == -1 then some (Sum.inr (x2, ()))
 else
 bif
 decide (0 ≤ IntKind.i64.wrap (v.1 + (↑x1.length : Int))) &&
 decide (IntKind.i64.wrap (v.1 + (↑x1.length : Int)) ≤ (↑x0.length : Int)) then
 some
 (Sum.inl
 (List.drop (IntKind.i64.wrap (v.1 + (↑x1.length : Int))).toNat x0, x1, IntKind.i64.wrap (x2 + 1),
 ()))
 else none
theorem h194_l0 (f195 : T195) (f227 : T227) (f229 : T229) : AqL (K194 f195 f227 f229) 0 (subc (code Tryz.f194) [1, 1, 1, 1, 0, 0]) .nil f194_l0_ins f194_l0_outs (F194_l0 f195 f227 f229) := fun v => by kernel_rfl
def C194_l0 : T194_l0 := loopN (F194_l0 C195 C227 C229) big
theorem k194_l0 : FragOk Tryz.prog 0 (fun Q a w => (Code.loop (subc (code Tryz.f194) [1, 1, 1, 1, 0, 0])).wp Tryz.prog Q a w) (E194_l0 C194_l0) :=
 frag_big (ins := f194_l0_ins) (os := f194_l0_outs) (C := C194_l0) (frag_loop (ins := f194_l0_ins) (os := f194_l0_outs) (n := .nil) (F := F194_l0 C195 C227 C229) hm hΓ kok194 (fun _ => big) (ann_nil _) (h194_l0 C195 C227 C229)) rfl
def N194 (f194_l0 : T194_l0) : Ann := (.seq .nil (.seq .nil (.seq .nil (.seq .nil (.blk (.loop (E194_l0 f194_l0)))))))
def F194 (f195 : T195) (f227 : T227) (f229 : T229) (f194_l0 : T194_l0) : T194 := fun (x0, x1, _) =>
 bif (↑x1.length : Int) == 0 then (f227 (x0, ())).bind fun v => some (IntKind.i64.wrap (v.1 + 1), ())
 else
 bif (↑x1.length : Int) == 1 then
 bif decide (0 < (↑x1.length : Int)) then
 (f229 (x0, (↑(x1.getD 0 0).toNat : Int), ())).bind fun v => some (v.1, ())
 else none
 else (f194_l0 (x0, x1, 0, ())).bind fun v => some (v.1, ())
theorem h194 (f195 : T195) (f227 : T227) (f229 : T229) (f194_l0 : T194_l0) : AqF (K194 f195 f227 f229) 0 Tryz.f194 (N194 f194_l0) f194_ins f194_outs (F194 f195 f227 f229 f194_l0) := fun v => by kernel_rfl
def C194 : T194 := F194 C195 C227 C229 C194_l0
theorem ok194 : FnOk Tryz.prog 194 (E194 C194) :=
 fnx (n := (N194 C194_l0)) kok194 Tryz.func194 (by kernel_rfl) (by kernel_rfl) (ann_obs (And.intro k194_l0 trivial) (by kernel_rfl)) (fun v => by kernel_rfl) (h194 C195 C227 C229 C194_l0)
abbrev T161_l0 := LqS × LqS × Int × Int × Int × List (LqS) × Unit → Option (LqS × Int × List (LqS) × Unit)
def E161_l0 (f : T161_l0) : LEnt := ⟨f161_l0_ins, f161_l0_outs, f⟩
abbrev T161_c0 := LqS × LqS × Int × Int × Unit → Option (List (LqS) × Unit)
def E161_c0 (f : T161_c0) : LEnt := ⟨f161_c0_ins, f161_c0_outs, f⟩
abbrev T161 := LqS × LqS × Int × Int × Unit → Option (List (LqS) × Unit)
def E161 (f : T161) : FEnt := ⟨f161_ins, f161_outs, f⟩
def K161 (f193 : T193) (f194 : T194) (f195 : T195) : Calls' := fun f => Ae.lookA f [(193, E193 f193), (194, E194 f194), (195, E195 f195)]
theorem kok161 : KOk Tryz.prog (K161 C193 C194 C195) := (kok_cons ok193 (kok_cons ok194 (kok_cons ok195 (kok_nil _))))
def F161_l0 (f193 : T193) (f194 : T194) (f195 : T195) : LpF (LqS × LqS × Int × Int × Int × List (LqS) × Unit) (LqS × Int × List (LqS) × Unit) := fun (x0, x1, x2, x3, x4, x5, _) =>
 bif decide (x4 < x3) then
 (f195 (x0, x1, ())).bind fun v =>
 bif decide (v.1 < 0) then some (Sum.inr (x0, x4, x5, ()))
 else
 bif
 decide (0 ≤ IntKind.i64.wrap (v.1 + x2)) &&
 decide (IntKind.i64.wrap (v.1 + x2) ≤ (↑x0.length : Int)) then
 bif decide (0 ≤ x4) && decide (x4 < (↑x5.length : Int)) then
 bif
 decide (0 ≤ IntKind.i64.wrap (v.1 + (↑x1.length : Int))) &&
 decide (IntKind.i64.wrap (v.1 + (↑x1.length : Int)) ≤ (↑x0.length : Int)) then
 some
 (Sum.inl
 (List.drop (IntKind.i64.wrap (v.1 + (↑x1.length : Int))).toNat x0, x1, x2, x3,
 IntKind.i64.wrap (x4 + 1), x5.set x4.toNat (List.take (IntKind.i64.wrap (v.1 + x2)).toNat x0),
 ()))
 else none
 else none
 else none
 else some (Sum.inr (x0, x4, x5, ()))
theorem h161_l0 (f193 : T193) (f194 : T194) (f195 : T195) : AqL (K161 f193 f194 f195) 0 (subc (code Tryz.f161) [1, 1, 1, 1, 1, 1, 1, 1, 0, 0, 0]) .nil f161_l0_ins f161_l0_outs (F161_l0 f193 f194 f195) := fun v => by kernel_rfl
def C161_l0 : T161_l0 := loopN (F161_l0 C193 C194 C195) big
theorem k161_l0 : FragOk Tryz.prog 0 (fun Q a w => (Code.loop (subc (code Tryz.f161) [1, 1, 1, 1, 1, 1, 1, 1, 0, 0, 0])).wp Tryz.prog Q a w) (E161_l0 C161_l0) :=
 frag_big (ins := f161_l0_ins) (os := f161_l0_outs) (C := C161_l0) (frag_loop (ins := f161_l0_ins) (os := f161_l0_outs) (n := .nil) (F := F161_l0 C193 C194 C195) hm hΓ kok161 (fun _ => big) (ann_nil _) (h161_l0 C193 C194 C195)) rfl
def N161_c0 (f161_l0 : T161_l0) : Ann := (.seq .nil (.seq .nil (.seq .nil (.seq .nil (.seq (.blk (.loop (E161_l0 f161_l0))) .nil)))))
def F161_c0 (f193 : T193) (f194 : T194) (f195 : T195) (f161_l0 : T161_l0) : T161_c0 := fun (x0, x1, x2, x3, _) =>
 bif
 decide
 (0 ≤
 if IntKind.i64.wrap ((↑x0.length : Int) + 1) < x3 then IntKind.i64.wrap ((↑x0.length : Int) + 1) else x3) &&
 (decide
 ((if IntKind.i64.wrap ((↑x0.length : Int) + 1) < x3 then IntKind.i64.wrap ((↑x0.length : Int) + 1) else x3) =
 if IntKind.i64.wrap ((↑x0.length : Int) + 1) < x3 then IntKind.i64.wrap ((↑x0.length : Int) + 1) else x3) &&
 (decide
 (((↑16 : Int) *
 if IntKind.i64.wrap ((↑x0.length : Int) + 1) < x3 then IntKind.i64.wrap ((↑x0.length : Int) + 1)
 else x3) ≤
 281474976710656) &&
 decide
 ((if IntKind.i64.wrap ((↑x0.length : Int) + 1) < x3 then IntKind.i64.wrap ((↑x0.length : Int) + 1)
 else x3) ≤
 140737488355328))) then
 (f161_l0
 (x0, x1, x2,
 IntKind.i64.wrap
 ((if IntKind.i64.wrap ((↑x0.length : Int) + 1) < x3 then IntKind.i64.wrap ((↑x0.length : Int) + 1)
 else x3) -
 1),
 0,
 List.replicate
 (if IntKind.i64.wrap ((↑x0.length : Int) + 1) < x3 then IntKind.i64.wrap ((↑x0.length : Int) + 1)
 else x3).toNat
 [],
 ())).bind
 fun v =>
 bif decide (0 ≤ v.2.1) && decide (v.2.1 < (↑(List.length v.2.2.1) : Int)) then
 bif
 decide (0 ≤ IntKind.i64.wrap (v.2.1 + 1)) &&
 decide
 (IntKind.i64.wrap (v.2.1 + 1) ≤
 (↑(List.set v.2.2.1 (Int.toNat v.2.1) v.1).length : Int)) then
 some
 (List.take (IntKind.i64.wrap (v.2.1 + 1)).toNat
 (List.set v.2.2.1 (Int.toNat v.2.1) v.1),
 ())
 else none
 else none
 else none
theorem h161_c0 (f193 : T193) (f194 : T194) (f195 : T195) (f161_l0 : T161_l0) : AqC (K161 f193 f194 f195) 0 (subc (code Tryz.f161) [1, 1, 1, 1]) (N161_c0 f161_l0) f161_c0_ins f161_c0_outs (F161_c0 f193 f194 f195 f161_l0) := fun v => by kernel_rfl
def C161_c0 : T161_c0 := F161_c0 C193 C194 C195 C161_l0
theorem k161_c0 : FragOk Tryz.prog 0 (fun Q a w => (subc (code Tryz.f161) [1, 1, 1, 1]).wp Tryz.prog Q a w) (E161_c0 C161_c0) :=
 frag_code (ins := f161_c0_ins) (os := f161_c0_outs) (n := (N161_c0 C161_l0)) (F := C161_c0) hm hΓ kok161 (ann_obs (And.intro k161_l0 trivial) (by kernel_rfl)) (h161_c0 C193 C194 C195 C161_l0)
def N161 (f161_c0 : T161_c0) : Ann := (.seq .nil (.seq .nil (.seq .nil (.cut .nil (E161_c0 f161_c0)))))
def F161 (f193 : T193) (f194 : T194) (f195 : T195) (f161_c0 : T161_c0) : T161 := fun (x0, x1, x2, x3, _) =>
 bif x3 == 0 then some ([], ())
 else
 bif x1 == [] then (f193 (x0, x3, ())).bind fun v => some (v.1, ())
 else
 bif decide (x3 < 0) then
 (f194 (x0, x1, ())).bind fun v =>
 (f161_c0 (x0, x1, x2, IntKind.i64.wrap (v.1 + 1), ())).bind fun v => some (v.1, ())
 else (f161_c0 (x0, x1, x2, x3, ())).bind fun v => some (v.1, ())
theorem h161 (f193 : T193) (f194 : T194) (f195 : T195) (f161_c0 : T161_c0) : AqF (K161 f193 f194 f195) 0 Tryz.f161 (N161 f161_c0) f161_ins f161_outs (F161 f193 f194 f195 f161_c0) := fun v => by kernel_rfl
def C161 : T161 := F161 C193 C194 C195 C161_c0
theorem ok161 : FnOk Tryz.prog 161 (E161 C161) :=
 fnx (n := (N161 C161_c0)) kok161 Tryz.func161 (by kernel_rfl) (by kernel_rfl) (ann_obs (And.intro k161_c0 trivial) (by kernel_rfl)) (fun v => by kernel_rfl) (h161 C193 C194 C195 C161_c0)
abbrev T125 := LqS × LqS × Unit → Option (List (LqS) × Unit)
def E125 (f : T125) : FEnt := ⟨f125_ins, f125_outs, f⟩
def K125 (f161 : T161) : Calls' := fun f => Ae.lookA f [(161, E161 f161)]
theorem kok125 : KOk Tryz.prog (K125 C161) := (kok_cons ok161 (kok_nil _))
def F125 (f161 : T161) : T125 := fun (x0, x1, _) =>
 (f161 (x0, x1, 0, -1, ())).bind fun v => some (v.1, ())
theorem h125 (f161 : T161) : AqF (K125 f161) 0 Tryz.f125 .nil f125_ins f125_outs (F125 f161) := fun v => by kernel_rfl
def C125 : T125 := F125 C161
theorem ok125 : FnOk Tryz.prog 125 (E125 C125) :=
 fnx (n := .nil) kok125 Tryz.func125 (by kernel_rfl) (by kernel_rfl) (ann_nil _) (fun v => by kernel_rfl) (h125 C161)
abbrev T47_l0 := LqS × Int × Int × Unit → Option ((LqS × Unit) ⊕ (Bool × Unit))
def E47_l0 (f : T47_l0) : LEnt := ⟨f47_l0_ins, f47_l0_outs, f⟩
abbrev T47 := LqS × Unit → Option (Bool × Unit)
def E47 (f : T47) : FEnt := ⟨f47_ins, f47_outs, f⟩
def K47 (f90 : T90) : Calls' := fun f => Ae.lookA f [(90, E90 f90)]
theorem kok47 : KOk Tryz.prog (K47 C90) := (kok_cons ok90 (kok_nil _))
def F47_l0 (f90 : T90) : LpF (LqS × Int × Int × Unit) ((LqS × Unit) ⊕ (Bool × Unit)) := fun (x0, x1, x2, _) =>
 bif decide (x2 < x1) then
 bif decide (0 ≤ x2) && decide (x2 < (↑x0.length : Int)) then
 (f90 ((↑(x0.getD x2.toNat 0).toNat : Int), ())).bind fun v =>
 bif !v.1 then some (Sum.inr (Sum.inr (false, ())))
 else some (Sum.inl (x0, x1, IntKind.i64.wrap (x2 + 1), ()))
 else none
 else some (Sum.inr (Sum.inl (x0, ())))
theorem h47_l0 (f90 : T90) : AqL (K47 f90) 0 (subc (code Tryz.f47) [1, 0, 1, 0, 0]) .nil f47_l0_ins f47_l0_outs (F47_l0 f90) := fun v => by kernel_rfl
def C47_l0 : T47_l0 := loopN (F47_l0 C90) big
theorem k47_l0 : FragOk Tryz.prog 0 (fun Q a w => (Code.loop (subc (code Tryz.f47) [1, 0, 1, 0, 0])).wp Tryz.prog Q a w) (E47_l0 C47_l0) :=
 frag_big (ins := f47_l0_ins) (os := f47_l0_outs) (C := C47_l0) (frag_loop (ins := f47_l0_ins) (os := f47_l0_outs) (n := .nil) (F := F47_l0 C90) hm hΓ kok47 (fun _ => big) (ann_nil _) (h47_l0 C90)) rfl
def N47 (f47_l0 : T47_l0) : Ann := (.seq .nil (.seq (.seq .nil (.blk (.loop (E47_l0 f47_l0)))) .nil))
def F47 (f90 : T90) (f47_l0 : T47_l0) : T47 := fun (x0, _) =>
 (f47_l0 (x0, (↑x0.length : Int), 0, ())).bind fun v =>
 Sum.elim (fun v => some (bif v.1 == [] then false else true, ()))
 (fun v => some (v.1, ())) v
theorem h47 (f90 : T90) (f47_l0 : T47_l0) : AqF (K47 f90) 0 Tryz.f47 (N47 f47_l0) f47_ins f47_outs (F47 f90 f47_l0) := fun v => by kernel_rfl
def C47 : T47 := F47 C90 C47_l0
theorem ok47 : FnOk Tryz.prog 47 (E47 C47) :=
 fnx (n := (N47 C47_l0)) kok47 Tryz.func47 (by kernel_rfl) (by kernel_rfl) (ann_obs (And.intro k47_l0 trivial) (by kernel_rfl)) (fun v => by kernel_rfl) (h47 C90 C47_l0)
abbrev T88_l0 := List (LqS) × Int × Int × Unit → Option (Unit ⊕ (Bool × Unit))
def E88_l0 (f : T88_l0) : LEnt := ⟨f88_l0_ins, f88_l0_outs, f⟩
abbrev T88 := LqS × Unit → Option (Bool × Unit)
def E88 (f : T88) : FEnt := ⟨f88_ins, f88_outs, f⟩
def K88 (f125 : T125) (f47 : T47) : Calls' := fun f => Ae.lookA f [(125, E125 f125), (47, E47 f47)]
theorem kok88 : KOk Tryz.prog (K88 C125 C47) := (kok_cons ok125 (kok_cons ok47 (kok_nil _)))
def F88_l0 (f125 : T125) (f47 : T47) : LpF (List (LqS) × Int × Int × Unit) (Unit ⊕ (Bool × Unit)) := fun (x0, x1, x2, _) =>
 bif decide (x2 < x1) then
 bif decide (0 ≤ x2) && decide (x2 < (↑x0.length : Int)) then
 (f47 (x0.getD x2.toNat [], ())).bind fun v =>
 bif !v.1 then some (Sum.inr (Sum.inr (false, ())))
 else some (Sum.inl (x0, x1, IntKind.i64.wrap (x2 + 1), ()))
 else none
 else some (Sum.inr (Sum.inl ()))
theorem h88_l0 (f125 : T125) (f47 : T47) : AqL (K88 f125 f47) 0 (subc (code Tryz.f88) [1, 0, 1, 0, 0]) .nil f88_l0_ins f88_l0_outs (F88_l0 f125 f47) := fun v => by kernel_rfl
def C88_l0 : T88_l0 := loopN (F88_l0 C125 C47) big
theorem k88_l0 : FragOk Tryz.prog 0 (fun Q a w => (Code.loop (subc (code Tryz.f88) [1, 0, 1, 0, 0])).wp Tryz.prog Q a w) (E88_l0 C88_l0) :=
 frag_big (ins := f88_l0_ins) (os := f88_l0_outs) (C := C88_l0) (frag_loop (ins := f88_l0_ins) (os := f88_l0_outs) (n := .nil) (F := F88_l0 C125 C47) hm hΓ kok88 (fun _ => big) (ann_nil _) (h88_l0 C125 C47)) rfl
def N88 (f88_l0 : T88_l0) : Ann := (.seq .nil (.seq (.seq .nil (.blk (.loop (E88_l0 f88_l0)))) .nil))
def F88 (f125 : T125) (f47 : T47) (f88_l0 : T88_l0) : T88 := fun (x0, _) =>
 (f125 (x0, [46], ())).bind fun v =>
 (f88_l0 (v.1, (↑(List.length v.1) : Int), 0, ())).bind fun v =>
 Sum.elim (fun v => some (true, ())) (fun v => some (v.1, ())) v
theorem h88 (f125 : T125) (f47 : T47) (f88_l0 : T88_l0) : AqF (K88 f125 f47) 0 Tryz.f88 (N88 f88_l0) f88_ins f88_outs (F88 f125 f47 f88_l0) := fun v => by kernel_rfl
def C88 : T88 := F88 C125 C47 C88_l0
theorem ok88 : FnOk Tryz.prog 88 (E88 C88) :=
 fnx (n := (N88 C88_l0)) kok88 Tryz.func88 (by kernel_rfl) (by kernel_rfl) (ann_obs (And.intro k88_l0 trivial) (by kernel_rfl)) (fun v => by kernel_rfl) (h88 C125 C47 C88_l0)
abbrev T45 := LqS × LqS × Unit → Option (LqS × Unit)
def E45 (f : T45) : FEnt := ⟨f45_ins, f45_outs, f⟩
def K45 (f88 : T88) (f89 : T89) : Calls' := fun f => Ae.lookA f [(88, E88 f88), (89, E89 f89)]
theorem kok45 : KOk Tryz.prog (K45 C88 C89) := (kok_cons ok88 (kok_cons ok89 (kok_nil _)))
def F45 (f88 : T88) (f89 : T89) : T45 := fun (x0, x1, _) =>
 (f88 (x0, ())).bind fun v =>
 bif !v.1 then
 (f89 (1, x0, 0, ())).bind fun v =>
 bif decide (List.length v.1 + [64].length ≤ 9223372036854775807) then
 bif decide ((v.1 ++ [64]).length + x1.length ≤ 9223372036854775807) then
 some (v.1 ++ [64] ++ x1, ())
 else none
 else none
 else
 bif decide (x0.length + [64].length ≤ 9223372036854775807) then
 bif decide ((x0 ++ [64]).length + x1.length ≤ 9223372036854775807) then
 some (x0 ++ [64] ++ x1, ())
 else none
 else none
theorem h45 (f88 : T88) (f89 : T89) : AqF (K45 f88 f89) 0 Tryz.f45 .nil f45_ins f45_outs (F45 f88 f89) := fun v => by kernel_rfl
def C45 : T45 := F45 C88 C89
theorem ok45 : FnOk Tryz.prog 45 (E45 C45) :=
 fnx (n := .nil) kok45 Tryz.func45 (by kernel_rfl) (by kernel_rfl) (ann_nil _) (fun v => by kernel_rfl) (h45 C88 C89)
abbrev T72_l0 := List ((LqS × LqS)) × Int × Int × LqS × Bool × List ((LqS × LqS)) × List (LqS) × Unit → Option (LqS × Bool × List ((LqS × LqS)) × List (LqS) × Unit)
def E72_l0 (f : T72_l0) : LEnt := ⟨f72_l0_ins, f72_l0_outs, f⟩
abbrev T72 := LqS × Bool × List ((LqS × LqS)) × Unit → Option (LqS × Unit)
def E72 (f : T72) : FEnt := ⟨f72_ins, f72_outs, f⟩
def K72 (f45 : T45) (f73 : T73) (f89 : T89) : Calls' := fun f => Ae.lookA f [(45, E45 f45), (73, E73 f73), (89, E89 f89)]
theorem kok72 : KOk Tryz.prog (K72 C45 C73 C89) := (kok_cons ok45 (kok_cons ok73 (kok_cons ok89 (kok_nil _))))
def F72_l0 (f45 : T45) (f73 : T73) (f89 : T89) : LpF (List ((LqS × LqS)) × Int × Int × LqS × Bool × List ((LqS × LqS)) × List (LqS) × Unit) (LqS × Bool × List ((LqS × LqS)) × List (LqS) × Unit) := fun (x0, x1, x2, x3, x4, x5, x6, _) =>
 bif decide (x2 < x1) then
 bif decide (0 ≤ x2) && decide (x2 < (↑x0.length : Int)) then
 (f45 ((x0.getD x2.toNat ([], [])).1, (x0.getD x2.toNat ([], [])).2, ())).bind
 fun v =>
 bif decide (x6.length + [v.1].length ≤ 140737488355328 / 16) then
 some (Sum.inl (x0, x1, IntKind.i64.wrap (x2 + 1), x3, x4, x5, x6 ++ [v.1], ()))
 else none
 else none
 else some (Sum.inr (x3, x4, x5, x6, ()))
theorem h72_l0 (f45 : T45) (f73 : T73) (f89 : T89) : AqL (K72 f45 f73 f89) 0 (subc (code Tryz.f72) [1, 1, 0, 1, 0, 0]) .nil f72_l0_ins f72_l0_outs (F72_l0 f45 f73 f89) := fun v => by kernel_rfl
def C72_l0 : T72_l0 := loopN (F72_l0 C45 C73 C89) big
theorem k72_l0 : FragOk Tryz.prog 0 (fun Q a w => (Code.loop (subc (code Tryz.f72) [1, 1, 0, 1, 0, 0])).wp Tryz.prog Q a w) (E72_l0 C72_l0) :=
 frag_big (ins := f72_l0_ins) (os := f72_l0_outs) (C := C72_l0) (frag_loop (ins := f72_l0_ins) (os := f72_l0_outs) (n := .nil) (F := F72_l0 C45 C73 C89) hm hΓ kok72 (fun _ => big) (ann_nil _) (h72_l0 C45 C73 C89)) rfl
def N72 (f72_l0 : T72_l0) : Ann := (.seq .nil (.seq .nil (.seq (.seq .nil (.blk (.loop (E72_l0 f72_l0)))) .nil)))
def F72 (f45 : T45) (f73 : T73) (f89 : T89) (f72_l0 : T72_l0) : T72 := fun (x0, x1, x2, _) =>
 (f72_l0 (x2, (↑x2.length : Int), 0, x0, x1, x2, [], ())).bind fun v =>
 (f89 (1, v.1, 0, ())).bind fun v1 =>
 (f73 (v.2.2.2.1, [44, 32], ())).bind fun v2 =>
 bif v.2.1 then
 bif decide (List.length v1.1 + [58].length ≤ 9223372036854775807) then
 bif decide ((v1.1 ++ [58]).length + List.length v2.1 ≤ 9223372036854775807) then
 bif
 decide
 ((v1.1 ++ [58] ++ v2.1).length + [59].length ≤ 9223372036854775807) then
 some (v1.1 ++ [58] ++ v2.1 ++ [59], ())
 else none
 else none
 else none
 else
 bif !v.1 == [] then
 bif decide (List.length v1.1 + [32, 60].length ≤ 9223372036854775807) then
 bif decide ((v1.1 ++ [32, 60]).length + List.length v2.1 ≤ 9223372036854775807) then
 bif
 decide
 ((v1.1 ++ [32, 60] ++ v2.1).length + [62].length ≤
 9223372036854775807) then
 some (v1.1 ++ [32, 60] ++ v2.1 ++ [62], ())
 else none
 else none
 else none
 else some (v2.1, ())
theorem h72 (f45 : T45) (f73 : T73) (f89 : T89) (f72_l0 : T72_l0) : AqF (K72 f45 f73 f89) 0 Tryz.f72 (N72 f72_l0) f72_ins f72_outs (F72 f45 f73 f89 f72_l0) := fun v => by kernel_rfl
def C72 : T72 := F72 C45 C73 C89 C72_l0
theorem ok72 : FnOk Tryz.prog 72 (E72 C72) :=
 fnx (n := (N72 C72_l0)) kok72 Tryz.func72 (by kernel_rfl) (by kernel_rfl) (ann_obs (And.intro k72_l0 trivial) (by kernel_rfl)) (fun v => by kernel_rfl) (h72 C45 C73 C89 C72_l0)
abbrev T34_l0 := List ((LqS × (Bool × List ((LqS × LqS))))) × Int × Int × List (LqS) × Unit → Option (List (LqS) × Unit)
def E34_l0 (f : T34_l0) : LEnt := ⟨f34_l0_ins, f34_l0_outs, f⟩
abbrev T34 := List ((LqS × (Bool × List ((LqS × LqS))))) × Unit → Option (LqS × Unit)
def E34 (f : T34) : FEnt := ⟨f34_ins, f34_outs, f⟩
def K34 (f72 : T72) (f73 : T73) : Calls' := fun f => Ae.lookA f [(72, E72 f72), (73, E73 f73)]
theorem kok34 : KOk Tryz.prog (K34 C72 C73) := (kok_cons ok72 (kok_cons ok73 (kok_nil _)))
def F34_l0 (f72 : T72) (f73 : T73) : LpF (List ((LqS × (Bool × List ((LqS × LqS))))) × Int × Int × List (LqS) × Unit) (List (LqS) × Unit) := fun (x0, x1, x2, x3, _) =>
 bif decide (x2 < x1) then
 bif decide (0 ≤ x2) && decide (x2 < (↑x0.length : Int)) then
 (f72
 ((x0.getD x2.toNat ([], (false, []))).1,
 (x0.getD x2.toNat ([], (false, []))).2.1,
 (x0.getD x2.toNat ([], (false, []))).2.2, ())).bind
 fun v =>
 bif decide (x3.length + [v.1].length ≤ 140737488355328 / 16) then
 some (Sum.inl (x0, x1, IntKind.i64.wrap (x2 + 1), x3 ++ [v.1], ()))
 else none
 else none
 else some (Sum.inr (x3, ()))
theorem h34_l0 (f72 : T72) (f73 : T73) : AqL (K34 f72 f73) 0 (subc (code Tryz.f34) [1, 1, 0, 1, 0, 0]) .nil f34_l0_ins f34_l0_outs (F34_l0 f72 f73) := fun v => by kernel_rfl
def C34_l0 : T34_l0 := loopN (F34_l0 C72 C73) big
theorem k34_l0 : FragOk Tryz.prog 0 (fun Q a w => (Code.loop (subc (code Tryz.f34) [1, 1, 0, 1, 0, 0])).wp Tryz.prog Q a w) (E34_l0 C34_l0) :=
 frag_big (ins := f34_l0_ins) (os := f34_l0_outs) (C := C34_l0) (frag_loop (ins := f34_l0_ins) (os := f34_l0_outs) (n := .nil) (F := F34_l0 C72 C73) hm hΓ kok34 (fun _ => big) (ann_nil _) (h34_l0 C72 C73)) rfl
def N34 (f34_l0 : T34_l0) : Ann := (.seq .nil (.seq .nil (.seq (.seq .nil (.blk (.loop (E34_l0 f34_l0)))) .nil)))
def F34 (f72 : T72) (f73 : T73) (f34_l0 : T34_l0) : T34 := fun (x0, _) =>
 (f34_l0 (x0, (↑x0.length : Int), 0, [], ())).bind fun v =>
 (f73 (v.1, [44, 32], ())).bind fun v => some (v.1, ())
theorem h34 (f72 : T72) (f73 : T73) (f34_l0 : T34_l0) : AqF (K34 f72 f73) 0 Tryz.f34 (N34 f34_l0) f34_ins f34_outs (F34 f72 f73 f34_l0) := fun v => by kernel_rfl
def C34 : T34 := F34 C72 C73 C34_l0
theorem ok34 : FnOk Tryz.prog 34 (E34 C34) :=
 fnx (n := (N34 C34_l0)) kok34 Tryz.func34 (by kernel_rfl) (by kernel_rfl) (ann_obs (And.intro k34_l0 trivial) (by kernel_rfl)) (fun v => by kernel_rfl) (h34 C72 C73 C34_l0)
abbrev T75 := LqS × Bool × List ((LqS × LqS)) × Unit → Option (Bool × Unit)
def E75 (f : T75) : FEnt := ⟨f75_ins, f75_outs, f⟩
def K75 : Calls' := fun f => Ae.lookA f []
theorem kok75 : KOk Tryz.prog (K75) := (kok_nil _)
def F75 : T75 := fun (x0, x1, x2, _) =>
 bif x1 then
 bif x0 == [] then some (true, ())
 else bif !x1 then some (bif (↑x2.length : Int) == 1 then false else true, ()) else some (false, ())
 else bif !x1 then some (bif (↑x2.length : Int) == 1 then false else true, ()) else some (false, ())
theorem h75 : AqF (K75) 0 Tryz.f75 .nil f75_ins f75_outs (F75) := fun v => by kernel_rfl
def C75 : T75 := F75
theorem ok75 : FnOk Tryz.prog 75 (E75 C75) :=
 fnx (n := .nil) kok75 Tryz.func75 (by kernel_rfl) (by kernel_rfl) (ann_nil _) (fun v => by kernel_rfl) (h75)
abbrev T116_l0 := List ((LqS × (Bool × List ((LqS × LqS))))) × Int × Int × Unit → Option (Unit ⊕ (Int × Unit))
def E116_l0 (f : T116_l0) : LEnt := ⟨f116_l0_ins, f116_l0_outs, f⟩
abbrev T116 := List ((LqS × (Bool × List ((LqS × LqS))))) × Unit → Option (Int × Unit)
def E116 (f : T116) : FEnt := ⟨f116_ins, f116_outs, f⟩
def K116 (f75 : T75) : Calls' := fun f => Ae.lookA f [(75, E75 f75)]
theorem kok116 : KOk Tryz.prog (K116 C75) := (kok_cons ok75 (kok_nil _))
def F116_l0 (f75 : T75) : LpF (List ((LqS × (Bool × List ((LqS × LqS))))) × Int × Int × Unit) (Unit ⊕ (Int × Unit)) := fun (x0, x1, x2, _) =>
 bif decide (x2 < x1) then
 bif decide (0 ≤ x2) && decide (x2 < (↑x0.length : Int)) then
 (f75
 ((x0.getD x2.toNat ([], (false, []))).1,
 (x0.getD x2.toNat ([], (false, []))).2.1,
 (x0.getD x2.toNat ([], (false, []))).2.2, ())).bind
 fun v =>
 bif v.1 then some (Sum.inr (Sum.inr (x2, ())))
 else some (Sum.inl (x0, x1, IntKind.i64.wrap (x2 + 1), ()))
 else none
 else some (Sum.inr (Sum.inl ()))
theorem h116_l0 (f75 : T75) : AqL (K116 f75) 0 (subc (code Tryz.f116) [1, 0, 1, 0, 0]) .nil f116_l0_ins f116_l0_outs (F116_l0 f75) := fun v => by kernel_rfl
def C116_l0 : T116_l0 := loopN (F116_l0 C75) big
theorem k116_l0 : FragOk Tryz.prog 0 (fun Q a w => (Code.loop (subc (code Tryz.f116) [1, 0, 1, 0, 0])).wp Tryz.prog Q a w) (E116_l0 C116_l0) :=
 frag_big (ins := f116_l0_ins) (os := f116_l0_outs) (C := C116_l0) (frag_loop (ins := f116_l0_ins) (os := f116_l0_outs) (n := .nil) (F := F116_l0 C75) hm hΓ kok116 (fun _ => big) (ann_nil _) (h116_l0 C75)) rfl
def N116 (f116_l0 : T116_l0) : Ann := (.seq .nil (.seq (.seq .nil (.blk (.loop (E116_l0 f116_l0)))) .nil))
def F116 (f75 : T75) (f116_l0 : T116_l0) : T116 := fun (x0, _) =>
 (f116_l0 (x0, (↑x0.length : Int), 0, ())).bind fun v =>
 Sum.elim (fun v => some (-1, ())) (fun v => some (v.1, ())) v
theorem h116 (f75 : T75) (f116_l0 : T116_l0) : AqF (K116 f75) 0 Tryz.f116 (N116 f116_l0) f116_ins f116_outs (F116 f75 f116_l0) := fun v => by kernel_rfl
def C116 : T116 := F116 C75 C116_l0
theorem ok116 : FnOk Tryz.prog 116 (E116 C116) :=
 fnx (n := (N116 C116_l0)) kok116 Tryz.func116 (by kernel_rfl) (by kernel_rfl) (ann_obs (And.intro k116_l0 trivial) (by kernel_rfl)) (fun v => by kernel_rfl) (h116 C75 C116_l0)
abbrev T74 := List ((LqS × (Bool × List ((LqS × LqS))))) × Unit → Option (Bool × Unit)
def E74 (f : T74) : FEnt := ⟨f74_ins, f74_outs, f⟩
def K74 (f116 : T116) : Calls' := fun f => Ae.lookA f [(116, E116 f116)]
theorem kok74 : KOk Tryz.prog (K74 C116) := (kok_cons ok116 (kok_nil _))
def F74 (f116 : T116) : T74 := fun (x0, _) =>
 (f116 (x0, ())).bind fun v => some (decide (v.1 ≥ 0), ())
theorem h74 (f116 : T116) : AqF (K74 f116) 0 Tryz.f74 .nil f74_ins f74_outs (F74 f116) := fun v => by kernel_rfl
def C74 : T74 := F74 C116
theorem ok74 : FnOk Tryz.prog 74 (E74 C74) :=
 fnx (n := .nil) kok74 Tryz.func74 (by kernel_rfl) (by kernel_rfl) (ann_nil _) (fun v => by kernel_rfl) (h74 C116)
abbrev T76 := LqS × Bool × List ((LqS × LqS)) × Unit → Option (Bool × Unit)
def E76 (f : T76) : FEnt := ⟨f76_ins, f76_outs, f⟩
def K76 (f83 : T83) : Calls' := fun f => Ae.lookA f [(83, E83 f83)]
theorem kok76 : KOk Tryz.prog (K76 C83) := (kok_cons ok83 (kok_nil _))
def F76 (f83 : T83) : T76 := fun (x0, x1, x2, _) =>
 (f83 (x0, ())).bind fun v => some (decide (v.2.1 ≥ 0), ())
theorem h76 (f83 : T83) : AqF (K76 f83) 0 Tryz.f76 .nil f76_ins f76_outs (F76 f83) := fun v => by kernel_rfl
def C76 : T76 := F76 C83
theorem ok76 : FnOk Tryz.prog 76 (E76 C76) :=
 fnx (n := .nil) kok76 Tryz.func76 (by kernel_rfl) (by kernel_rfl) (ann_nil _) (fun v => by kernel_rfl) (h76 C83)
abbrev T116v1_l0 := List ((LqS × (Bool × List ((LqS × LqS))))) × Int × Int × Unit → Option (Unit ⊕ (Int × Unit))
def E116v1_l0 (f : T116v1_l0) : LEnt := ⟨f116v1_l0_ins, f116v1_l0_outs, f⟩
abbrev T116v1 := List ((LqS × (Bool × List ((LqS × LqS))))) × Unit → Option (Int × Unit)
def E116v1 (f : T116v1) : FEnt := ⟨f116v1_ins, f116v1_outs, f⟩
def K116v1 (f76 : T76) : Calls' := fun f => Ae.lookA f [(76, E76 f76)]
theorem kok116v1 : KOk Tryz.prog (K116v1 C76) := (kok_cons ok76 (kok_nil _))
def F116v1_l0 (f76 : T76) : LpF (List ((LqS × (Bool × List ((LqS × LqS))))) × Int × Int × Unit) (Unit ⊕ (Int × Unit)) := fun (x0, x1, x2, _) =>
 bif decide (x2 < x1) then
 bif decide (0 ≤ x2) && decide (x2 < (↑x0.length : Int)) then
 (f76
 ((x0.getD x2.toNat ([], (false, []))).1,
 (x0.getD x2.toNat ([], (false, []))).2.1,
 (x0.getD x2.toNat ([], (false, []))).2.2, ())).bind
 fun v =>
 bif v.1 then some (Sum.inr (Sum.inr (x2, ())))
 else some (Sum.inl (x0, x1, IntKind.i64.wrap (x2 + 1), ()))
 else none
 else some (Sum.inr (Sum.inl ()))
theorem h116v1_l0 (f76 : T76) : AqL (K116v1 f76) 0 (subc (code Tryz.f116) [1, 0, 1, 0, 0]) .nil f116v1_l0_ins f116v1_l0_outs (F116v1_l0 f76) := fun v => by kernel_rfl
def C116v1_l0 : T116v1_l0 := loopN (F116v1_l0 C76) big
theorem k116v1_l0 : FragOk Tryz.prog 0 (fun Q a w => (Code.loop (subc (code Tryz.f116) [1, 0, 1, 0, 0])).wp Tryz.prog Q a w) (E116v1_l0 C116v1_l0) :=
 frag_big (ins := f116v1_l0_ins) (os := f116v1_l0_outs) (C := C116v1_l0) (frag_loop (ins := f116v1_l0_ins) (os := f116v1_l0_outs) (n := .nil) (F := F116v1_l0 C76) hm hΓ kok116v1 (fun _ => big) (ann_nil _) (h116v1_l0 C76)) rfl
def N116v1 (f116v1_l0 : T116v1_l0) : Ann := (.seq .nil (.seq (.seq .nil (.blk (.loop (E116v1_l0 f116v1_l0)))) .nil))
def F116v1 (f76 : T76) (f116v1_l0 : T116v1_l0) : T116v1 := fun (x0, _) =>
 (f116v1_l0 (x0, (↑x0.length : Int), 0, ())).bind fun v =>
 Sum.elim (fun v => some (-1, ())) (fun v => some (v.1, ())) v
theorem h116v1 (f76 : T76) (f116v1_l0 : T116v1_l0) : AqF (K116v1 f76) 0 Tryz.f116 (N116v1 f116v1_l0) f116v1_ins f116v1_outs (F116v1 f76 f116v1_l0) := fun v => by kernel_rfl
def C116v1 : T116v1 := F116v1 C76 C116v1_l0
theorem ok116v1 : FnOk Tryz.prog 116 (E116v1 C116v1) :=
 fnx (n := (N116v1 C116v1_l0)) kok116v1 Tryz.func116 (by kernel_rfl) (by kernel_rfl) (ann_obs (And.intro k116v1_l0 trivial) (by kernel_rfl)) (fun v => by kernel_rfl) (h116v1 C76 C116v1_l0)
abbrev T74v1 := List ((LqS × (Bool × List ((LqS × LqS))))) × Unit → Option (Bool × Unit)
def E74v1 (f : T74v1) : FEnt := ⟨f74v1_ins, f74v1_outs, f⟩
def K74v1 (f116v1 : T116v1) : Calls' := fun f => Ae.lookA f [(116, E116v1 f116v1)]
theorem kok74v1 : KOk Tryz.prog (K74v1 C116v1) := (kok_cons ok116v1 (kok_nil _))
def F74v1 (f116v1 : T116v1) : T74v1 := fun (x0, _) =>
 (f116v1 (x0, ())).bind fun v => some (decide (v.1 ≥ 0), ())
theorem h74v1 (f116v1 : T116v1) : AqF (K74v1 f116v1) 0 Tryz.f74 .nil f74v1_ins f74v1_outs (F74v1 f116v1) := fun v => by kernel_rfl
def C74v1 : T74v1 := F74v1 C116v1
theorem ok74v1 : FnOk Tryz.prog 74 (E74v1 C74v1) :=
 fnx (n := .nil) kok74v1 Tryz.func74 (by kernel_rfl) (by kernel_rfl) (ann_nil _) (fun v => by kernel_rfl) (h74v1 C116v1)
abbrev T117 := Int × Unit → Option (Bool × Unit)
def E117 (f : T117) : FEnt := ⟨f117_ins, f117_outs, f⟩
def K117 : Calls' := fun f => Ae.lookA f []
theorem kok117 : KOk Tryz.prog (K117) := (kok_nil _)
def F117 : T117 := fun (x0, _) =>
 bif x0 != 9 then bif decide (x0 < 32) then some (true, ()) else some (x0 == 127, ())
 else some (false, ())
theorem h117 : AqF (K117) 0 Tryz.f117 .nil f117_ins f117_outs (F117) := fun v => by kernel_rfl
def C117 : T117 := F117
theorem ok117 : FnOk Tryz.prog 117 (E117 C117) :=
 fnx (n := .nil) kok117 Tryz.func117 (by kernel_rfl) (by kernel_rfl) (ann_nil _) (fun v => by kernel_rfl) (h117)
abbrev T156v2_l0 := Bool × (LqS × Int) × Unit → Option ((Int × Unit) ⊕ Unit)
def E156v2_l0 (f : T156v2_l0) : LEnt := ⟨f156v2_l0_ins, f156v2_l0_outs, f⟩
abbrev T156v2 := LqS × Bool × Unit → Option (Int × Unit)
def E156v2 (f : T156v2) : FEnt := ⟨f156v2_ins, f156v2_outs, f⟩
def K156v2 (f117 : T117) : Calls' := fun f => Ae.lookA f [(117, E117 f117)]
theorem kok156v2 : KOk Tryz.prog (K156v2 C117) := (kok_cons ok117 (kok_nil _))
def F156v2_l0 (f117 : T117) : LpF (Bool × (LqS × Int) × Unit) ((Int × Unit) ⊕ Unit) := fun (x0, x1, _) =>
 bif decide (Int.toNat x1.2 < List.length x1.1) then
 (f117 ((↑(decR x1.1 (Int.toNat x1.2)).1 : Int), ())).bind fun v =>
 bif v.1 == x0 then some (Sum.inr (Sum.inl ((↑(Int.toNat x1.2) : Int), ())))
 else some (Sum.inl (x0, (x1.1, (↑(Int.toNat x1.2 + (decR x1.1 (Int.toNat x1.2)).2) : Int)), ()))
 else some (Sum.inr (Sum.inr ()))
theorem h156v2_l0 (f117 : T117) : AqL (K156v2 f117) 0 (subc (code Tryz.f156) [1, 0, 1, 0, 0]) .nil f156v2_l0_ins f156v2_l0_outs (F156v2_l0 f117) := fun v => by kernel_rfl
def C156v2_l0 : T156v2_l0 := loopN (F156v2_l0 C117) big
theorem k156v2_l0 : FragOk Tryz.prog 0 (fun Q a w => (Code.loop (subc (code Tryz.f156) [1, 0, 1, 0, 0])).wp Tryz.prog Q a w) (E156v2_l0 C156v2_l0) :=
 frag_big (ins := f156v2_l0_ins) (os := f156v2_l0_outs) (C := C156v2_l0) (frag_loop (ins := f156v2_l0_ins) (os := f156v2_l0_outs) (n := .nil) (F := F156v2_l0 C117) hm hΓ kok156v2 (fun _ => big) (ann_nil _) (h156v2_l0 C117)) rfl
def N156v2 (f156v2_l0 : T156v2_l0) : Ann := (.seq .nil (.seq (.seq .nil (.blk (.loop (E156v2_l0 f156v2_l0)))) .nil))
def F156v2 (f117 : T117) (f156v2_l0 : T156v2_l0) : T156v2 := fun (x0, x1, _) =>
 (f156v2_l0 (x1, (x0, (↑0 : Int)), ())).bind fun v =>
 Sum.elim (fun v => some (v.1, ())) (fun v => some (-1, ())) v
theorem h156v2 (f117 : T117) (f156v2_l0 : T156v2_l0) : AqF (K156v2 f117) 0 Tryz.f156 (N156v2 f156v2_l0) f156v2_ins f156v2_outs (F156v2 f117 f156v2_l0) := fun v => by kernel_rfl
def C156v2 : T156v2 := F156v2 C117 C156v2_l0
theorem ok156v2 : FnOk Tryz.prog 156 (E156v2 C156v2) :=
 fnx (n := (N156v2 C156v2_l0)) kok156v2 Tryz.func156 (by kernel_rfl) (by kernel_rfl) (ann_obs (And.intro k156v2_l0 trivial) (by kernel_rfl)) (fun v => by kernel_rfl) (h156v2 C117 C156v2_l0)
abbrev T123v2 := LqS × Unit → Option (Int × Unit)
def E123v2 (f : T123v2) : FEnt := ⟨f123v2_ins, f123v2_outs, f⟩
def K123v2 (f156v2 : T156v2) : Calls' := fun f => Ae.lookA f [(156, E156v2 f156v2)]
theorem kok123v2 : KOk Tryz.prog (K123v2 C156v2) := (kok_cons ok156v2 (kok_nil _))
def F123v2 (f156v2 : T156v2) : T123v2 := fun (x0, _) =>
 (f156v2 (x0, true, ())).bind fun v => some (v.1, ())
theorem h123v2 (f156v2 : T156v2) : AqF (K123v2 f156v2) 0 Tryz.f123 .nil f123v2_ins f123v2_outs (F123v2 f156v2) := fun v => by kernel_rfl
def C123v2 : T123v2 := F123v2 C156v2
theorem ok123v2 : FnOk Tryz.prog 123 (E123v2 C123v2) :=
 fnx (n := .nil) kok123v2 Tryz.func123 (by kernel_rfl) (by kernel_rfl) (ann_nil _) (fun v => by kernel_rfl) (h123v2 C156v2)
abbrev T84v2 := LqS × Unit → Option (Bool × Unit)
def E84v2 (f : T84v2) : FEnt := ⟨f84v2_ins, f84v2_outs, f⟩
def K84v2 (f123v2 : T123v2) : Calls' := fun f => Ae.lookA f [(123, E123v2 f123v2)]
theorem kok84v2 : KOk Tryz.prog (K84v2 C123v2) := (kok_cons ok123v2 (kok_nil _))
def F84v2 (f123v2 : T123v2) : T84v2 := fun (x0, _) =>
 (f123v2 (x0, ())).bind fun v => some (decide (v.1 ≥ 0), ())
theorem h84v2 (f123v2 : T123v2) : AqF (K84v2 f123v2) 0 Tryz.f84 .nil f84v2_ins f84v2_outs (F84v2 f123v2) := fun v => by kernel_rfl
def C84v2 : T84v2 := F84v2 C123v2
theorem ok84v2 : FnOk Tryz.prog 84 (E84v2 C84v2) :=
 fnx (n := .nil) kok84v2 Tryz.func84 (by kernel_rfl) (by kernel_rfl) (ann_nil _) (fun v => by kernel_rfl) (h84v2 C123v2)
end Go.Proofs.YtiacnhhmkdkpmaaGreatDoorA.W
set_option maxRecDepth 100000
set_option linter.unusedVariables false
namespace Go.Proofs.YtiacnhhmkdkpmaaGreatDoorA.W
open Go Go.Ae
abbrev T77 := LqS × Bool × List ((LqS × LqS)) × Unit → Option (Bool × Unit)
def E77 (f : T77) : FEnt := ⟨f77_ins, f77_outs, f⟩
def K77 (f84v2 : T84v2) : Calls' := fun f => Ae.lookA f [(84, E84v2 f84v2)]
theorem kok77 : KOk Tryz.prog (K77 C84v2) := (kok_cons ok84v2 (kok_nil _))
def F77 (f84v2 : T84v2) : T77 := fun (x0, x1, x2, _) =>
 (f84v2 (x0, ())).bind fun v => some (v.1, ())
theorem h77 (f84v2 : T84v2) : AqF (K77 f84v2) 0 Tryz.f77 .nil f77_ins f77_outs (F77 f84v2) := fun v => by kernel_rfl
def C77 : T77 := F77 C84v2
theorem ok77 : FnOk Tryz.prog 77 (E77 C77) :=
 fnx (n := .nil) kok77 Tryz.func77 (by kernel_rfl) (by kernel_rfl) (ann_nil _) (fun v => by kernel_rfl) (h77 C84v2)
abbrev T116v2_l0 := List ((LqS × (Bool × List ((LqS × LqS))))) × Int × Int × Unit → Option (Unit ⊕ (Int × Unit))
def E116v2_l0 (f : T116v2_l0) : LEnt := ⟨f116v2_l0_ins, f116v2_l0_outs, f⟩
abbrev T116v2 := List ((LqS × (Bool × List ((LqS × LqS))))) × Unit → Option (Int × Unit)
def E116v2 (f : T116v2) : FEnt := ⟨f116v2_ins, f116v2_outs, f⟩
def K116v2 (f77 : T77) : Calls' := fun f => Ae.lookA f [(77, E77 f77)]
theorem kok116v2 : KOk Tryz.prog (K116v2 C77) := (kok_cons ok77 (kok_nil _))
def F116v2_l0 (f77 : T77) : LpF (List ((LqS × (Bool × List ((LqS × LqS))))) × Int × Int × Unit) (Unit ⊕ (Int × Unit)) := fun (x0, x1, x2, _) =>
 bif decide (x2 < x1) then
 bif decide (0 ≤ x2) && decide (x2 < (↑x0.length : Int)) then
 (f77
 ((x0.getD x2.toNat ([], (false, []))).1,
 (x0.getD x2.toNat ([], (false, []))).2.1,
 (x0.getD x2.toNat ([], (false, []))).2.2, ())).bind
 fun v =>
 bif v.1 then some (Sum.inr (Sum.inr (x2, ())))
 else some (Sum.inl (x0, x1, IntKind.i64.wrap (x2 + 1), ()))
 else none
 else some (Sum.inr (Sum.inl ()))
theorem h116v2_l0 (f77 : T77) : AqL (K116v2 f77) 0 (subc (code Tryz.f116) [1, 0, 1, 0, 0]) .nil f116v2_l0_ins f116v2_l0_outs (F116v2_l0 f77) := fun v => by kernel_rfl
def C116v2_l0 : T116v2_l0 := loopN (F116v2_l0 C77) big
theorem k116v2_l0 : FragOk Tryz.prog 0 (fun Q a w => (Code.loop (subc (code Tryz.f116) [1, 0, 1, 0, 0])).wp Tryz.prog Q a w) (E116v2_l0 C116v2_l0) :=
 frag_big (ins := f116v2_l0_ins) (os := f116v2_l0_outs) (C := C116v2_l0) (frag_loop (ins := f116v2_l0_ins) (os := f116v2_l0_outs) (n := .nil) (F := F116v2_l0 C77) hm hΓ kok116v2 (fun _ => big) (ann_nil _) (h116v2_l0 C77)) rfl
def N116v2 (f116v2_l0 : T116v2_l0) : Ann := (.seq .nil (.seq (.seq .nil (.blk (.loop (E116v2_l0 f116v2_l0)))) .nil))
def F116v2 (f77 : T77) (f116v2_l0 : T116v2_l0) : T116v2 := fun (x0, _) =>
 (f116v2_l0 (x0, (↑x0.length : Int), 0, ())).bind fun v =>
 Sum.elim (fun v => some (-1, ())) (fun v => some (v.1, ())) v
theorem h116v2 (f77 : T77) (f116v2_l0 : T116v2_l0) : AqF (K116v2 f77) 0 Tryz.f116 (N116v2 f116v2_l0) f116v2_ins f116v2_outs (F116v2 f77 f116v2_l0) := fun v => by kernel_rfl
def C116v2 : T116v2 := F116v2 C77 C116v2_l0
theorem ok116v2 : FnOk Tryz.prog 116 (E116v2 C116v2) :=
 fnx (n := (N116v2 C116v2_l0)) kok116v2 Tryz.func116 (by kernel_rfl) (by kernel_rfl) (ann_obs (And.intro k116v2_l0 trivial) (by kernel_rfl)) (fun v => by kernel_rfl) (h116v2 C77 C116v2_l0)
abbrev T74v2 := List ((LqS × (Bool × List ((LqS × LqS))))) × Unit → Option (Bool × Unit)
def E74v2 (f : T74v2) : FEnt := ⟨f74v2_ins, f74v2_outs, f⟩
def K74v2 (f116v2 : T116v2) : Calls' := fun f => Ae.lookA f [(116, E116v2 f116v2)]
theorem kok74v2 : KOk Tryz.prog (K74v2 C116v2) := (kok_cons ok116v2 (kok_nil _))
def F74v2 (f116v2 : T116v2) : T74v2 := fun (x0, _) =>
 (f116v2 (x0, ())).bind fun v => some (decide (v.1 ≥ 0), ())
theorem h74v2 (f116v2 : T116v2) : AqF (K74v2 f116v2) 0 Tryz.f74 .nil f74v2_ins f74v2_outs (F74v2 f116v2) := fun v => by kernel_rfl
def C74v2 : T74v2 := F74v2 C116v2
theorem ok74v2 : FnOk Tryz.prog 74 (E74v2 C74v2) :=
 fnx (n := .nil) kok74v2 Tryz.func74 (by kernel_rfl) (by kernel_rfl) (ann_nil _) (fun v => by kernel_rfl) (h74v2 C116v2)
abbrev T35_c0 := List ((LqS × (Bool × List ((LqS × LqS))))) × Bool × LqA × LqB × LqC × Unit → Option ((Int × Unit) ⊕ (List ((LqS × (Bool × List ((LqS × LqS))))) × LqA × LqB × LqC × Unit))
def E35_c0 (f : T35_c0) : LEnt := ⟨f35_c0_ins, f35_c0_outs, f⟩
abbrev T35 := LqA × LqB × LqC × List ((LqS × (Bool × List ((LqS × LqS))))) × Unit → Option (Int × Unit)
def E35 (f : T35) : FEnt := ⟨f35_ins, f35_outs, f⟩
def K35 (f31 : T31) (f70 : T70) (f74 : T74) (f74v1 : T74v1) (f74v2 : T74v2) : Calls' := fun f => Ae.lookA f [(31, E31 f31), (70, E70 f70), (74, E74 f74), (74, E74v1 f74v1), (74, E74v2 f74v2)]
theorem kok35 : KOk Tryz.prog (K35 C31 C70 C74 C74v1 C74v2) := (kok_cons ok31 (kok_cons ok70 (kok_cons ok74 (kok_cons ok74v1 (kok_cons ok74v2 (kok_nil _))))))
def F35_c0 (f31 : T31) (f70 : T70) (f74 : T74) (f74v1 : T74v1) (f74v2 : T74v2) : T35_c0 := fun (x0, x1, x2, x3, x4, _) =>
 bif x1 then some (Sum.inl (1, ()))
 else
 (f74v1 (x0, ())).bind fun v =>
 bif v.1 then some (Sum.inl (7, ()))
 else
 (f74v2 (x0, ())).bind fun v =>
 bif v.1 then some (Sum.inl (8, ())) else some (Sum.inr (x0, x2, x3, x4, ()))
theorem h35_c0 (f31 : T31) (f70 : T70) (f74 : T74) (f74v1 : T74v1) (f74v2 : T74v2) : AqC (K35 f31 f70 f74 f74v1 f74v2) 0 (subc (code Tryz.f35) [1, 0, 0, 1]) .nil f35_c0_ins f35_c0_outs (F35_c0 f31 f70 f74 f74v1 f74v2) := fun v => by kernel_rfl
def C35_c0 : T35_c0 := F35_c0 C31 C70 C74 C74v1 C74v2
theorem k35_c0 : FragOk Tryz.prog 0 (fun Q a w => (subc (code Tryz.f35) [1, 0, 0, 1]).wp Tryz.prog Q a w) (E35_c0 C35_c0) :=
 frag_code (ins := f35_c0_ins) (os := f35_c0_outs) (n := .nil) (F := C35_c0) hm hΓ kok35 (ann_nil _) (h35_c0 C31 C70 C74 C74v1 C74v2)
def N35 (f35_c0 : T35_c0) : Ann := (.seq .nil (.seq (.blk (.cut .nil (E35_c0 f35_c0))) .nil))
def F35 (f31 : T31) (f70 : T70) (f74 : T74) (f74v1 : T74v1) (f74v2 : T74v2) (f35_c0 : T35_c0) : T35 := fun (x0, x1, x2, x3, _) =>
 bif (↑x3.length : Int) == 0 then
 (f35_c0 (x3, true, x0, x1, x2, ())).bind fun v =>
 Sum.elim (fun v => some (v.1, ()))
 (fun v =>
 (f31 (v.1, ())).bind fun v1 =>
 (f70 (v.2.1, v.2.2.1, v.2.2.2.1, v1.1, ())).bind fun v =>
 some (v.1, ()))
 v
 else
 (f74 (x3, ())).bind fun v =>
 (f35_c0 (x3, v.1, x0, x1, x2, ())).bind fun v =>
 Sum.elim (fun v => some (v.1, ()))
 (fun v =>
 (f31 (v.1, ())).bind fun v1 =>
 (f70 (v.2.1, v.2.2.1, v.2.2.2.1, v1.1, ())).bind fun v =>
 some (v.1, ()))
 v
theorem h35 (f31 : T31) (f70 : T70) (f74 : T74) (f74v1 : T74v1) (f74v2 : T74v2) (f35_c0 : T35_c0) : AqF (K35 f31 f70 f74 f74v1 f74v2) 0 Tryz.f35 (N35 f35_c0) f35_ins f35_outs (F35 f31 f70 f74 f74v1 f74v2 f35_c0) := fun v => by kernel_rfl
def C35 : T35 := F35 C31 C70 C74 C74v1 C74v2 C35_c0
theorem ok35 : FnOk Tryz.prog 35 (E35 C35) :=
 fnx (n := (N35 C35_c0)) kok35 Tryz.func35 (by kernel_rfl) (by kernel_rfl) (ann_obs (And.intro k35_c0 trivial) (by kernel_rfl)) (fun v => by kernel_rfl) (h35 C31 C70 C74 C74v1 C74v2 C35_c0)
abbrev T29 := Unit → Option (Bool × Unit)
def E29 (f : T29) : FEnt := ⟨f29_ins, f29_outs, f⟩
def K29 (f18 : T18) (f30 : T30) (f31 : T31) (f34 : T34) (f35 : T35) : Calls' := fun f => Ae.lookA f [(18, E18 f18), (30, E30 f30), (31, E31 f31), (34, E34 f34), (35, E35 f35)]
theorem kok29 : KOk Tryz.prog (K29 C18 C30 C31 C34 C35) := (kok_cons ok18 (kok_cons ok30 (kok_cons ok31 (kok_cons ok34 (kok_cons ok35 (kok_nil _))))))
def C29 : T29 := fun _ => some (true, ())
theorem h29 : afun Γ (K29 C18 C30 C31 C34 C35) 0 Tryz.f29.ntmps Tryz.f29.results.toList (code Tryz.f29) .nil (em id f29_ins ()).1 (em id f29_ins ()).2 (ofin 0 f29_outs) = some (true, ()) := by kernel_rfl
theorem ok29 : FnOk Tryz.prog 29 (E29 C29) :=
 fnx (n := .nil) kok29 Tryz.func29 (by kernel_rfl) (by kernel_rfl) (ann_nil _) (fun v => by kernel_rfl) (fun v => h29)
abbrev T8_l0 := Int × Bool × Bool × LqS × Int × Unit → Option (Int × Bool × Bool × LqS × Unit)
def E8_l0 (f : T8_l0) : LEnt := ⟨f8_l0_ins, f8_l0_outs, f⟩
abbrev T8_c0 := Int × Bool × Bool × LqS × Unit → Option (Bool × Unit)
def E8_c0 (f : T8_c0) : LEnt := ⟨f8_c0_ins, f8_c0_outs, f⟩
abbrev T8 := Int × Bool × Unit → Option (Bool × Unit)
def E8 (f : T8) : FEnt := ⟨f8_ins, f8_outs, f⟩
def K8 (f18 : T18) (f29 : T29) (f30 : T30) (f31 : T31) : Calls' := fun f => Ae.lookA f [(18, E18 f18), (29, E29 f29), (30, E30 f30), (31, E31 f31)]
theorem kok8 : KOk Tryz.prog (K8 C18 C29 C30 C31) := (kok_cons ok18 (kok_cons ok29 (kok_cons ok30 (kok_cons ok31 (kok_nil _)))))
def F8_l0 (f18 : T18) (f29 : T29) (f30 : T30) (f31 : T31) : LpF (Int × Bool × Bool × LqS × Int × Unit) (Int × Bool × Bool × LqS × Unit) := fun (x0, x1, x2, x3, x4, _) =>
 bif decide (x4 < x0) then
 bif decide (x4 > 0) then
 bif decide (x3.length + [44].length ≤ 9223372036854775807) then
 bif decide ((x3 ++ [44]).length + [97, 64, 98].length ≤ 9223372036854775807) then
 some (Sum.inl (x0, x1, x2, x3 ++ [44] ++ [97, 64, 98], IntKind.i64.wrap (x4 + 1), ()))
 else none
 else none
 else
 bif decide (x3.length + [97, 64, 98].length ≤ 9223372036854775807) then
 some (Sum.inl (x0, x1, x2, x3 ++ [97, 64, 98], IntKind.i64.wrap (x4 + 1), ()))
 else none
 else some (Sum.inr (x0, x1, x2, x3, ()))
theorem h8_l0 (f18 : T18) (f29 : T29) (f30 : T30) (f31 : T31) : AqL (K8 f18 f29 f30 f31) 0 (subc (code Tryz.f8) [1, 1, 1, 1, 0, 1, 0, 0]) .nil f8_l0_ins f8_l0_outs (F8_l0 f18 f29 f30 f31) := fun v => by kernel_rfl
def C8_l0 : T8_l0 := loopN (F8_l0 C18 C29 C30 C31) big
theorem k8_l0 : FragOk Tryz.prog 0 (fun Q a w => (Code.loop (subc (code Tryz.f8) [1, 1, 1, 1, 0, 1, 0, 0])).wp Tryz.prog Q a w) (E8_l0 C8_l0) :=
 frag_big (ins := f8_l0_ins) (os := f8_l0_outs) (C := C8_l0) (frag_loop (ins := f8_l0_ins) (os := f8_l0_outs) (n := .nil) (F := F8_l0 C18 C29 C30 C31) hm hΓ kok8 (fun _ => big) (ann_nil _) (h8_l0 C18 C29 C30 C31)) rfl
def F8_c0 (f18 : T18) (f29 : T29) (f30 : T30) (f31 : T31) : T8_c0 := fun (x0, x1, x2, x3, _) =>
 (f18 ()).bind fun v =>
 (f30 (v.1, v.2.1, v.2.2.1, x3, ())).bind fun v =>
 bif decide (x0 > 100) then
 bif x2 then
 bif v.2.1 == 2 then some ((↑(List.length v.1) : Int) == 0, ()) else some (false, ())
 else some (false, ())
 else
 bif x2 then
 bif v.2.1 == 0 then
 (f31 (v.1, ())).bind fun v1 =>
 bif (↑(List.length v1.1) : Int) == x0 then
 bif x1 then some (((↑(List.length v.1) : Int) == 1) == true, ())
 else some (((↑(List.length v.1) : Int) == 1) == (x0 == 1), ())
 else some (false, ())
 else some (false, ())
 else some (false, ())
theorem h8_c0 (f18 : T18) (f29 : T29) (f30 : T30) (f31 : T31) : AqC (K8 f18 f29 f30 f31) 0 (subc (code Tryz.f8) [1, 1, 1, 1, 1, 1]) .nil f8_c0_ins f8_c0_outs (F8_c0 f18 f29 f30 f31) := fun v => by kernel_rfl
def C8_c0 : T8_c0 := F8_c0 C18 C29 C30 C31
theorem k8_c0 : FragOk Tryz.prog 0 (fun Q a w => (subc (code Tryz.f8) [1, 1, 1, 1, 1, 1]).wp Tryz.prog Q a w) (E8_c0 C8_c0) :=
 frag_code (ins := f8_c0_ins) (os := f8_c0_outs) (n := .nil) (F := C8_c0) hm hΓ kok8 (ann_nil _) (h8_c0 C18 C29 C30 C31)
def N8 (f8_c0 : T8_c0) (f8_l0 : T8_l0) : Ann := (.seq .nil (.seq .nil (.seq .nil (.seq .nil (.seq (.seq .nil (.blk (.loop (E8_l0 f8_l0)))) (.cut .nil (E8_c0 f8_c0)))))))
def F8 (f18 : T18) (f29 : T29) (f30 : T30) (f31 : T31) (f8_c0 : T8_c0) (f8_l0 : T8_l0) : T8 := fun (x0, x1, _) =>
 (f29 ()).bind fun v =>
 bif decide (x0 < 1) then some (v.1, ())
 else
 bif decide (x0 > 130) then some (v.1, ())
 else
 (f8_l0 (x0, x1, v.1, [], 0, ())).bind fun v =>
 bif v.2.1 then
 bif decide ([103, 58].length + List.length v.2.2.2.1 ≤ 9223372036854775807) then
 bif
 decide
 (([103, 58] ++ v.2.2.2.1).length + [59].length ≤ 9223372036854775807) then
 (f8_c0
 (v.1, v.2.1, v.2.2.1, [103, 58] ++ v.2.2.2.1 ++ [59],
 ())).bind
 fun v => some (v.1, ())
 else none
 else none
 else
 (f8_c0 (v.1, v.2.1, v.2.2.1, v.2.2.2.1, ())).bind fun v =>
 some (v.1, ())
theorem h8 (f18 : T18) (f29 : T29) (f30 : T30) (f31 : T31) (f8_c0 : T8_c0) (f8_l0 : T8_l0) : AqF (K8 f18 f29 f30 f31) 0 Tryz.f8 (N8 f8_c0 f8_l0) f8_ins f8_outs (F8 f18 f29 f30 f31 f8_c0 f8_l0) := fun v => by kernel_rfl
def C8 : T8 := F8 C18 C29 C30 C31 C8_c0 C8_l0
theorem ok8 : FnOk Tryz.prog 8 (E8 C8) :=
 fnx (n := (N8 C8_c0 C8_l0)) kok8 Tryz.func8 (by kernel_rfl) (by kernel_rfl) (ann_obs (And.intro k8_l0 (And.intro k8_c0 trivial)) (by kernel_rfl)) (fun v => by kernel_rfl) (h8 C18 C29 C30 C31 C8_c0 C8_l0)
abbrev T32 := LqA × LqB × LqC × LqS × Unit → Option (LqS × LqS × Int × Unit)
def E32 (f : T32) : FEnt := ⟨f32_ins, f32_outs, f⟩
def K32 (f44 : T44) (f67 : T67) (f71 : T71) : Calls' := fun f => Ae.lookA f [(44, E44 f44), (67, E67 f67), (71, E71 f71)]
def F32 (f44 : T44) (f67 : T67) (f71 : T71) : T32 := fun (x0, x1, x2, x3, _) =>
 (f67 (x3, ())).bind fun v =>
 bif v.2.2.1 != 0 then some ([], [], v.2.2.1, ())
 else
 (f71 (v.1, ())).bind fun v1 =>
 bif !v1.2.2.2.1 then some ([], [], 4, ())
 else
 bif v1.2.2.1 != (↑(List.length v.1) : Int) then some ([], [], 4, ())
 else
 (f44 (x0, x1, x2, v1.1, v1.2.1, ())).bind fun v =>
 bif v.1 != 0 then some ([], [], v.1, ()) else some (v1.1, v1.2.1, 0, ())
theorem h32 (f44 : T44) (f67 : T67) (f71 : T71) : AqF (K32 f44 f67 f71) 0 Tryz.f32 .nil f32_ins f32_outs (F32 f44 f67 f71) := fun v => by kernel_rfl
abbrev T9_c0 := Bool × List ((LqS × (Bool × List ((LqS × LqS))))) × Int × LqS × LqS × Unit → Option (Bool × Unit)
def E9_c0 (f : T9_c0) : LEnt := ⟨f9_c0_ins, f9_c0_outs, f⟩
def K9 (f18 : T18) (f29 : T29) (f30 : T30) (f32 : T32) : Calls' := fun f => Ae.lookA f [(18, E18 f18), (29, E29 f29), (30, E30 f30), (32, E32 f32)]
def N9 (f9_c0 : T9_c0) : Ann := (.seq .nil (.seq .nil (.seq .nil (.seq .nil (.seq .nil (.seq .nil (.cut .nil (E9_c0 f9_c0))))))))
def F9 (f18 : T18) (f29 : T29) (f30 : T30) (f32 : T32) (f9_c0 : T9_c0) : LqS × Unit → Option (Bool × Unit) := fun (x0, _) =>
 (f29 ()).bind fun v =>
 bif decide ((↑x0.length : Int) > 300) then some (v.1, ())
 else
 (f18 ()).bind fun v1 =>
 (f32 (v1.1, v1.2.1, v1.2.2.1, x0, ())).bind fun v2 =>
 (f30 (v1.1, v1.2.1, v1.2.2.1, x0, ())).bind fun v3 =>
 bif v2.2.2.1 != 0 then
 bif v.1 then
 bif v2.2.2.1 == 4 then some (true, ())
 else some (v3.2.1 == v2.2.2.1, ())
 else some (false, ())
 else
 (f9_c0 (v.1, v3.1, v3.2.1, v2.1, v2.2.1, ())).bind fun v =>
 some (v.1, ())
theorem h9 (f18 : T18) (f29 : T29) (f30 : T30) (f32 : T32) (f9_c0 : T9_c0) : AqF (K9 f18 f29 f30 f32) 0 Tryz.f9 (N9 f9_c0) f9_ins f9_outs (F9 f18 f29 f30 f32 f9_c0) := fun v => by kernel_rfl
abbrev T33 := List ((LqS × (Bool × List ((LqS × LqS))))) × Unit → Option (Bool × Unit)
def E33 (f : T33) : FEnt := ⟨f33_ins, f33_outs, f⟩
abbrev T36 := List ((LqS × (Bool × List ((LqS × LqS))))) × List ((LqS × (Bool × List ((LqS × LqS))))) × Unit → Option (Bool × Unit)
def E36 (f : T36) : FEnt := ⟨f36_ins, f36_outs, f⟩
abbrev T10_c0 := LqS × Bool × LqA × LqB × LqC × Unit → Option (Bool × Unit)
def E10_c0 (f : T10_c0) : LEnt := ⟨f10_c0_ins, f10_c0_outs, f⟩
def K10 (f18 : T18) (f29 : T29) (f30 : T30) (f33 : T33) (f34 : T34) (f35 : T35) (f36 : T36) : Calls' := fun f => Ae.lookA f [(18, E18 f18), (29, E29 f29), (30, E30 f30), (33, E33 f33), (34, E34 f34), (35, E35 f35), (36, E36 f36)]
def N10 (f10_c0 : T10_c0) : Ann := (.seq .nil (.seq .nil (.seq .nil (.seq .nil (.seq .nil (.seq .nil (.cut .nil (E10_c0 f10_c0))))))))
def F10 (f18 : T18) (f29 : T29) (f30 : T30) (f33 : T33) (f34 : T34) (f35 : T35) (f36 : T36) (f10_c0 : T10_c0) : List ((LqS × (Bool × List ((LqS × LqS))))) × LqS × Unit → Option (Bool × Unit) := fun (x0, x1, _) =>
 (f29 ()).bind fun v =>
 (f33 (x0, ())).bind fun v1 =>
 bif !v1.1 then some (v.1, ())
 else
 bif decide ((↑x1.length : Int) > 400) then some (v.1, ())
 else
 (f18 ()).bind fun v2 =>
 (f34 (x0, ())).bind fun v3 =>
 (f35 (v2.1, v2.2.1, v2.2.2.1, x0, ())).bind fun v4 =>
 bif v4.1 == 0 then
 (f30 (v2.1, v2.2.1, v2.2.2.1, v3.1, ())).bind fun v5 =>
 bif decide ((↑(List.length v3.1) : Int) > 2000) then
 bif v5.2.1 != 5 then some (false, ())
 else
 bif decide ((↑(List.length v3.1) : Int) ≤ 2000) then
 bif v5.2.1 != 0 then some (false, ())
 else
 (f36 (v5.1, x0, ())).bind fun v6 =>
 bif !v6.1 then some (false, ())
 else
 (f10_c0 (x1, v.1, v2.1, v2.2.1, v2.2.2.1, ())).bind fun v =>
 some (v.1, ())
 else
 (f10_c0 (x1, v.1, v2.1, v2.2.1, v2.2.2.1, ())).bind fun v =>
 some (v.1, ())
 else
 bif decide ((↑(List.length v3.1) : Int) ≤ 2000) then
 bif v5.2.1 != 0 then some (false, ())
 else
 (f36 (v5.1, x0, ())).bind fun v6 =>
 bif !v6.1 then some (false, ())
 else
 (f10_c0 (x1, v.1, v2.1, v2.2.1, v2.2.2.1, ())).bind fun v =>
 some (v.1, ())
 else
 (f10_c0 (x1, v.1, v2.1, v2.2.1, v2.2.2.1, ())).bind fun v =>
 some (v.1, ())
 else
 (f10_c0 (x1, v.1, v2.1, v2.2.1, v2.2.2.1, ())).bind fun v =>
 some (v.1, ())
theorem h10 (f18 : T18) (f29 : T29) (f30 : T30) (f33 : T33) (f34 : T34) (f35 : T35) (f36 : T36) (f10_c0 : T10_c0) : AqF (K10 f18 f29 f30 f33 f34 f35 f36) 0 Tryz.f10 (N10 f10_c0) f10_ins f10_outs (F10 f18 f29 f30 f33 f34 f35 f36 f10_c0) := fun v => by kernel_rfl
end Go.Proofs.YtiacnhhmkdkpmaaGreatDoorA.W
set_option linter.unusedVariables false
set_option linter.unusedSimpArgs false
namespace Go.Proofs.YtiacnhhmkdkpmaaGreatDoorA.W
open Go Go.Ae
theorem wr {n : Int} (h1 : -9223372036854775808 ≤ n) (h2 : n ≤ 9223372036854775807) : IntKind.i64.wrap n = n := by rw [IntKind.wrap_i64]; omega
theorem wrN (n : Nat) (h : n ≤ 9223372036854775806) : IntKind.i64.wrap ((n : Int) + 1) = ((n + 1 : Nat) : Int) := by rw [wr] <;> omega
theorem of_to (b : UInt8) : UInt8.ofNat b.toNat = b := by simp
theorem byte_back (b : UInt8) : UInt8.ofNat ((b.toNat : Int)).toNat = b := by simp
theorem getD_lt {α : Type} {l : List α} {i : Nat} {d : α} (h : i < l.length) : l.getD i d = l[i] := by simp [List.getD_eq_getElem?_getD, List.getElem?_eq_getElem h]
def esc1 (c : UInt8) : List UInt8 := if c.toNat = 34 ∨ c.toNat = 92 then [92, c] else [c]
def esc (s : List UInt8) : List UInt8 := s.flatMap esc1
theorem esc1_len (c : UInt8) : (esc1 c).length ≤ 2 := by unfold esc1; split <;> simp
theorem esc_len : ∀ s : List UInt8, (esc s).length ≤ 2 * s.length
  | [] => by simp [esc]
  | c :: s => by have := esc_len s; have := esc1_len c; simp [esc] at *; omega
theorem esc_append (s t : List UInt8) : esc (s ++ t) = esc s ++ esc t := by simp [esc]
theorem take_succ_get {α : Type} {s : List α} {k : Nat} (h : k < s.length) : s.take (k + 1) = s.take k ++ [s[k]] := by
  rw [List.take_add_one, List.getElem?_eq_getElem h]; rfl
theorem esc_take {s : List UInt8} {k : Nat} (h : k < s.length) : esc (s.take (k + 1)) = esc (s.take k) ++ esc1 s[k] := by
  rw [take_succ_get h, esc_append]; simp [esc]
theorem ibT {a b : Int} (h : a = b) : (a == b) = true := by simp [h]
theorem ibF {a b : Int} (h : a ≠ b) : (a == b) = false := by simp [h]
theorem inT {a b : Int} (h : a ≠ b) : (a != b) = true := by simp [h]
theorem inF {a b : Int} (h : a = b) : (a != b) = false := by simp [h]
theorem esc1_q {c : UInt8} (h : c.toNat = 34) : esc1 c = [92] ++ [c] := by simp [esc1, h]
theorem esc1_b {c : UInt8} (h : c.toNat = 92) : esc1 c = [92] ++ [c] := by simp [esc1, h]
theorem esc1_n {c : UInt8} (h : ¬ c.toNat = 34) (h2 : ¬ c.toNat = 92) : esc1 c = [c] := by simp [esc1, h, h2]
theorem r14 (s : List UInt8) (k : Nat) (acc : List UInt8) (h : k < s.length) (hb : s.length ≤ 9223372036854775806) (ha : acc.length + 2 ≤ 140737488355328) :
    F126_l0 (s, (s.length : Int), (k : Int), acc, ()) = some (.inl (s, (s.length : Int), ((k + 1 : Nat) : Int), acc ++ esc1 s[k], ())) := by
  by_cases e1 : s[k].toNat = 34
  · simp (disch := omega) only [F126_l0, decide_eq_true, cond_true, Bool.and_self, List.length_append, List.length_cons, List.length_nil, getD_lt, byte_back, wrN, Int.toNat_natCast, ibT, esc1_q, List.append_assoc, of_to]
  · by_cases e2 : s[k].toNat = 92
    · simp (disch := omega) only [F126_l0, decide_eq_true, cond_true, cond_false, Bool.and_self, List.length_append, List.length_cons, List.length_nil, getD_lt, byte_back, wrN, Int.toNat_natCast, ibT, ibF, esc1_b, List.append_assoc, of_to]
    · simp (disch := omega) only [F126_l0, decide_eq_true, cond_true, cond_false, Bool.and_self, List.length_append, List.length_cons, List.length_nil, getD_lt, byte_back, wrN, Int.toNat_natCast, ibT, ibF, esc1_n, List.append_assoc, of_to]
theorem c14 (s : List UInt8) (hb : s.length ≤ 70368744177663) : C126 (s, ()) = some (esc s, ()) := by
  have key : ∀ (k : Nat) (n : Nat), k ≤ s.length → s.length - k < n → loopN F126_l0 n (s, (s.length : Int), (k : Int), esc (s.take k), ()) = some (esc s, ()) := by
    intro k n
    induction n generalizing k with
    | zero => intro _ h; omega
    | succ n ih =>
      intro hk hn
      by_cases h : k < s.length
      · have hl := esc_len (s.take k)
        rw [loopN_inl (r14 s k _ h (by omega) (by simp only [List.length_take] at hl; omega)), ← esc_take h]
        exact ih (k + 1) (by omega) (by omega)
      · have : k = s.length := by omega
        subst this
        refine loopN_inr ?_
        simp [F126_l0]
  have := key 0 big (by omega) (by unfold big; omega)
  simp only [List.take_zero] at this
  show F126 C126_l0 (s, ()) = _
  simp only [F126, C126_l0]
  rw [show loopN F126_l0 big (s, (s.length : Int), 0, [], ()) = some (esc s, ()) from this]
  rfl
def src (k : Int) (s : List UInt8) : List UInt8 := if k = 1 then [34] ++ esc s ++ [34] else if k = 3 then [40] ++ s ++ [41] else if k = 5 then [91] ++ s ++ [93] else s
theorem c9 (k : Int) (s : List UInt8) (a : Int) (hb : s.length ≤ 3000) : C89 (k, s, a, ()) = some (src k s, ()) := by
  have hl := esc_len s
  show F89 C126 (k, s, a, ()) = _
  by_cases e1 : k = 1
  · simp (disch := omega) only [F89, c14, ibT, cond_true, decide_eq_true, List.length_append, List.length_cons, List.length_nil, Option.bind_some, src, if_pos]
  · by_cases e3 : k = 3
    · simp (disch := omega) only [F89, ibT, ibF, cond_true, cond_false, decide_eq_true, List.length_append, List.length_cons, List.length_nil, Option.bind_some, src, if_pos, if_neg]
    · by_cases e5 : k = 5
      · simp (disch := omega) only [F89, ibT, ibF, cond_true, cond_false, decide_eq_true, List.length_append, List.length_cons, List.length_nil, Option.bind_some, src, if_pos, if_neg]
      · simp (disch := omega) only [F89, ibT, ibF, cond_true, cond_false, src, if_neg]
end Go.Proofs.YtiacnhhmkdkpmaaGreatDoorA.W
set_option linter.unusedVariables false
set_option linter.unusedSimpArgs false
namespace Go.Proofs.YtiacnhhmkdkpmaaGreatDoorA.W
open Go Go.Ae
theorem all256 (p : UInt8 → Bool) (h : (List.range 256).all (fun n => p (UInt8.ofNat n)) = true) (c : UInt8) : p c = true := by
  have h1 := List.all_eq_true.1 h c.toNat (List.mem_range.2 (by have := c.toNat_lt; omega))
  simpa using h1
def gB (o : Option (Bool × Unit)) : Bool := match o with | some (b, _) => b | none => false
def okB (o : Option (Bool × Unit)) : Bool := match o with | some (_, _) => true | none => false
theorem okB_some {o : Option (Bool × Unit)} (h : okB o = true) : o = some (gB o, ()) := by
  cases o with
  | none => cases h
  | some x => rfl
def atomB (c : UInt8) : Bool := gB (C90 ((c.toNat : Int), ()))
def blankB (c : UInt8) : Bool := gB (C174 ((c.toNat : Int), ()))
def mayB (c : UInt8) : Bool := gB (C173 ((c.toNat : Int), ()))
def signI (c : UInt8) : Int := match C127 ([60, 62, 58, 59, 64, 44, 46], (c.toNat : Int), ()) with | some (i, _) => i | none => 0
def signB (c : UInt8) : Bool := decide (signI c ≥ 0)
theorem c17 (c : UInt8) : C90 ((c.toNat : Int), ()) = some (atomB c, ()) := okB_some (all256 (fun c => okB (C90 ((c.toNat : Int), ()))) (by kernel_rfl) c)
theorem c32 (c : UInt8) : C174 ((c.toNat : Int), ()) = some (blankB c, ()) := okB_some (all256 (fun c => okB (C174 ((c.toNat : Int), ()))) (by kernel_rfl) c)
theorem c31 (c : UInt8) : C173 ((c.toNat : Int), ()) = some (mayB c, ()) := okB_some (all256 (fun c => okB (C173 ((c.toNat : Int), ()))) (by kernel_rfl) c)
theorem c22s (c : UInt8) : C127 ([60, 62, 58, 59, 64, 44, 46], (c.toNat : Int), ()) = some (signI c, ()) := rfl
theorem gd {α : Type} {pre r : List α} {c d : α} {p : Nat} (h : pre.length = p) : (pre ++ c :: r).getD p d = c := by subst h; simp
theorem dr {α : Type} {pre r : List α} {p : Nat} (h : pre.length = p) : List.drop p (pre ++ r) = r := by subst h; simp
theorem shift {α : Type} (pre : List α) (c : α) (r : List α) : pre ++ c :: r = (pre ++ [c]) ++ r := by simp
theorem c27 (k e : Int) (s : List UInt8) (at_ bad err : Int) : C141 (k, e, s, at_, bad, err, ()) = some (s, at_, k, e, ()) := rfl
def al : List UInt8 → Nat
  | [] => 0
  | c :: r => bif atomB c then al r + 1 else 0
theorem al_le : ∀ r, al r ≤ r.length
  | [] => Nat.le_refl _
  | c :: r => by have := al_le r; simp only [al]; cases atomB c <;> simp; omega
theorem l21 (f bad err : Int) : ∀ (r pre : List UInt8) (p n : Nat), pre.length = p → r.length < n → p + r.length ≤ 140737488355328 →
    loopN (F136_l0 C90 C136_c0) n (f, pre ++ r, (p : Int), bad, err, ()) = some (f, pre ++ r, ((p + al r : Nat) : Int), bad, err, ())
  | [], pre, p, n + 1, hp, hn, hb => by
    refine loopN_inr ?_
    simp (disch := (first | omega | (simp only [List.length_append, List.length_cons, List.length_nil]; omega))) only [F136_l0, C136_c0, F136_c0, decide_eq_true, decide_eq_false, cond_true, cond_false, Bool.and_self, Bool.true_and, Bool.and_true, Bool.false_and, Bool.and_false, Bool.not_true, Bool.not_false, List.length_append, List.length_cons, List.length_nil, Int.toNat_natCast, ibT, ibF, inT, inF, wrN, gd, dr, Option.bind_some, Sum.elim_inl, Sum.elim_inr, byte_back, of_to, al, List.append_nil, Nat.add_zero]
  | c :: r, pre, p, n + 1, hp, hn, hb => by
    simp only [List.length_cons] at hn hb
    cases h : atomB c with
    | true =>
      rw [loopN_inl (v' := (f, pre ++ c :: r, ((p + 1 : Nat) : Int), bad, err, ())) (by simp (disch := (first | omega | (simp only [List.length_append, List.length_cons, List.length_nil]; omega))) only [F136_l0, C136_c0, F136_c0, decide_eq_true, decide_eq_false, cond_true, cond_false, Bool.and_self, Bool.true_and, Bool.and_true, Bool.false_and, Bool.and_false, Bool.not_true, Bool.not_false, List.length_append, List.length_cons, List.length_nil, Int.toNat_natCast, ibT, ibF, inT, inF, wrN, gd, dr, Option.bind_some, Sum.elim_inl, Sum.elim_inr, byte_back, of_to, c17, h])]
      rw [shift, l21 f bad err r (pre ++ [c]) (p + 1) n (by simp [hp]) (by omega) (by omega)]
      simp only [al, h, cond_true, Nat.add_assoc, Nat.add_comm 1]
    | false =>
      refine loopN_inr ?_
      simp (disch := (first | omega | (simp only [List.length_append, List.length_cons, List.length_nil]; omega))) only [F136_l0, C136_c0, F136_c0, decide_eq_true, decide_eq_false, cond_true, cond_false, Bool.and_self, Bool.true_and, Bool.and_true, Bool.false_and, Bool.and_false, Bool.not_true, Bool.not_false, List.length_append, List.length_cons, List.length_nil, Int.toNat_natCast, ibT, ibF, inT, inF, wrN, gd, dr, Option.bind_some, Sum.elim_inl, Sum.elim_inr, byte_back, of_to, c17, h, al, Nat.add_zero]
theorem c21 (pre r : List UInt8) (p : Nat) (bad err : Int) (hp : pre.length = p) (hb : p + r.length ≤ 140737488355328) :
    C136 (pre ++ r, (p : Int), bad, err, ()) = some (r.take (al r), pre ++ r, ((p + al r : Nat) : Int), bad, err, ()) := by
  have := al_le r
  show F136 C90 C136_l0 (pre ++ r, (p : Int), bad, err, ()) = _
  have hl : C136_l0 ((p : Int), pre ++ r, (p : Int), bad, err, ()) = _ := l21 p bad err r pre p big hp (by unfold big; omega) hb
  simp (disch := (first | omega | (simp only [List.length_append, List.length_cons, List.length_nil]; omega))) only [F136, hl, decide_eq_true, decide_eq_false, cond_true, cond_false, Bool.and_self, Bool.true_and, Bool.and_true, Bool.false_and, Bool.and_false, Bool.not_true, Bool.not_false, List.length_append, List.length_cons, List.length_nil, Int.toNat_natCast, ibT, ibF, inT, inF, wrN, gd, dr, Option.bind_some, Sum.elim_inl, Sum.elim_inr, byte_back, of_to]
  rw [show List.drop p (List.take (p + al r) (pre ++ r)) = r.take (al r) by rw [← hp, List.take_append, List.take_of_length_le (by omega), List.drop_append]; simp]
def wl : List UInt8 → Nat
  | [] => 0
  | c :: r => bif blankB c then wl r + 1 else
    match r with
    | b :: d :: r' => bif (c == 13 && b == 10) && blankB d then wl r' + 3 else 0
    | _ => 0
theorem wl_le : ∀ r, wl r ≤ r.length
  | [] => Nat.le_refl _
  | [c] => by simp only [wl]; cases blankB c <;> simp
  | [c, b] => by have := wl_le [b]; simp only [wl] at *; cases blankB c <;> cases blankB b <;> simp
  | c :: b :: d :: r' => by
    have h1 := wl_le (b :: d :: r')
    have h2 := wl_le r'
    rw [wl]
    cases blankB c
    · simp only [cond_false]; cases (c == 13 && b == 10) && blankB d <;> simp; omega
    · simp only [cond_true, List.length_cons] at *; omega
end Go.Proofs.YtiacnhhmkdkpmaaGreatDoorA.W
set_option linter.unusedVariables false
set_option linter.unusedSimpArgs false
namespace Go.Proofs.YtiacnhhmkdkpmaaGreatDoorA.W
open Go Go.Ae
theorem beq2 (c b : UInt8) : ([c, b] == [13, 10]) = (c == 13 && b == 10) := by
  rw [Bool.eq_iff_iff]; simp
theorem c26c (f p : Nat) (s : List UInt8) (bad err : Int) (b : Bool) (hf : f ≤ p) (hp : p ≤ s.length) (hb : p ≤ 140737488355328) :
    C140_c0 ((f : Int), b, s, (p : Int), bad, err, ()) = some (bif b then .inl ((f : Int), s, ((p + 3 : Nat) : Int), bad, err, ()) else .inr (List.drop f (List.take p s), s, (p : Int), bad, err, ())) := by
  cases b with
  | true => simp only [C140_c0, F140_c0, cond_true]; rw [wr (by omega) (by omega)]; rfl
  | false => simp (disch := (first | omega | (simp only [List.length_append, List.length_cons, List.length_nil]; omega))) only [C140_c0, F140_c0, decide_eq_true, decide_eq_false, cond_true, cond_false, Bool.and_self, Bool.true_and, Bool.and_true, Bool.false_and, Bool.and_false, Bool.not_true, Bool.not_false, List.length_append, List.length_cons, List.length_nil, Int.toNat_natCast, ibT, ibF, inT, inF, wrN, gd, dr, Option.bind_some, Sum.elim_inl, Sum.elim_inr, byte_back, of_to]
theorem wl_t {c : UInt8} {r : List UInt8} (h : blankB c = true) : wl (c :: r) = wl r + 1 := by
  match r with
  | [] => simp [wl, h]
  | [b] => simp [wl, h]
  | b :: d :: r => rw [wl, h]; rfl
theorem wl_stop {c : UInt8} {r : List UInt8} (h : blankB c = false) (h2 : r.length < 2) : wl (c :: r) = 0 := by
  match r, h2 with
  | [], _ => simp [wl, h]
  | [b], _ => simp [wl, h]
  | b :: d :: r, h2 => simp at h2; omega
theorem l26 (f : Nat) (bad err : Int) : ∀ (m : Nat) (r pre : List UInt8) (p n : Nat), r.length ≤ m → pre.length = p → r.length < n → f ≤ p → p + r.length ≤ 140737488355328 →
    loopN (F140_l0 C174 C140_c0) n ((f : Int), pre ++ r, (p : Int), bad, err, ()) = some (.inl ((f : Int), pre ++ r, ((p + wl r : Nat) : Int), bad, err, ())) ∨
    loopN (F140_l0 C174 C140_c0) n ((f : Int), pre ++ r, (p : Int), bad, err, ()) = some (.inr (List.drop f (List.take (p + wl r) (pre ++ r)), pre ++ r, ((p + wl r : Nat) : Int), bad, err, ()))
  | _, _, _, _, 0, _, _, hn, _, _ => by omega
  | m, [], pre, p, n + 1, hm, hp, hn, hf, hb => by
    refine .inl (loopN_inr ?_)
    simp (disch := (first | omega | (simp only [List.length_append, List.length_cons, List.length_nil]; omega))) only [F140_l0, decide_eq_true, decide_eq_false, cond_true, cond_false, Bool.and_self, Bool.true_and, Bool.and_true, Bool.false_and, Bool.and_false, Bool.not_true, Bool.not_false, List.length_append, List.length_cons, List.length_nil, Int.toNat_natCast, ibT, ibF, inT, inF, wrN, gd, dr, Option.bind_some, Sum.elim_inl, Sum.elim_inr, byte_back, of_to, wl, List.append_nil, Nat.add_zero]
  | 0, c :: r, pre, p, n + 1, hm, hp, hn, hf, hb => by simp at hm
  | m + 1, c :: r, pre, p, n + 1, hm, hp, hn, hf, hb => by
    simp only [List.length_cons] at hn hb hm
    cases h : blankB c with
    | true =>
      rw [loopN_inl (v' := ((f : Int), pre ++ c :: r, ((p + 1 : Nat) : Int), bad, err, ())) (by simp (disch := (first | omega | (simp only [List.length_append, List.length_cons, List.length_nil]; omega))) only [F140_l0, decide_eq_true, decide_eq_false, cond_true, cond_false, Bool.and_self, Bool.true_and, Bool.and_true, Bool.false_and, Bool.and_false, Bool.not_true, Bool.not_false, List.length_append, List.length_cons, List.length_nil, Int.toNat_natCast, ibT, ibF, inT, inF, wrN, gd, dr, Option.bind_some, Sum.elim_inl, Sum.elim_inr, byte_back, of_to, c32, h, List.getD_cons_zero])]
      rw [shift]
      have := l26 f bad err m r (pre ++ [c]) (p + 1) n (by omega) (by simp [hp]) (by omega) (by omega) (by omega)
      rw [show p + wl (c :: r) = p + 1 + wl r by rw [wl_t h]; omega]
      exact this
    | false =>
      have stop : ∀ (hw : wl (c :: r) = 0), F140_l0 C174 C140_c0 ((f : Int), pre ++ c :: r, (p : Int), bad, err, ()) = some (.inr (.inr (List.drop f (List.take p (pre ++ c :: r)), pre ++ c :: r, (p : Int), bad, err, ()))) →
          loopN (F140_l0 C174 C140_c0) (n + 1) ((f : Int), pre ++ c :: r, (p : Int), bad, err, ()) = some (.inr (List.drop f (List.take (p + wl (c :: r)) (pre ++ c :: r)), pre ++ c :: r, ((p + wl (c :: r) : Nat) : Int), bad, err, ())) := by
        intro hw h
        rw [hw]; exact loopN_inr h
      match r, hm, hn, hb with
      | [], hm, hn, hb =>
        refine .inr (stop (wl_stop h (by simp)) ?_)
        simp (disch := (first | omega | (simp only [List.length_append, List.length_cons, List.length_nil]; omega))) only [F140_l0, decide_eq_true, decide_eq_false, cond_true, cond_false, Bool.and_self, Bool.true_and, Bool.and_true, Bool.false_and, Bool.and_false, Bool.not_true, Bool.not_false, List.length_append, List.length_cons, List.length_nil, Int.toNat_natCast, ibT, ibF, inT, inF, wrN, gd, dr, Option.bind_some, Sum.elim_inl, Sum.elim_inr, byte_back, of_to, c32, h, List.getD_cons_zero, c26c]
      | [b], hm, hn, hb =>
        refine .inr (stop (wl_stop h (by simp)) ?_)
        simp only [List.length_cons, List.length_nil] at hn hb hm
        simp (disch := (first | omega | (simp only [List.length_append, List.length_cons, List.length_nil]; omega))) only [F140_l0, decide_eq_true, decide_eq_false, cond_true, cond_false, Bool.and_self, Bool.true_and, Bool.and_true, Bool.false_and, Bool.and_false, Bool.not_true, Bool.not_false, List.length_append, List.length_cons, List.length_nil, Int.toNat_natCast, ibT, ibF, inT, inF, wrN, gd, dr, Option.bind_some, Sum.elim_inl, Sum.elim_inr, byte_back, of_to, c32, h, List.getD_cons_zero, c26c]
      | b :: d :: r', hm, hn, hb =>
        simp only [List.length_cons] at hn hb hm
        cases hq : (c == 13 && b == 10) with
        | false =>
          refine .inr (stop (by rw [wl, h, hq]; rfl) ?_)
          simp (disch := (first | omega | (simp only [List.length_append, List.length_cons, List.length_nil]; omega))) only [F140_l0, decide_eq_true, decide_eq_false, cond_true, cond_false, Bool.and_self, Bool.true_and, Bool.and_true, Bool.false_and, Bool.and_false, Bool.not_true, Bool.not_false, List.length_append, List.length_cons, List.length_nil, Int.toNat_natCast, ibT, ibF, inT, inF, wrN, gd, dr, Option.bind_some, Sum.elim_inl, Sum.elim_inr, byte_back, of_to, c32, h, List.getD_cons_zero, c26c, List.take_succ_cons, List.take_zero, beq2, hq]
        | true =>
          cases hd : blankB d with
          | false =>
            refine .inr (stop (by rw [wl, h, hq, hd]; rfl) ?_)
            simp (disch := (first | omega | (simp only [List.length_append, List.length_cons, List.length_nil]; omega))) only [F140_l0, decide_eq_true, decide_eq_false, cond_true, cond_false, Bool.and_self, Bool.true_and, Bool.and_true, Bool.false_and, Bool.and_false, Bool.not_true, Bool.not_false, List.length_append, List.length_cons, List.length_nil, Int.toNat_natCast, ibT, ibF, inT, inF, wrN, gd, dr, Option.bind_some, Sum.elim_inl, Sum.elim_inr, byte_back, of_to, c32, h, List.getD_cons_zero, List.getD_cons_succ, c26c, List.take_succ_cons, List.take_zero, beq2, hq, hd]
          | true =>
            rw [loopN_inl (v' := ((f : Int), pre ++ c :: b :: d :: r', ((p + 3 : Nat) : Int), bad, err, ())) (by simp (disch := (first | omega | (simp only [List.length_append, List.length_cons, List.length_nil]; omega))) only [F140_l0, decide_eq_true, decide_eq_false, cond_true, cond_false, Bool.and_self, Bool.true_and, Bool.and_true, Bool.false_and, Bool.and_false, Bool.not_true, Bool.not_false, List.length_append, List.length_cons, List.length_nil, Int.toNat_natCast, ibT, ibF, inT, inF, wrN, gd, dr, Option.bind_some, Sum.elim_inl, Sum.elim_inr, byte_back, of_to, c32, h, List.getD_cons_zero, List.getD_cons_succ, c26c, List.take_succ_cons, List.take_zero, beq2, hq, hd])]
            have := l26 f bad err m r' (pre ++ [c, b, d]) (p + 3) n (by omega) (by simp [hp]) (by omega) (by omega) (by omega)
            rw [show p + wl (c :: b :: d :: r') = p + 3 + wl r' by rw [wl, h, hq, hd]; simp only [cond_true, cond_false, Bool.and_self]; omega]
            rw [show pre ++ c :: b :: d :: r' = (pre ++ [c, b, d]) ++ r' by simp]
            exact this
theorem text_eq {pre r : List UInt8} {p k : Nat} (hp : pre.length = p) : List.drop p (List.take (p + k) (pre ++ r)) = r.take k := by
  rw [← hp, List.take_append, List.take_of_length_le (by omega), List.drop_append]; simp
theorem c26 (pre r : List UInt8) (p : Nat) (bad err : Int) (hp : pre.length = p) (hb : p + r.length ≤ 140737488355328) :
    C140 (pre ++ r, (p : Int), bad, err, ()) = some (r.take (wl r), pre ++ r, ((p + wl r : Nat) : Int), bad, err, ()) := by
  have := wl_le r
  show F140 C174 C140_l0 (pre ++ r, (p : Int), bad, err, ()) = _
  rcases l26 p bad err r.length r pre p big (Nat.le_refl _) hp (by unfold big; omega) (Nat.le_refl _) hb with hl | hl
  · have hl' : C140_l0 ((p : Int), pre ++ r, (p : Int), bad, err, ()) = _ := hl
    simp (disch := (first | omega | (simp only [List.length_append, List.length_cons, List.length_nil]; omega))) only [F140, hl', decide_eq_true, decide_eq_false, cond_true, cond_false, Bool.and_self, Bool.true_and, Bool.and_true, Bool.false_and, Bool.and_false, Bool.not_true, Bool.not_false, List.length_append, List.length_cons, List.length_nil, Int.toNat_natCast, ibT, ibF, inT, inF, wrN, gd, dr, Option.bind_some, Sum.elim_inl, Sum.elim_inr, byte_back, of_to, text_eq]
  · have hl' : C140_l0 ((p : Int), pre ++ r, (p : Int), bad, err, ()) = _ := hl
    simp (disch := (first | omega | (simp only [List.length_append, List.length_cons, List.length_nil]; omega))) only [F140, hl', decide_eq_true, decide_eq_false, cond_true, cond_false, Bool.and_self, Bool.true_and, Bool.and_true, Bool.false_and, Bool.and_false, Bool.not_true, Bool.not_false, List.length_append, List.length_cons, List.length_nil, Int.toNat_natCast, ibT, ibF, inT, inF, wrN, gd, dr, Option.bind_some, Sum.elim_inl, Sum.elim_inr, byte_back, of_to, text_eq]
end Go.Proofs.YtiacnhhmkdkpmaaGreatDoorA.W
set_option linter.unusedVariables false
set_option linter.unusedSimpArgs false
namespace Go.Proofs.YtiacnhhmkdkpmaaGreatDoorA.W
open Go Go.Ae
inductive Tk where
  | ok (t : List UInt8) (u : Nat)
  | bad (off : Nat) (e : Int)
  | start
def Tk.push (l : List UInt8) (n : Nat) : Tk → Tk
  | .ok t u => .ok (l ++ t) (n + u)
  | .bad off e => .bad (n + off) e
  | .start => .start
def qt : List UInt8 → Tk
  | [] => .start
  | c :: r => if c.toNat = 34 then .ok [] 1 else if c.toNat = 92 then
      match r with
      | [] => .start
      | d :: r' => bif mayB d then (qt r').push [d] 2 else .bad 1 4
    else bif mayB c then (qt r).push [c] 1 else .bad 0 4
theorem qt_q {c : UInt8} {r : List UInt8} (h : c.toNat = 34) : qt (c :: r) = .ok [] 1 := by cases r <;> simp [qt, h]
theorem qt_b0 {c : UInt8} (h : c.toNat = 92) : qt [c] = .start := by simp [qt, h]
theorem qt_b1 {c d : UInt8} {r : List UInt8} (h : c.toNat = 92) : qt (c :: d :: r) = bif mayB d then (qt r).push [d] 2 else .bad 1 4 := by simp [qt, h]
theorem qt_c {c : UInt8} {r : List UInt8} (h1 : ¬ c.toNat = 34) (h2 : ¬ c.toNat = 92) : qt (c :: r) = bif mayB c then (qt r).push [c] 1 else .bad 0 4 := by cases r <;> simp [qt, h1, h2]
def resq (s : List UInt8) (a bad err : Int) (out : List UInt8) (q : Nat) : Tk → (List UInt8 × Int × Int × Int × Unit) ⊕ (List UInt8 × List UInt8 × Int × Int × Int × Unit)
  | .ok t u => .inr (out ++ t, s, ((q + u : Nat) : Int), bad, err, ())
  | .bad off e => .inr ([], s, a, ((q + off : Nat) : Int), e, ())
  | .start => .inl (s, a, bad, err, ())
theorem resq_push (s : List UInt8) (a bad err : Int) (out : List UInt8) (q : Nat) (l : List UInt8) (n : Nat) (k : Tk) : resq s a bad err out q (k.push l n) = resq s a bad err (out ++ l) (q + n) k := by
  cases k <;> simp [Tk.push, resq, Nat.add_assoc]
theorem c23c (pre r out : List UInt8) (d : UInt8) (q : Nat) (a bad err : Int) (hq : pre.length = q) (hb : q + r.length ≤ 140737488355320) (ho : out.length + 1 ≤ 140737488355328) :
    C137_c0 ((q : Int), pre ++ d :: r, a, bad, err, out, ()) = some (bif mayB d then .inr ((q : Int), pre ++ d :: r, a, bad, err, out ++ [d], ()) else .inl ([], pre ++ d :: r, a, (q : Int), 4, ())) := by
  cases h : mayB d <;> simp (disch := (first | omega | (simp only [List.length_append, List.length_cons, List.length_nil]; omega))) only [C137_c0, F137_c0, decide_eq_true, decide_eq_false, cond_true, cond_false, Bool.and_self, Bool.true_and, Bool.and_true, Bool.false_and, Bool.and_false, Bool.not_true, Bool.not_false, List.length_append, List.length_cons, List.length_nil, Int.toNat_natCast, ibT, ibF, inT, inF, wrN, gd, dr, Option.bind_some, Sum.elim_inl, Sum.elim_inr, byte_back, of_to, c31, c27, h]
theorem l23 (a bad err : Int) : ∀ (m : Nat) (r pre out : List UInt8) (q n : Nat), r.length ≤ m → pre.length = q → r.length < n → q + r.length ≤ 140737488355320 → out.length + r.length ≤ 140737488355320 →
    loopN (F137_l0 C141 C173 C137_c0) n ((q : Int), pre ++ r, a, bad, err, out, ()) = some (resq (pre ++ r) a bad err out q (qt r))
  | _, _, _, _, _, 0, _, _, hn, _, _ => by omega
  | m, [], pre, out, q, n + 1, hm, hq, hn, hb, ho => by
    refine loopN_inr ?_
    simp (disch := (first | omega | (simp only [List.length_append, List.length_cons, List.length_nil]; omega))) only [F137_l0, decide_eq_true, decide_eq_false, cond_true, cond_false, Bool.and_self, Bool.true_and, Bool.and_true, Bool.false_and, Bool.and_false, Bool.not_true, Bool.not_false, List.length_append, List.length_cons, List.length_nil, Int.toNat_natCast, ibT, ibF, inT, inF, wrN, gd, dr, Option.bind_some, Sum.elim_inl, Sum.elim_inr, byte_back, of_to, List.append_nil, qt, resq]
  | 0, c :: r, pre, out, q, n + 1, hm, hq, hn, hb, ho => by simp at hm
  | m + 1, c :: r, pre, out, q, n + 1, hm, hq, hn, hb, ho => by
    simp only [List.length_cons] at hn hb hm ho
    by_cases e1 : c.toNat = 34
    · refine loopN_inr ?_
      rw [qt_q e1]
      simp (disch := (first | omega | (simp only [List.length_append, List.length_cons, List.length_nil]; omega))) only [F137_l0, decide_eq_true, decide_eq_false, cond_true, cond_false, Bool.and_self, Bool.true_and, Bool.and_true, Bool.false_and, Bool.and_false, Bool.not_true, Bool.not_false, List.length_append, List.length_cons, List.length_nil, Int.toNat_natCast, ibT, ibF, inT, inF, wrN, gd, dr, Option.bind_some, Sum.elim_inl, Sum.elim_inr, byte_back, of_to, resq, List.append_nil]
    · by_cases e2 : c.toNat = 92
      · match r, hm, hn, hb, ho with
        | [], hm, hn, hb, ho =>
          refine loopN_inr ?_
          rw [qt_b0 e2]
          simp (disch := (first | omega | (simp only [List.length_append, List.length_cons, List.length_nil]; omega))) only [F137_l0, decide_eq_true, decide_eq_false, cond_true, cond_false, Bool.and_self, Bool.true_and, Bool.and_true, Bool.false_and, Bool.and_false, Bool.not_true, Bool.not_false, List.length_append, List.length_cons, List.length_nil, Int.toNat_natCast, ibT, ibF, inT, inF, wrN, gd, dr, Option.bind_some, Sum.elim_inl, Sum.elim_inr, byte_back, of_to, resq, List.append_nil]
        | d :: r', hm, hn, hb, ho =>
          simp only [List.length_cons] at hn hb hm ho
          have hc := c23c (pre ++ [c]) r' out d (q + 1) a bad err (by simp [hq]) (by omega) (by omega)
          rw [← shift] at hc
          rw [qt_b1 e2]
          cases h : mayB d with
          | true =>
            rw [h] at hc
            simp only [cond_true] at hc ⊢
            rw [loopN_inl (v' := (((q + 2 : Nat) : Int), pre ++ c :: d :: r', a, bad, err, out ++ [d], ())) (by
              simp (disch := (first | omega | (simp only [List.length_append, List.length_cons, List.length_nil]; omega))) only [F137_l0, decide_eq_true, decide_eq_false, cond_true, cond_false, Bool.and_self, Bool.true_and, Bool.and_true, Bool.false_and, Bool.and_false, Bool.not_true, Bool.not_false, List.length_append, List.length_cons, List.length_nil, Int.toNat_natCast, ibT, ibF, inT, inF, wrN, gd, dr, Option.bind_some, Sum.elim_inl, Sum.elim_inr, byte_back, of_to, hc])]
            have := l23 a bad err m r' (pre ++ [c, d]) (out ++ [d]) (q + 2) n (by omega) (by simp [hq]) (by omega) (by omega) (by simp; omega)
            rw [show pre ++ c :: d :: r' = (pre ++ [c, d]) ++ r' by simp, this, ← resq_push]
          | false =>
            rw [h] at hc
            simp only [cond_false] at hc ⊢
            refine loopN_inr ?_
            simp (disch := (first | omega | (simp only [List.length_append, List.length_cons, List.length_nil]; omega))) only [F137_l0, decide_eq_true, decide_eq_false, cond_true, cond_false, Bool.and_self, Bool.true_and, Bool.and_true, Bool.false_and, Bool.and_false, Bool.not_true, Bool.not_false, List.length_append, List.length_cons, List.length_nil, Int.toNat_natCast, ibT, ibF, inT, inF, wrN, gd, dr, Option.bind_some, Sum.elim_inl, Sum.elim_inr, byte_back, of_to, hc, resq]
      · have hc := c23c pre r out c q a bad err hq (by omega) (by omega)
        rw [qt_c e1 e2]
        cases h : mayB c with
        | true =>
          rw [h] at hc
          simp only [cond_true] at hc ⊢
          rw [loopN_inl (v' := (((q + 1 : Nat) : Int), pre ++ c :: r, a, bad, err, out ++ [c], ())) (by
            simp (disch := (first | omega | (simp only [List.length_append, List.length_cons, List.length_nil]; omega))) only [F137_l0, decide_eq_true, decide_eq_false, cond_true, cond_false, Bool.and_self, Bool.true_and, Bool.and_true, Bool.false_and, Bool.and_false, Bool.not_true, Bool.not_false, List.length_append, List.length_cons, List.length_nil, Int.toNat_natCast, ibT, ibF, inT, inF, wrN, gd, dr, Option.bind_some, Sum.elim_inl, Sum.elim_inr, byte_back, of_to, hc])]
          have := l23 a bad err m r (pre ++ [c]) (out ++ [c]) (q + 1) n (by omega) (by simp [hq]) (by omega) (by omega) (by simp; omega)
          rw [shift, this, ← resq_push]
        | false =>
          rw [h] at hc
          simp only [cond_false] at hc ⊢
          refine loopN_inr ?_
          simp (disch := (first | omega | (simp only [List.length_append, List.length_cons, List.length_nil]; omega))) only [F137_l0, decide_eq_true, decide_eq_false, cond_true, cond_false, Bool.and_self, Bool.true_and, Bool.and_true, Bool.false_and, Bool.and_false, Bool.not_true, Bool.not_false, List.length_append, List.length_cons, List.length_nil, Int.toNat_natCast, ibT, ibF, inT, inF, wrN, gd, dr, Option.bind_some, Sum.elim_inl, Sum.elim_inr, byte_back, of_to, hc, resq, Nat.add_zero]
def fin (s : List UInt8) (p : Nat) (bad err : Int) (q : Nat) : Tk → List UInt8 × List UInt8 × Int × Int × Int × Unit
  | .ok t u => (t, s, ((q + u : Nat) : Int), bad, err, ())
  | .bad off e => ([], s, (p : Int), ((q + off : Nat) : Int), e, ())
  | .start => ([], s, (p : Int), (p : Int), 4, ())
theorem c23 (pre r : List UInt8) (c : UInt8) (p : Nat) (bad err : Int) (hp : pre.length = p) (hb : p + r.length ≤ 140737488355000) :
    C137 (pre ++ c :: r, (p : Int), bad, err, ()) = some (fin (pre ++ c :: r) p bad err (p + 1) (qt r)) := by
  show F137 C141 C173 C137_l0 (pre ++ c :: r, (p : Int), bad, err, ()) = _
  have hl := l23 p bad err r.length r (pre ++ [c]) [] (p + 1) big (Nat.le_refl _) (by simp [hp]) (by unfold big; omega) (by omega) (by simp; omega)
  rw [← shift] at hl
  have hl' : C137_l0 (((p + 1 : Nat) : Int), pre ++ c :: r, (p : Int), bad, err, [], ()) = _ := hl
  cases hq : qt r <;> rw [hq] at hl' <;> simp (disch := (first | omega | (simp only [List.length_append, List.length_cons, List.length_nil]; omega))) only [F137, decide_eq_true, decide_eq_false, cond_true, cond_false, Bool.and_self, Bool.true_and, Bool.and_true, Bool.false_and, Bool.and_false, Bool.not_true, Bool.not_false, List.length_append, List.length_cons, List.length_nil, Int.toNat_natCast, ibT, ibF, inT, inF, wrN, gd, dr, Option.bind_some, Sum.elim_inl, Sum.elim_inr, byte_back, of_to, hl', resq, fin, c27, List.nil_append]
def ltk : List UInt8 → Tk
  | [] => .start
  | c :: r => if c.toNat = 93 then .ok [] 1 else if c.toNat = 91 then .bad 0 4 else if c.toNat = 92 then .bad 0 4 else
      bif blankB c then .bad 0 4 else bif mayB c then (ltk r).push [c] 1 else .bad 0 4
def resl (s : List UInt8) (a bad err : Int) (from_ : Nat) (q : Nat) : Tk → (List UInt8 × Int × Int × Int × Unit) ⊕ (List UInt8 × List UInt8 × Int × Int × Int × Unit)
  | .ok t u => .inr (List.drop from_ (List.take (q + t.length) s), s, ((q + u : Nat) : Int), bad, err, ())
  | .bad off e => .inr ([], s, a, ((q + off : Nat) : Int), e, ())
  | .start => .inl (s, a, bad, err, ())
theorem resl_push (s : List UInt8) (a bad err : Int) (f q : Nat) (l : List UInt8) (n : Nat) (hl : l.length = n) (k : Tk) : resl s a bad err f q (k.push l n) = resl s a bad err f (q + n) k := by
  cases k <;> simp [Tk.push, resl, Nat.add_assoc, hl]
theorem l24 (a : Nat) (bad err : Int) : ∀ (r pre : List UInt8) (q n : Nat), pre.length = q → a + 1 ≤ q → r.length < n → q + r.length ≤ 140737488355320 →
    loopN (F138_l0 C141 C173 C174 C138_c0) n ((q : Int), pre ++ r, (a : Int), bad, err, ()) = some (resl (pre ++ r) a bad err (a + 1) q (ltk r))
  | _, _, _, 0, _, _, hn, _ => by omega
  | [], pre, q, n + 1, hq, ha, hn, hb => by
    refine loopN_inr ?_
    simp (disch := (first | omega | (simp only [List.length_append, List.length_cons, List.length_nil]; omega))) only [F138_l0, C138_c0, F138_c0, decide_eq_true, decide_eq_false, cond_true, cond_false, Bool.and_self, Bool.true_and, Bool.and_true, Bool.false_and, Bool.and_false, Bool.not_true, Bool.not_false, List.length_append, List.length_cons, List.length_nil, Int.toNat_natCast, ibT, ibF, inT, inF, wrN, gd, dr, Option.bind_some, Sum.elim_inl, Sum.elim_inr, byte_back, of_to, List.append_nil, ltk, resl]
  | c :: r, pre, q, n + 1, hq, ha, hn, hb => by
    simp only [List.length_cons] at hn hb
    by_cases e1 : c.toNat = 93
    · refine loopN_inr ?_
      simp (disch := (first | omega | (simp only [List.length_append, List.length_cons, List.length_nil]; omega))) only [F138_l0, C138_c0, F138_c0, decide_eq_true, decide_eq_false, cond_true, cond_false, Bool.and_self, Bool.true_and, Bool.and_true, Bool.false_and, Bool.and_false, Bool.not_true, Bool.not_false, List.length_append, List.length_cons, List.length_nil, Int.toNat_natCast, ibT, ibF, inT, inF, wrN, gd, dr, Option.bind_some, Sum.elim_inl, Sum.elim_inr, byte_back, of_to, ltk, if_pos, resl, Nat.add_zero]
    · by_cases e2 : c.toNat = 91
      · refine loopN_inr ?_
        simp (disch := (first | omega | (simp only [List.length_append, List.length_cons, List.length_nil]; omega))) only [F138_l0, C138_c0, F138_c0, decide_eq_true, decide_eq_false, cond_true, cond_false, Bool.and_self, Bool.true_and, Bool.and_true, Bool.false_and, Bool.and_false, Bool.not_true, Bool.not_false, List.length_append, List.length_cons, List.length_nil, Int.toNat_natCast, ibT, ibF, inT, inF, wrN, gd, dr, Option.bind_some, Sum.elim_inl, Sum.elim_inr, byte_back, of_to, ltk, if_pos, if_neg, resl, Nat.add_zero, c27]
      · by_cases e3 : c.toNat = 92
        · refine loopN_inr ?_
          simp (disch := (first | omega | (simp only [List.length_append, List.length_cons, List.length_nil]; omega))) only [F138_l0, C138_c0, F138_c0, decide_eq_true, decide_eq_false, cond_true, cond_false, Bool.and_self, Bool.true_and, Bool.and_true, Bool.false_and, Bool.and_false, Bool.not_true, Bool.not_false, List.length_append, List.length_cons, List.length_nil, Int.toNat_natCast, ibT, ibF, inT, inF, wrN, gd, dr, Option.bind_some, Sum.elim_inl, Sum.elim_inr, byte_back, of_to, ltk, if_pos, if_neg, resl, Nat.add_zero, c27]
        · cases h1 : blankB c with
          | true =>
            refine loopN_inr ?_
            simp (disch := (first | omega | (simp only [List.length_append, List.length_cons, List.length_nil]; omega))) only [F138_l0, C138_c0, F138_c0, decide_eq_true, decide_eq_false, cond_true, cond_false, Bool.and_self, Bool.true_and, Bool.and_true, Bool.false_and, Bool.and_false, Bool.not_true, Bool.not_false, List.length_append, List.length_cons, List.length_nil, Int.toNat_natCast, ibT, ibF, inT, inF, wrN, gd, dr, Option.bind_some, Sum.elim_inl, Sum.elim_inr, byte_back, of_to, ltk, if_pos, if_neg, resl, Nat.add_zero, c27, c32, h1]
          | false =>
            cases h2 : mayB c with
            | false =>
              refine loopN_inr ?_
              simp (disch := (first | omega | (simp only [List.length_append, List.length_cons, List.length_nil]; omega))) only [F138_l0, C138_c0, F138_c0, decide_eq_true, decide_eq_false, cond_true, cond_false, Bool.and_self, Bool.true_and, Bool.and_true, Bool.false_and, Bool.and_false, Bool.not_true, Bool.not_false, List.length_append, List.length_cons, List.length_nil, Int.toNat_natCast, ibT, ibF, inT, inF, wrN, gd, dr, Option.bind_some, Sum.elim_inl, Sum.elim_inr, byte_back, of_to, ltk, if_pos, if_neg, resl, Nat.add_zero, c27, c32, c31, h1, h2]
            | true =>
              rw [loopN_inl (v' := (((q + 1 : Nat) : Int), pre ++ c :: r, (a : Int), bad, err, ())) (by
                simp (disch := (first | omega | (simp only [List.length_append, List.length_cons, List.length_nil]; omega))) only [F138_l0, C138_c0, F138_c0, decide_eq_true, decide_eq_false, cond_true, cond_false, Bool.and_self, Bool.true_and, Bool.and_true, Bool.false_and, Bool.and_false, Bool.not_true, Bool.not_false, List.length_append, List.length_cons, List.length_nil, Int.toNat_natCast, ibT, ibF, inT, inF, wrN, gd, dr, Option.bind_some, Sum.elim_inl, Sum.elim_inr, byte_back, of_to, c32, c31, h1, h2])]
              have := l24 a bad err r (pre ++ [c]) (q + 1) n (by simp [hq]) (by omega) (by omega) (by omega)
              rw [shift, this, ← resl_push (l := [c]) (n := 1) _ _ _ _ _ _ rfl]
              simp only [ltk, if_neg e1, if_neg e2, if_neg e3, h1, h2, cond_true, cond_false]
theorem ltk_ok : ∀ {r t : List UInt8} {u : Nat}, ltk r = .ok t u → u = t.length + 1 ∧ t.length < r.length ∧ r.take t.length = t
  | [], t, u, h => by simp [ltk] at h
  | c :: r, t, u, h => by
    unfold ltk at h
    split at h
    · cases h; simp
    · split at h
      · cases h
      · split at h
        · cases h
        · cases h1 : blankB c <;> cases h2 : mayB c <;> rw [h1, h2] at h <;> simp only [cond_true, cond_false] at h <;> try (cases h; done)
          cases hr : ltk r with
          | ok t' u' =>
            rw [hr] at h
            cases h
            obtain ⟨i1, i2, i3⟩ := ltk_ok hr
            exact ⟨by simp; omega, by simpa using i2, by simpa using i3⟩
          | bad o e => rw [hr] at h; cases h
          | start => rw [hr] at h; cases h
theorem c24 (pre r : List UInt8) (c : UInt8) (p : Nat) (bad err : Int) (hp : pre.length = p) (hb : p + r.length ≤ 140737488355000) :
    C138 (pre ++ c :: r, (p : Int), bad, err, ()) = some (fin (pre ++ c :: r) p bad err (p + 1) (ltk r)) := by
  show F138 C141 C173 C174 C138_l0 (pre ++ c :: r, (p : Int), bad, err, ()) = _
  have hl := l24 p bad err r (pre ++ [c]) (p + 1) big (by simp [hp]) (by omega) (by unfold big; omega) (by omega)
  rw [← shift] at hl
  have hl' : C138_l0 (((p + 1 : Nat) : Int), pre ++ c :: r, (p : Int), bad, err, ()) = _ := hl
  cases hq : ltk r with
  | ok t u =>
    rw [hq] at hl'
    obtain ⟨i1, i2, i3⟩ := ltk_ok hq
    simp (disch := (first | omega | (simp only [List.length_append, List.length_cons, List.length_nil]; omega))) only [F138, decide_eq_true, decide_eq_false, cond_true, cond_false, Bool.and_self, Bool.true_and, Bool.and_true, Bool.false_and, Bool.and_false, Bool.not_true, Bool.not_false, List.length_append, List.length_cons, List.length_nil, Int.toNat_natCast, ibT, ibF, inT, inF, wrN, gd, dr, Option.bind_some, Sum.elim_inl, Sum.elim_inr, byte_back, of_to, hl', resl, fin]
    rw [shift, text_eq (by simp [hp]), i3]
  | bad o e => rw [hq] at hl'; simp (disch := (first | omega | (simp only [List.length_append, List.length_cons, List.length_nil]; omega))) only [F138, decide_eq_true, decide_eq_false, cond_true, cond_false, Bool.and_self, Bool.true_and, Bool.and_true, Bool.false_and, Bool.and_false, Bool.not_true, Bool.not_false, List.length_append, List.length_cons, List.length_nil, Int.toNat_natCast, ibT, ibF, inT, inF, wrN, gd, dr, Option.bind_some, Sum.elim_inl, Sum.elim_inr, byte_back, of_to, hl', resl, fin]
  | start => rw [hq] at hl'; simp (disch := (first | omega | (simp only [List.length_append, List.length_cons, List.length_nil]; omega))) only [F138, decide_eq_true, decide_eq_false, cond_true, cond_false, Bool.and_self, Bool.true_and, Bool.and_true, Bool.false_and, Bool.and_false, Bool.not_true, Bool.not_false, List.length_append, List.length_cons, List.length_nil, Int.toNat_natCast, ibT, ibF, inT, inF, wrN, gd, dr, Option.bind_some, Sum.elim_inl, Sum.elim_inr, byte_back, of_to, hl', resl, fin, c27]
end Go.Proofs.YtiacnhhmkdkpmaaGreatDoorA.W
