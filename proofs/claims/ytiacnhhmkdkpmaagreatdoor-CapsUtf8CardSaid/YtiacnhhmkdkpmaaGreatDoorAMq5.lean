/- The texts of the proof, one behind the other: XDom, W9, W10, W11, W12, W13, W14, WC, PB, PD0, PD1, PCapsUtf8, PGlob. -/
import Derived.Test.YtiacnhhmkdkpmaaGreatDoorAMq4
import Derived.Test.YtiacnhhmkdkpmaaGreatDoorAMq3
import Derived.RangeFuncBox
import Derived.OwnWalkIn
import Derived.TacticsInMore
import Derived.LoopNIn
import Derived.LoopIn
import Derived.Sort.LoopGhostIn
import Derived.Maps.AppendAt
import Derived.Test.YtiacnhhmkdkpmaaGreatDoorAMq2
import Derived.Test.YtiacnhhmkdkpmaaGreatDoorRows
import Derived.Test.YtiacnhhmkdkpmaaGreatDoorProg
import Derived.MakeChecks
set_option linter.unusedVariables false
set_option maxRecDepth 100000
namespace Go.Proofs.YtiacnhhmkdkpmaaGreatDoorA.W
open Go Go.Ae Go.RowKit
attribute [local go_sem] Oper.semAt_some
theorem cut_call {s sep l r : List UInt8} {ok : Bool} (h : C129 (s, sep, ()) = some (l, r, ok, ())) {w : World} (hg : GI w m0) :
    Calls Tryz.prog 129 #[.string ⟨⟨s⟩⟩, .string ⟨⟨sep⟩⟩] w fun e w' => e = .returned (.tuple #[.string ⟨⟨l⟩⟩, .string ⟨⟨r⟩⟩, .bool ok]) ∧ Below w.heap.size w w' := by
  refine (FnOk.call0 (v := (s, sep, ())) (y := (l, r, ok, ())) ok129 Tryz.func129 (by kernel_rfl) (by kernel_rfl) hg (fun _ h => h.elim) rfl ⟨_, _, rfl, rfl, _, _, rfl, rfl, rfl⟩ rfl h ?_).mono fun e w' ⟨rv, h1, h2, ax, l', u, h3, h4⟩ => ?_
  · intro ax l' u h3
    cases osel_one_inv h3
    rfl
  · cases osel_one_inv h3
    obtain ⟨v, r', e1, ⟨a, e2, e3⟩, e4⟩ := h4
    have e4' : r' = [] := e4
    subst e4'
    cases e1
    subst h1 e2
    refine ⟨?_, h2⟩
    obtain ⟨v1, q1, f1, rfl, v2, q2, f2, rfl, v3, q3, f3, rfl, f4⟩ := e3
    have f4' : q3 = [] := f4
    subst f4' f3 f2
    cases a
    cases f1
    rfl
def partsC : Nat → List UInt8 → Option (List (List UInt8))
  | 0, _ => none
  | n + 1, s => (C129 (s, [46], ())).bind fun a => bif a.2.2.1 then (partsC n a.2.1).map (a.1 :: ·) else some [a.1]
theorem box_of_block {W W' : World} {b : Nat} {t : TypeId} {v : Value} (h : Boxed W b t v) (hk : W'.heap[b]? = W.heap[b]?) : Boxed W' b t v := hk.trans h
set_option maxHeartbeats 4000000 in
theorem parts_seq (n : Nat) (hn : 1 ≤ n) (Bs : Nat) (s : List UInt8) (xs : List (List UInt8)) (N : Nat) (hxs : partsC N s = some xs) (w : World) (hb : Boxed w Bs 9 (.string ⟨⟨s⟩⟩)) (hg : GI w m0) (hnb : ∀ b ∈ GlobB, b ≠ Bs) :
    SeqD Fence.wide n Tryz.prog 222 #[.pointer (some ⟨Bs, 0, none⟩)] (fun x : List UInt8 => #[.string ⟨⟨x⟩⟩]) (fun b => b = Bs ∨ b ∈ GlobB) Bs xs w := by
  intro l J Jx W hW hJ hJx hY h0
  have hb' : Boxed W Bs 9 (.string ⟨⟨s⟩⟩) := (hW.block Bs hb.lt).trans hb
  have hg' : GI W m0 := gi_below hg hW
  refine callsIn_of_wp Tryz.func222 rfl trivial ?_ rfl
  simp only [Tryz.ntmps222, List.size_toArray, List.length_cons, List.length_nil, Nat.reduceAdd, Nat.reduceSub, Array.replicate_succ, Array.replicate_zero, List.push_toArray, List.append_toArray, List.nil_append, List.cons_append]
  gi_wp2
  gi_loopg [] N (fun k wr => ∃ (pre t : List (List UInt8)) (rest : List UInt8), xs = pre ++ t ∧ partsC k rest = some t ∧ J pre wr ∧ Boxed wr Bs 9 (.string ⟨⟨rest⟩⟩) ∧ GI wr m0)
  case atStart => exact ⟨[], xs, s, rfl, hxs, h0, hb', hg'⟩
  case round =>
    rename_i JJ KK hJJ hKK
    obtain ⟨pre, t, rest, hx, hp, hJs, hbx, hgr⟩ := hrel
    cases gk with
    | zero => cases hp
    | succ k =>
      simp only [partsC] at hp
      obtain ⟨⟨lf, rt, ok, u⟩, hc, hp2⟩ := Option.bind_eq_some_iff.1 hp
      simp only at hp2
      have hcell := hbx.cell
      have hpre : pre ++ [lf] <+: xs := by
        rw [hx]
        cases ok with
        | true =>
          obtain ⟨t', h1, rfl⟩ := Option.map_eq_some_iff.1 hp2
          exact ⟨t', by simp⟩
        | false =>
          have : t = [lf] := (Option.some.inj hp2).symm
          exact ⟨[], by simp [this]⟩
      gi_wp2_with (refine ⟨trivial, ?_⟩; gi_at_call 129; refine (callsIn_wide.2 (cut_call hc hgr)).mono ?_; rintro e w' ⟨rfl, hbel⟩; obtain ⟨fn, tmps, assign, body, hy, hR⟩ := hY pre lf w' hpre (hJ _ _ _ hJs (Oth.of_below hbel)))
      refine hR.mono ?_
      rintro e W3 (⟨rfl, hJ3, hs3, hk3⟩ | ⟨rfl, hJx3⟩)
      · have hbx3 : Boxed W3 Bs 9 (.string ⟨⟨rest⟩⟩) := (hk3 Bs (.inl rfl)).trans ((hbel.block Bs hbx.lt).trans hbx)
        have hg3 : GI W3 m0 := gi_keep (gi_below hgr hbel) hs3 fun b hb => hk3 b (.inr hb)
        have hc3 := hbx3.cell
        have hf3 := hbx3.frozen
        cases ok with
        | true =>
          obtain ⟨t', h1, rfl⟩ := Option.map_eq_some_iff.1 hp2
          gi_wp2
          gi_roundg k
          case rel => exact ⟨pre ++ [lf], t', rt, by simp [hx], h1, hJ _ _ _ hJ3 (Oth.set Bs 0 W3 _), Boxed.set _ hbx3, gi_keep hg3 (by simp) fun b hb => Below.heap_setCell _ _ _ _ (hnb b hb)⟩
          case measure => omega
        | false =>
          have ht : t = [lf] := (Option.some.inj hp2).symm
          subst ht
          gi_wp2
          refine bodyPost_ret (results_none rfl _ _ _) rfl ?_
          exact ⟨⟨_, rfl⟩, .inl (hx ▸ hJ3)⟩
      · gi_wp2
        refine bodyPost_ret (results_none rfl _ _ _) rfl ?_
        exact ⟨⟨_, rfl⟩, .inr ⟨_, hpre, hJx3⟩⟩
def encS (x : List UInt8) : Value := .string ⟨⟨x⟩⟩
theorem ownsRow_oth {N Bs base : Nat} {A B : World} {e : TypeId} {size k : Nat} {v : Value} {xs : List Value} (hBs : Bs < base) (h : A.ownsRow base e size v k xs) (ho : OthR N Bs A B) : B.ownsRow base e size v k xs := by
  refine ⟨h.1, ?_⟩
  rcases h.2 with h | ⟨g, cap, cur, e1, h2, h3, h4⟩
  · exact .inl h
  · exact .inr ⟨g, cap, cur, e1, h2, ho.keep g _ h3 (by omega) (.inr rfl), h4⟩
theorem oth_othR {N Bs : Nat} {W0 A B : World} (hN : W0.heap.size ≤ N) (h : Oth Bs W0 A) (ho : OthR N Bs A B) : Oth Bs W0 B :=
  ⟨ho.os.trans h.os, ho.tape.trans h.tape, ho.output.trans h.output, Nat.le_trans h.size ho.size, fun b hb hne => by
    have h1 := h.keep b hb hne
    obtain ⟨o, h2⟩ : ∃ o, W0.heap[b]? = some o := ⟨_, Array.getElem?_eq_getElem hb⟩
    rw [h2] at h1 ⊢
    exact ho.keep b o h1 hne (.inl (by omega))⟩
theorem info_string : (Tryz.prog.info? 9).map (fun i => (i.zero, i.size, i.bytes)) = some (some (.string ⟨#[]⟩), 1, 16) := by kernel_rfl
set_option maxHeartbeats 4000000 in
theorem gather_walk (gf : Nat) (hgf : ∀ args w, (callFunc gf args).run Tryz.prog w = .ok (.enter gf args) w) (Bs : Nat) (xs : List (List UInt8)) (w : World) (hBs : Bs < w.heap.size) (hg : GI w m0) (hlen : xs.length ≤ 1000000000000)
    (hseq : ∀ W, Below w.heap.size w W → SeqD Fence.wide 2 Tryz.prog gf #[.pointer (some ⟨Bs, 0, none⟩)] (fun x : List UInt8 => #[Value.string ⟨⟨x⟩⟩]) (fun b => b = Bs ∨ b ∈ GlobB) Bs xs W) :
    CallsIn Fence.wide 3 Tryz.prog 221 #[.slice none 0 0, .func (.func gf) #[] #[.pointer (some ⟨Bs, 0, none⟩)]] w fun e W' =>
      ∃ v, e = .returned v ∧ W'.ownsRow w.heap.size 9 1 v xs.length (xs.map encS) ∧ Oth Bs w W' := by
  obtain ⟨i0, hi, hz0, hz1, hz2⟩ := info_parts info_string
  refine callsIn_of_wp_marks Tryz.func221 rfl trivial ?_ rfl
  simp only [Tryz.ntmps221, List.size_toArray, List.length_cons, List.length_nil, Nat.reduceAdd, Nat.reduceSub, Array.replicate_succ, Array.replicate_zero, List.push_toArray, List.append_toArray, List.nil_append, List.cons_append]
  gi_wp2
  have hB0 : Below w.heap.size w (w.alloc (.cells #[.slice none 0 0] 89)) := (Below.refl _ w).alloc (Nat.le_refl _) _
  refine wpIn_rangeFunc_dir (F := Fence.wide) rfl (by omega) (gf := gf) (lb := #[.pointer (some ⟨Bs, 0, none⟩)]) rfl trivial hgf (hseq _ hB0)
    (by rintro b (rfl | hb); · (rw [World.size_alloc]; omega)
        · (have := (hg.b b hb).1; rw [World.size_alloc]; omega)) (by rw [World.size_alloc]; omega) (fun _ => rfl)
    (fun pre W => (∃ v, Boxed W w.heap.size 89 v ∧ W.ownsRow w.heap.size 9 1 v pre.length (pre.map encS)) ∧ Oth Bs w W)
    (fun _ _ _ => False)
    (fun s A B hs ho => by
      obtain ⟨⟨v, h1, h2⟩, h3⟩ := hs
      exact ⟨⟨v, boxed_oth h1 (by omega) ho, ownsRow_oth hBs h2 ho⟩, oth_othR (by rw [World.size_alloc]; omega) h3 ho⟩)
    (fun _ _ _ _ hs _ => hs)
    ⟨⟨_, Boxed.new _ _ _, World.ownsRow_nil _ _ _ _⟩, Oth.of_below hB0⟩
    (fun x => { tmps := #[.slice none 0 0, .func (.func gf) #[] #[.pointer (some ⟨Bs, 0, none⟩)], .pointer (some ⟨w.heap.size, 0, none⟩), undef, .slice none 0 0, .string ⟨⟨x⟩⟩, .func (.func gf) #[] #[.pointer (some ⟨Bs, 0, none⟩)], .string ⟨⟨x⟩⟩, undef, undef, undef, undef, undef], defers := [] }) ?assign ?body ?done ?stop
  case assign =>
    intro l x W K hK
    gi_wp2
    exact hK
  case body =>
    rintro l pre x W hsz hpre ⟨⟨v, hv, hrow⟩, hoth⟩
    have hc := hv.cell
    have hpl : pre.length < xs.length := by have := hpre.length_le; simp at this; omega
    have hsz2 := hoth.size
    gi_wp2_with (gi_at_builtin; refine wpListIn_append_own _ rfl _ _ 89 rfl w.heap.size 9 i0 (.string ⟨#[]⟩) 1 16 Tryz.underlying89 hi hz0 hz1 hz2 rfl (by decide) _ _ _ rfl (hrow.alloc _) ⟨W.heap.size, 0, none⟩ 1 1 [.string ⟨⟨x⟩⟩] rfl rfl (cell_one_new _ _ _) (by simp [Value.oneCell']) (by simp only [maxLen]; omega) (by omega) (by simp; omega) ?_; intro v' w1 hown' hgrow _; obtain ⟨g', cap', rfl⟩ := ownsRow_succ hown'; obtain ⟨hv1, hv2, hr2, hk2, hb2⟩ := hv.appended (by decide) hrow hsz2 (Nat.le_refl _) hown' hgrow; have hc1 := hv1.cell; have hf1 := hv1.frozen)
    exact ⟨hk2.from _, fun b hb => hb2.block b (by
        rcases hb with rfl | hb
        · exact hBs
        · exact (hg.b b hb).1), ⟨_, hv2, by simpa [encS] using hr2⟩, hb2.os.trans hoth.os, hb2.tape.trans hoth.tape, hb2.output.trans hoth.output, Nat.le_trans hoth.size hb2.size, fun b hb hne => (hb2.block b hb).trans (hoth.keep b hb hne)⟩
  case done =>
    rintro D W hD ⟨⟨v, hv, hrow⟩, hoth⟩ hK
    have hc := hv.cell
    gi_wp2
    refine ⟨by simp, .inl ⟨_, _, rfl, run_takeDeferred hK, ?_⟩⟩
    have hD' : w.heap.size + 1 ≤ D := by rw [World.size_alloc] at hD; exact hD
    exact ⟨_, results_tmp rfl _ _ _, v, rfl, ownsRow_putObj hrow _ hK rfl, hoth.os, hoth.tape, hoth.output, by simpa [World.putObj] using hoth.size, fun b hb hne => (World.putObj_heap_other (by omega)).trans (hoth.keep b hb hne)⟩
  case stop =>
    rintro D c pre W _ _ h _
    exact h.elim
set_option maxHeartbeats 4000000 in
theorem parts_mk (s : List UInt8) (w : World) : Calls Tryz.prog 190 #[.string ⟨⟨s⟩⟩] w fun e w' => e = .returned (.func (.func 222) #[] #[.pointer (some ⟨w.heap.size, 0, none⟩)]) ∧ w' = w.alloc (.cells #[.string ⟨⟨s⟩⟩] 9) := by
  go_enter Tryz.func190, Tryz.ntmps190
  go_wp2
  go_returns
  exact ⟨rfl, rfl⟩
theorem collect_call (gf Bs : Nat) (hgf : ∀ args w, (callFunc gf args).run Tryz.prog w = .ok (.enter gf args) w) (xs : List (List UInt8)) (w : World) (hBs : Bs < w.heap.size) (hg : GI w m0) (hlen : xs.length ≤ 1000000000000)
    (hseq : ∀ W, Below w.heap.size w W → SeqD Fence.wide 2 Tryz.prog gf #[.pointer (some ⟨Bs, 0, none⟩)] (fun x : List UInt8 => #[Value.string ⟨⟨x⟩⟩]) (fun b => b = Bs ∨ b ∈ GlobB) Bs xs W) :
    Calls Tryz.prog 189 #[.func (.func gf) #[] #[.pointer (some ⟨Bs, 0, none⟩)]] w fun e W' =>
      ∃ v, e = .returned v ∧ W'.ownsRow w.heap.size 9 1 v xs.length (xs.map encS) ∧ Oth Bs w W' := by
  go_enter Tryz.func189, Tryz.ntmps189
  go_wp2_with (go_at_call 221; refine (callsIn_wide.1 (gather_walk gf hgf Bs xs w hBs hg hlen hseq)).mono ?_; rintro e W' ⟨v, rfl, h1, h2⟩)
  go_returns
  exact ⟨v, rfl, h1, h2⟩
def labelsF (f : List UInt8) (ok : Bool) : Option (List (List UInt8) × Int) :=
  bif !ok then some ([], 7) else bif f.isEmpty then some ([], 13) else
  bif decide (f.length ≤ 1000000000) then
    (partsC (f.length + 2) (Lib.replaceAll f [227, 128, 130] [46])).bind fun ps => bif decide (ps.length ≤ 1000000000000) then (bif decide (32 < ps.length) then some ([], 2) else some (ps, 0)) else none
  else none
theorem max_len {w : World} (hg : GI w m0) : ∃ m, w.cell? ⟨2, 0, none⟩ = some (.int .i64 m) := hg.i
theorem replace_call (f : List UInt8) (hf : f.length ≤ 1000000000) (w : World) (hg : GI w m0) :
    Calls Tryz.prog 188 #[.string ⟨⟨f⟩⟩, .string ⟨#[227, 128, 130]⟩, .string ⟨#[46]⟩] w fun e w' => e = .returned (.string ⟨⟨Lib.replaceAll f [227, 128, 130] [46]⟩⟩) ∧ Below w.heap.size w w' := by
  obtain ⟨m, hm⟩ := max_len hg
  have hcnt := Lib.count_le f [227, 128, 130]
  refine (Go.Proofs.Any.strings_ReplaceAll Tryz.lays155 Tryz.Builder_Extra_155 ⟨⟨f⟩⟩ ⟨#[227, 128, 130]⟩ ⟨#[46]⟩ m w ?_ hm ?_ ?_).mono ?_
  · show f.length < _
    omega
  · decide
  · show f.length + Lib.count f [227, 128, 130] * 1 ≤ _
    omega
  · rintro e w' ⟨h1, h2⟩
    exact ⟨h1, h2⟩
theorem below_oth {Bs B : Nat} {A W W' : World} (h : Below B A W) (hB : B ≤ W.heap.size) (hBs : B ≤ Bs) (ho : Oth Bs W W') : Below B A W' :=
  h.trans ⟨ho.os, ho.tape, ho.output, ho.size, fun k hk => ho.keep k (by omega) (by omega)⟩
theorem row_slice {W : World} {base : Nat} {e : TypeId} {v : Value} {n : Nat} {xs : List Value} (h : W.ownsRow base e 1 v n xs) : ∃ a cap, v = .slice a n cap := by
  rcases h.2 with ⟨h1, h2⟩ | ⟨g, cap, cur, h1, _⟩
  · subst h2; exact ⟨_, _, h1⟩
  · exact ⟨_, _, h1⟩
set_option maxHeartbeats 4000000 in
theorem labels_walk (v0 v1 v2 v3 v4 : Value) (s f : List UInt8) (ok : Bool) (ls : List (List UInt8)) (c : Int) (w : World) (hg : GI w m0) (hC : labelsF f ok = some (ls, c))
    (hfold : ∀ W, Below w.heap.size w W → Calls Tryz.prog 151 #[.agg #[v0, v1, v2, v3, v4], .string ⟨⟨s⟩⟩] W fun e W' => e = .returned (.tuple #[.string ⟨⟨f⟩⟩, .bool ok]) ∧ Below W.heap.size W W') :
    Calls Tryz.prog 157 #[.agg #[v0, v1, v2, v3, v4], .string ⟨⟨s⟩⟩] w fun e w' => ∃ v, e = .returned (.tuple #[v, .int .i64 c]) ∧ Below w.heap.size w w' ∧ w'.ownsRow w.heap.size 9 1 v ls.length (ls.map encS) := by
  have hW0 : Below w.heap.size w (w.alloc (.cells #[v0, v1, v2, v3, v4] 39)) := (Below.refl _ w).alloc (Nat.le_refl _) _
  have hF := hfold _ hW0
  clear hfold
  cases ok with
  | false =>
    have hC' : (([] : List (List UInt8)), (7 : Int)) = (ls, c) := Option.some.inj hC
    cases hC'
    go_enter Tryz.func157, Tryz.ntmps157
    go_wp2_with (go_at_call 151; refine hF.mono ?_; rintro e w1 ⟨rfl, hb1⟩)
    go_returns
    exact ⟨_, rfl, hW0.trans (hb1.mono hW0.size), World.ownsRow_nil _ _ _ _⟩
  | true =>
    cases f with
    | nil =>
      have hC' : (([] : List (List UInt8)), (13 : Int)) = (ls, c) := Option.some.inj hC
      cases hC'
      go_enter Tryz.func157, Tryz.ntmps157
      go_wp2_with (go_at_call 151; refine hF.mono ?_; rintro e w1 ⟨rfl, hb1⟩)
      go_returns
      exact ⟨_, rfl, hW0.trans (hb1.mono hW0.size), World.ownsRow_nil _ _ _ _⟩
    | cons f0 f1 =>
      have hC1 : (bif decide ((f0 :: f1).length ≤ 1000000000) then
          (partsC ((f0 :: f1).length + 2) (Lib.replaceAll (f0 :: f1) [227, 128, 130] [46])).bind fun ps => bif decide (ps.length ≤ 1000000000000) then (bif decide (32 < ps.length) then some (([] : List (List UInt8)), (2 : Int)) else some (ps, 0)) else none
        else none) = some (ls, c) := hC
      rcases cond_some hC1 with ⟨hlen, hC2⟩ | ⟨_, hC2⟩
      case inr => cases hC2
      have hlen' := of_decide_eq_true hlen
      obtain ⟨ps, hps, hC3⟩ := Option.bind_eq_some_iff.1 hC2
      rcases cond_some hC3 with ⟨hl2, hC4⟩ | ⟨_, hC4⟩
      case inr => cases hC4
      have hl2' := of_decide_eq_true hl2
      have hcc : ∀ W : World, GI W m0 → Calls Tryz.prog 189 #[.func (.func 222) #[] #[.pointer (some ⟨W.heap.size, 0, none⟩)]] (W.alloc (.cells #[.string ⟨⟨Lib.replaceAll (f0 :: f1) [227, 128, 130] [46]⟩⟩] 9)) fun e W' =>
          ∃ v, e = .returned v ∧ W'.ownsRow (W.alloc (.cells #[.string ⟨⟨Lib.replaceAll (f0 :: f1) [227, 128, 130] [46]⟩⟩] 9)).heap.size 9 1 v ps.length (ps.map encS) ∧ Oth W.heap.size (W.alloc (.cells #[.string ⟨⟨Lib.replaceAll (f0 :: f1) [227, 128, 130] [46]⟩⟩] 9)) W' := fun W hgW => by
        have hbW : Below W.heap.size W (W.alloc (.cells #[.string ⟨⟨Lib.replaceAll (f0 :: f1) [227, 128, 130] [46]⟩⟩] 9)) := (Below.refl _ W).alloc (Nat.le_refl _) _
        have hgW' := gi_below hgW hbW
        refine collect_call 222 W.heap.size (enters_of Tryz.func222 (by kernel_rfl) rfl) ps _ (by rw [World.size_alloc]; omega) hgW' hl2' fun W2 hb2 => ?_
        exact parts_seq 2 (by omega) W.heap.size _ ps _ hps W2 (box_of_block (Boxed.new _ _ _) (hb2.block _ (by rw [World.size_alloc]; omega))) (gi_below hgW' hb2) fun b hb => by have := (hgW.b b hb).1; omega
      have hg1 := fun W hb => replace_call (f0 :: f1) hlen' W (gi_below hg hb)
      generalize Lib.replaceAll (f0 :: f1) [227, 128, 130] [46] = r at hps hcc hg1
      have fin : ∀ {w1 w2 w4 : World} {v : Value}, Below (w.alloc (.cells #[v0, v1, v2, v3, v4] 39)).heap.size (w.alloc (.cells #[v0, v1, v2, v3, v4] 39)) w1 → Below w1.heap.size w1 w2 → w4.ownsRow (w2.alloc (.cells #[.string ⟨⟨r⟩⟩] 9)).heap.size 9 1 v ps.length (ps.map encS) → Oth w2.heap.size (w2.alloc (.cells #[.string ⟨⟨r⟩⟩] 9)) w4 → Below w.heap.size w w4 ∧ w4.ownsRow w.heap.size 9 1 v ps.length (ps.map encS) := by
        intro w1 w2 w4 v h1 h2 h3 h4
        have b2 : Below w.heap.size w w2 := (hW0.trans (h1.mono hW0.size)).trans (h2.mono (by have := hW0.size; have := h1.size; omega))
        have b3 : Below w.heap.size w (w2.alloc (.cells #[.string ⟨⟨r⟩⟩] 9)) := b2.alloc b2.size _
        refine ⟨below_oth b3 b3.size b2.size h4, h3.1, ?_⟩
        rcases h3.2 with h | ⟨g, cap, cur, e1, e2, e3⟩
        · exact .inl h
        · exact .inr ⟨g, cap, cur, e1, Nat.le_trans b3.size e2, e3⟩
      have Fin : Hid _ := @fin
      clear fin
      by_cases h32 : 32 < ps.length
      · rw [decide_eq_true h32, cond_true] at hC4
        have hC' : (([] : List (List UInt8)), (2 : Int)) = (ls, c) := Option.some.inj hC4
        cases hC'
        clear hC hC1 hC2 hC3 hC4
        go_enter Tryz.func157, Tryz.ntmps157
        go_wp2_with (first
          | (go_at_call 151; refine hF.mono ?_; rintro e w1 ⟨rfl, hb1⟩)
          | (go_at_call 188; refine (hg1 _ (hW0.trans (hb1.mono hW0.size))).mono ?_; rintro e w2 ⟨rfl, hb2⟩)
          | (go_at_call 190; refine (parts_mk r _).mono ?_; rintro e w3 ⟨rfl, rfl⟩)
          | (go_at_call 189; have hgw2 : GI w2 m0 := gi_below (gi_below (gi_below hg hW0) hb1) hb2; refine (hcc _ hgw2).mono ?_; rintro e w4 ⟨v, rfl, hrow, hoth⟩; obtain ⟨sa, sc, rfl⟩ := row_slice hrow)
          | go_in)
        go_returns
        exact ⟨_, rfl, (Fin.out hb1 hb2 hrow hoth).1, World.ownsRow_nil _ _ _ _⟩
      · rw [decide_eq_false h32, cond_false] at hC4
        have hC' : (ps, (0 : Int)) = (ls, c) := Option.some.inj hC4
        cases hC'
        clear hC hC1 hC2 hC3 hC4
        go_enter Tryz.func157, Tryz.ntmps157
        go_wp2_with (first
          | (go_at_call 151; refine hF.mono ?_; rintro e w1 ⟨rfl, hb1⟩)
          | (go_at_call 188; refine (hg1 _ (hW0.trans (hb1.mono hW0.size))).mono ?_; rintro e w2 ⟨rfl, hb2⟩)
          | (go_at_call 190; refine (parts_mk r _).mono ?_; rintro e w3 ⟨rfl, rfl⟩)
          | (go_at_call 189; have hgw2 : GI w2 m0 := gi_below (gi_below (gi_below hg hW0) hb1) hb2; refine (hcc _ hgw2).mono ?_; rintro e w4 ⟨v, rfl, hrow, hoth⟩; obtain ⟨sa, sc, rfl⟩ := row_slice hrow)
          | go_in)
        go_returns
        exact ⟨_, rfl, (Fin.out hb1 hb2 hrow hoth).1, (Fin.out hb1 hb2 hrow hoth).2⟩
set_option maxHeartbeats 4000000 in
theorem values_seq (n : Nat) (hn : 1 ≤ n) (Bs base : Nat) (v : Value) (xs : List (List UInt8)) (K : Nat → Prop) (w : World) (hb : Boxed w Bs 89 v) (hrow : w.ownsRow base 9 1 v xs.length (xs.map encS)) (hlen : xs.length ≤ 1000000000000) (hKb : K Bs) (hKv : ∀ b, v.ownBlock = some b → K b) (Bd : Nat) :
    SeqD Fence.wide n Tryz.prog 191 #[.pointer (some ⟨Bs, 0, none⟩)] (fun x : List UInt8 => #[Value.string ⟨⟨x⟩⟩]) K Bd xs w := by
  intro l J Jx W hW hJ hJx hY h0
  have hb' : Boxed W Bs 89 v := (hW.block Bs hb.lt).trans hb
  have hc := hb'.cell
  rcases hrow.2 with ⟨rfl, hn0⟩ | ⟨g, cap, cur, rfl, hg1, hg2, hg3, hg4, hg5, hg6⟩
  · have hx : xs = [] := List.eq_nil_of_length_eq_zero hn0
    subst hx
    refine callsIn_of_wp Tryz.func191 rfl trivial ?_ rfl
    simp only [Tryz.ntmps191, List.size_toArray, List.length_cons, List.length_nil, Nat.reduceAdd, Nat.reduceSub, Array.replicate_succ, Array.replicate_zero, List.push_toArray, List.append_toArray, List.nil_append, List.cons_append]
    gi_wp2
    gi_loopw [7] (fun i wr => i = .int .i64 0 ∧ J [] wr) (fun _ _ => 0)
    case atStart => exact ⟨rfl, h0⟩
    case round =>
      obtain ⟨rfl, hJs⟩ := hrel
      gi_wp2
      go_end0
      exact ⟨⟨_, rfl⟩, .inl hJs⟩
  · have hKg : K g := hKv g rfl
    have hgW : W.heap[g]? = some (.cells cur 9 (0, 0)) := (hW.block g (lt_of_some hg2)).trans hg2
    have hcur : ∀ (k : Nat) x, xs[k]? = some x → cur[k]? = some (.string ⟨⟨x⟩⟩) := fun k x hk => by
      have hlt : k < xs.length := (List.getElem?_eq_some_iff.1 hk).1
      have h1 : (cur.toList.take (xs.length * 1))[k]? = some (encS x) := by rw [hg6, List.getElem?_map, hk]; rfl
      rw [List.getElem?_take_of_lt (by omega), Array.getElem?_toList] at h1
      exact h1
    refine callsIn_of_wp Tryz.func191 rfl trivial ?_ rfl
    simp only [Tryz.ntmps191, List.size_toArray, List.length_cons, List.length_nil, Nat.reduceAdd, Nat.reduceSub, Array.replicate_succ, Array.replicate_zero, List.push_toArray, List.append_toArray, List.nil_append, List.cons_append]
    generalize hN : xs.length = N at *
    gi_wp2
    gi_loopw [7] (fun i wr => ∃ k : Nat, i = .int .i64 k ∧ k ≤ N ∧ Hid (J (xs.take k) wr) ∧ Hid (wr.heap[g]? = some (.cells cur 9 (0, 0)))) (fun i _ => N - (intOf i).toNat)
    case atStart => exact ⟨0, rfl, Nat.zero_le _, h0, hgW⟩
    case round =>
      obtain ⟨k, rfl, hk, hJs, hgr⟩ := hrel
      by_cases hlt : k < N
      · obtain ⟨x, hx⟩ : ∃ x, xs[k]? = some x := ⟨_, List.getElem?_eq_getElem (by omega)⟩
        have htk : xs.take (k + 1) = xs.take k ++ [x] := by rw [List.take_add_one, hx]; rfl
        have hpre : xs.take k ++ [x] <+: xs := htk ▸ List.take_prefix _ _
        have hcx : wr.cell? ⟨g, k, none⟩ = some (.string ⟨⟨x⟩⟩) := by simp only [World.cell?, hgr.out]; exact hcur k x hx
        obtain ⟨fn, tmps, assign, body, hy, hR⟩ := hY _ x wr hpre hJs.out
        clear hcur
        gi_wp2
        refine hR.mono ?_
        rintro e W3 (⟨rfl, hJ3, hs3, hk3⟩ | ⟨rfl, hJx3⟩)
        · have hg3 : Hid (W3.heap[g]? = some (.cells cur 9 (0, 0))) := (hk3 g hKg).trans hgr.out
          have hJ4 : Hid (J (xs.take (k + 1)) W3) := by rw [htk]; exact hJ3
          gi_wp2
          go_roundw
          case rel => exact ⟨k + 1, by simp, by omega, hJ4, hg3⟩
          case measure => simp [intOf]; omega
        · gi_wp2
          refine bodyPost_ret (results_none rfl _ _ _) rfl ?_
          exact ⟨⟨_, rfl⟩, .inr ⟨_, hpre, hJx3⟩⟩
      · obtain rfl : k = N := by omega
        gi_wp2
        go_end0
        exact ⟨⟨_, rfl⟩, .inl (by have := hJs.out; rwa [List.take_of_length_le (by omega)] at this)⟩
set_option maxHeartbeats 4000000 in
theorem values_mk (a : Option Addr) (n cap : Nat) (w : World) : Calls Tryz.prog 158 #[.slice a n cap] w fun e w' => e = .returned (.func (.func 191) #[] #[.pointer (some ⟨w.heap.size, 0, none⟩)]) ∧ w' = w.alloc (.cells #[.slice a n cap] 89) := by
  go_enter Tryz.func158, Tryz.ntmps158
  go_wp2
  go_returns
  exact ⟨rfl, rfl⟩
def K0 : Calls' := fun f => Ae.lookA f []
theorem kok0 : KOk Tryz.prog K0 := kok_nil _
noncomputable def body124 : Code := match subc (code Tryz.f124) [1, 1, 1, 1, 0, 1, 0] with | .rangeFunc _ _ _ b => b | c => c
noncomputable def ops11 : Array Oper := match subc body124 [0, 1, 1, 1] with | .region _ ops _ => ops | _ => #[]
def t11 (x y : List UInt8) : List AV := [.top, .top, .top, .top, .top, .top, .top, .top, .top, .ptr 2 0, .ptr 3 0, .top, .str x, .top, .str y] ++ List.replicate 45 .top
def o11 (ps qs : List (List UInt8)) : Store := [[.rowc 9 .str ps], [.rowc 9 .str qs], [.row 0], [.row 1]]
def o11' (ps qs : List (List UInt8)) (x y : List UInt8) : Store := [[], [], [.row 5], [.row 7], [.rowc 9 .str [x]], [.rowc 9 .str (ps ++ [x])], [.rowc 9 .str [y]], [.rowc 9 .str (qs ++ [y])]]
theorem r11 (ps qs : List (List UInt8)) (x y : List UInt8) : dregion Γ K0 ops11 ⟨t11 x y, o11 ps qs⟩ (fun s => some s.o) =
    bif decide (ps.length + 1 ≤ 140737488355328 / 16) then (bif decide (qs.length + 1 ≤ 140737488355328 / 16) then some (o11' ps qs x y) else none) else none := by kernel_rfl
theorem nd11 : ∀ (i : Nat) o, ops11[i]? = some o → ∀ c, o.op ≠ .defer c := by
  have h : (ops11.toList.all fun o => match o.op with | .defer _ => false | _ => true) = true := by kernel_rfl
  intro i o ho c hc
  have := List.all_eq_true.1 h o (Array.mem_toList_iff.2 (Array.mem_of_getElem? ho))
  rw [hc] at this
  cases this
theorem repL_of {w : World} {m : Md} {g : List Value} : ∀ (av : List AV) (vs : List Value), av.length = vs.length → (∀ (i : Nat) v, vs[i]? = some v → RepV w m g (av.getD i .top) v) → RepL w m g av vs
  | [], [], _, _ => rfl
  | a :: av, v :: vs, hl, h => ⟨v, vs, rfl, h 0 v rfl, repL_of av vs (by simpa using hl) fun i u hu => h (i + 1) u hu⟩
structure Two (base A9 A10 : Nat) (W : World) (ps qs : List (List UInt8)) : Prop where
  ex : ∃ va vu t9 t10, Boxed W A9 t9 va ∧ Boxed W A10 t10 vu ∧ W.ownsRow base 9 1 va ps.length (ps.map encS) ∧ W.ownsRow base 9 1 vu qs.length (qs.map encS) ∧
    (∀ b, va.ownBlock = some b → b ≠ A9 ∧ b ≠ A10 ∧ vu.ownBlock ≠ some b) ∧ ∀ b, vu.ownBlock = some b → b ≠ A9 ∧ b ≠ A10
def TwoB (A9 A10 : Nat) (va vu : Value) (b : Nat) : Prop := b = A9 ∨ b = A10 ∨ va.ownBlock = some b ∨ vu.ownBlock = some b
theorem repE_enc {w : World} {m : Md} {l : List (List UInt8)} {xs : List Value} (h : RepE w m .str l xs) (hl : xs.length = l.length * 1) : xs = l.map encS := by
  apply List.ext_getElem?
  intro j
  rw [List.getElem?_map]
  by_cases hj : j < l.length
  · have h1 : ((xs.drop (j * 1)).take 1) = [.string ⟨⟨l[j]⟩⟩] := h j l[j] (List.getElem?_eq_getElem hj)
    have h2 : ((xs.drop (j * 1)).take 1)[0]? = some (.string ⟨⟨l[j]⟩⟩) := by rw [h1]; rfl
    rw [List.getElem?_take_of_lt (by omega), List.getElem?_drop] at h2
    simp only [Nat.mul_one, Nat.add_zero] at h2
    rw [h2, List.getElem?_eq_getElem hj]
    rfl
  · rw [List.getElem?_eq_none (by omega), List.getElem?_eq_none (by omega)]
    rfl
theorem enc_repE {w : World} {m : Md} (l : List (List UInt8)) : RepE w m .str l (l.map encS) := by
  intro j x hj
  change List UInt8 at x
  change l[j]? = some x at hj
  show ((l.map encS).drop (j * 1)).take 1 = [.string ⟨⟨x⟩⟩]
  have hlt := (List.getElem?_eq_some_iff.1 hj).1
  have : ((l.map encS).drop j) = encS x :: (l.map encS).drop (j + 1) := by
    rw [← List.map_drop, List.drop_eq_getElem_cons hlt, List.map_cons, List.map_drop]
    rw [(List.getElem?_eq_some_iff.1 hj).2]
  rw [Nat.mul_one, this]
  rfl
theorem row_zero {W : World} {base : Nat} {e : TypeId} {size n : Nat} {v : Value} {xs : List Value} (h : W.ownsRow base e size v n xs) : W.ownsRow 0 e size v n xs := by
  refine ⟨h.1, ?_⟩
  rcases h.2 with h | ⟨g, cap, cur, e1, h2, h3⟩
  · exact .inl h
  · exact .inr ⟨g, cap, cur, e1, Nat.zero_le _, h3⟩
theorem row_ge {W : World} {base : Nat} {e : TypeId} {size n : Nat} {v : Value} {xs : List Value} (h : W.ownsRow base e size v n xs) : ∀ b, v.ownBlock = some b → base ≤ b ∧ b < W.heap.size ∧ ∃ o, W.heap[b]? = some o ∧ o.isCells = true := by
  rcases h.2 with ⟨rfl, _⟩ | ⟨g, cap, cur, rfl, h2, h3, _⟩
  · intro b hb; cases hb
  · intro b hb; cases hb; exact ⟨h2, lt_of_some h3, _, h3, rfl⟩
theorem box_repO {w : World} {m : Md} {g : List Value} {A : Nat} {t : TypeId} {v : Value} {i : Nat} (h : Boxed w A t v) (hi : g[i]? = some v) (hv : ∃ ao n c, v = .slice ao n c) : RepO w m g (.pointer (some ⟨A, 0, none⟩)) [.row i] :=
  ⟨fun _ _ _ e => (by cases e), fun _ _ e => (by cases e), fun _ => ⟨A, t, _, rfl, h, v, [], rfl, ⟨hi, hv⟩, rfl⟩, fun _ _ e => (by cases e), trivial⟩
theorem row_repO {w : World} {m : Md} {g : List Value} {base : Nat} {v : Value} {l : List (List UInt8)} (h : w.ownsRow base 9 1 v l.length (l.map encS)) : RepO w m g v [.rowc 9 .str l] :=
  ⟨fun _ _ _ e => (by cases e; exact ⟨_, row_zero h, enc_repE l⟩), fun _ _ e => (by cases e), fun e => (by cases e), fun _ _ e => (by cases e), trivial⟩
theorem region11 (l n0 : Nat) (ps qs : List (List UInt8)) (x y : List UInt8) (hp : ps.length ≤ 1000000000000) (hq : qs.length ≤ 1000000000000) (tm : List Value) (base R A9 A10 : Nat) (hR : base ≤ R) (W : World) (hg : GI W m0) (hgb : ∀ b ∈ GlobB, b < base)
    (hne : A9 ≠ A10) (h9 : base ≤ A9) (h10 : base ≤ A10) (h : Two R A9 A10 W ps qs) (hlen : tm.length = 60) (hbase : R ≤ W.heap.size)
    (e9 : tm[9]? = some (.pointer (some ⟨A9, 0, none⟩))) (e10 : tm[10]? = some (.pointer (some ⟨A10, 0, none⟩))) (e12 : tm[12]? = some (.string ⟨⟨x⟩⟩)) (e14 : tm[14]? = some (.string ⟨⟨y⟩⟩)) :
    (Code.region 11 ops11 true).wpIn (Fence.wide.inRound l) n0 Tryz.prog (fun e a' w' => e = .normal ∧ Two R A9 A10 w' (ps ++ [x]) (qs ++ [y]) ∧ w'.os = W.os ∧ w'.tape = W.tape ∧ w'.output = W.output ∧ W.heap.size ≤ w'.heap.size ∧
      (∀ b, b < R → b ≠ A9 → b ≠ A10 → w'.heap[b]? = W.heap[b]?) ∧ ∀ (b : Nat) (o : Obj), W.heap[b]? = some o → o.isCells = false → w'.heap[b]? = some o) { tmps := tm.toArray, defers := [] } W := by
  obtain ⟨va, vu, t9, t10, b9, b10, r9, r10, s1, s2⟩ := h.ex
  have g1 := row_ge r9
  have g2 := row_ge r10
  obtain ⟨sa1, sc1, es1⟩ := row_slice r9
  obtain ⟨sa2, sc2, es2⟩ := row_slice r10
  have hmu : ∀ b, TwoB A9 A10 va vu b → base ≤ b ∧ b < W.heap.size ∧ ∃ o, W.heap[b]? = some o ∧ o.isCells = true := by
    rintro b (rfl | rfl | hb | hb)
    · exact ⟨h9, b9.lt, _, b9, rfl⟩
    · exact ⟨h10, b10.lt, _, b10, rfl⟩
    · have := g1 b hb; exact ⟨by omega, this.2⟩
    · have := g2 b hb; exact ⟨by omega, this.2⟩
  have hrep : Rep W ⟨TwoB A9 A10 va vu, TwoB A9 A10 va vu⟩ [va, vu, .pointer (some ⟨A9, 0, none⟩), .pointer (some ⟨A10, 0, none⟩)] ⟨t11 x y, o11 ps qs⟩ { tmps := tm.toArray, defers := [] } := by
    refine ⟨?_, rfl, ?_⟩
    · refine repL_of _ _ (by simp [t11, hlen]) fun i v hv => ?_
      have hv' : tm[i]? = some v := hv
      have hi : i < 60 := hlen ▸ (List.getElem?_eq_some_iff.1 hv').1
      by_cases i9 : i = 9
      · subst i9; rw [e9] at hv'; cases hv'; exact ⟨A9, rfl, rfl⟩
      by_cases i10 : i = 10
      · subst i10; rw [e10] at hv'; cases hv'; exact ⟨A10, rfl, rfl⟩
      by_cases i12 : i = 12
      · subst i12; rw [e12] at hv'; cases hv'; rfl
      by_cases i14 : i = 14
      · subst i14; rw [e14] at hv'; cases hv'; rfl
      have ht : (t11 x y).getD i .top = .top := by
        have hc : i = 0 ∨ i = 1 ∨ i = 2 ∨ i = 3 ∨ i = 4 ∨ i = 5 ∨ i = 6 ∨ i = 7 ∨ i = 8 ∨ i = 11 ∨ i = 13 ∨ 15 ≤ i := by omega
        rcases hc with rfl | rfl | rfl | rfl | rfl | rfl | rfl | rfl | rfl | rfl | rfl | hc
        iterate 11 rfl
        unfold t11
        rw [List.getD_eq_getElem?_getD, List.getElem?_append_right (by simpa using hc), List.getElem?_replicate]
        split <;> rfl
      rw [ht]
      trivial
    · refine ⟨⟨hg.i, fun b hb => ⟨(hg.b b hb).1, fun hc => ?_⟩⟩, rfl, ?_, fun _ h => h, fun b hb => (hmu b hb).2.1, ?_, ?_⟩
      · have := (hmu b hc).1; have := hgb b hb; omega
      · rintro b ⟨i, gi, cs, k1, k2, k3⟩
        match i with
        | 0 => cases k1; cases k2; exact .inr (.inr (.inl k3))
        | 1 => cases k1; cases k2; exact .inr (.inr (.inr k3))
        | 2 => cases k1; cases k2; cases k3; exact .inl rfl
        | 3 => cases k1; cases k2; cases k3; exact .inr (.inl rfl)
        | i + 4 => cases k1
      · intro i gi cs k1 k2
        match i with
        | 0 => cases k1; cases k2; exact row_repO r9
        | 1 => cases k1; cases k2; exact row_repO r10
        | 2 => cases k1; cases k2; exact box_repO b9 rfl ⟨_, _, _, es1⟩
        | 3 => cases k1; cases k2; exact box_repO b10 rfl ⟨_, _, _, es2⟩
        | i + 4 => cases k1
      · intro i j gi gj ci cj b hij k1 k2 k3 k4 k5 k6
        match i, j with
        | 0, 0 | 1, 1 | 2, 2 | 3, 3 => exact hij rfl
        | 0, 1 => cases k1; cases k2; cases k3; cases k4; exact (s1 b k5).2.2 k6
        | 1, 0 => cases k1; cases k2; cases k3; cases k4; exact (s1 b k6).2.2 k5
        | 0, 2 => cases k1; cases k2; cases k3; cases k4; cases k6; exact (s1 _ k5).1 rfl
        | 0, 3 => cases k1; cases k2; cases k3; cases k4; cases k6; exact (s1 _ k5).2.1 rfl
        | 1, 2 => cases k1; cases k2; cases k3; cases k4; cases k6; exact (s2 _ k5).1 rfl
        | 1, 3 => cases k1; cases k2; cases k3; cases k4; cases k6; exact (s2 _ k5).2 rfl
        | 2, 0 => cases k1; cases k2; cases k3; cases k4; cases k5; exact (s1 _ k6).1 rfl
        | 3, 0 => cases k1; cases k2; cases k3; cases k4; cases k5; exact (s1 _ k6).2.1 rfl
        | 2, 1 => cases k1; cases k2; cases k3; cases k4; cases k5; exact (s2 _ k6).1 rfl
        | 3, 1 => cases k1; cases k2; cases k3; cases k4; cases k5; exact (s2 _ k6).2 rfl
        | 2, 3 => cases k1; cases k2; cases k3; cases k4; cases k5; cases k6; exact hne rfl
        | 3, 2 => cases k1; cases k2; cases k3; cases k4; cases k5; cases k6; exact hne rfl
        | i + 4, _ => cases k1
        | _, j + 4 => cases k3
  have hlim : (140737488355328 : Nat) / 16 = 8796093022208 := rfl
  have hrun : dregion Γ K0 ops11 ⟨t11 x y, o11 ps qs⟩ (fun s => some s.o) = some (o11' ps qs x y) := by
    rw [r11, hlim, decide_eq_true (show ps.length + 1 ≤ 8796093022208 by omega), decide_eq_true (show qs.length + 1 ≤ 8796093022208 by omega)]
    rfl
  refine wpIn_mono (dregion_in l n0 nd11 hm hΓ kok0 hrep hrun (Q := fun a' w' => Two R A9 A10 w' (ps ++ [x]) (qs ++ [y]) ∧ w'.os = W.os ∧ w'.tape = W.tape ∧ w'.output = W.output ∧ W.heap.size ≤ w'.heap.size ∧
      (∀ b, b < R → b ≠ A9 → b ≠ A10 → w'.heap[b]? = W.heap[b]?) ∧ ∀ (b : Nat) (o : Obj), W.heap[b]? = some o → o.isCells = false → w'.heap[b]? = some o) ?_) fun e a' w' h => h
  intro st' a' w' m' g' k1 k2 k3 k4
  have ho : st'.o = o11' ps qs x y := Option.some.inj k1
  have hob := k2.obj
  rw [ho] at hob
  have q2 : g'[2]? = some (.pointer (some ⟨A9, 0, none⟩)) := k4 2 _ rfl
  have q3 : g'[3]? = some (.pointer (some ⟨A10, 0, none⟩)) := k4 3 _ rfl
  have hlen8 : g'.length = 8 := hob.len
  obtain ⟨v5, q5⟩ : ∃ v, g'[5]? = some v := ⟨_, List.getElem?_eq_getElem (by omega)⟩
  obtain ⟨v7, q7⟩ : ∃ v, g'[7]? = some v := ⟨_, List.getElem?_eq_getElem (by omega)⟩
  obtain ⟨b2, ty2, arr2, z1, z2, z3⟩ := (hob.obj 2 _ [.row 5] q2 rfl).box rfl
  obtain ⟨b3, ty3, arr3, y1, y2, y3⟩ := (hob.obj 3 _ [.row 7] q3 rfl).box rfl
  cases z1
  cases y1
  obtain ⟨u5, r5, z4, ⟨z5, z6⟩, z7⟩ := z3
  obtain ⟨u7, r7, y4, ⟨y5, y6⟩, y7⟩ := y3
  rw [q5] at z5
  rw [q7] at y5
  cases z5
  cases y5
  have z7' : r5 = [] := z7
  have y7' : r7 = [] := y7
  subst z7' y7'
  obtain ⟨xs5, o5, p5⟩ := (hob.obj 5 _ [.rowc 9 .str (ps ++ [x])] q5 rfl).rowc _ _ _ rfl
  obtain ⟨xs7, o7, p7⟩ := (hob.obj 7 _ [.rowc 9 .str (qs ++ [y])] q7 rfl).rowc _ _ _ rfl
  have hx5 := repE_enc p5 o5.1
  have hx7 := repE_enc p7 o7.1
  subst hx5 hx7
  have hge : ∀ (i : Nat) gi cs b, i ≠ 2 → i ≠ 3 → g'[i]? = some gi → (o11' ps qs x y)[i]? = some cs → blk gi cs = some b → R ≤ b := fun i gi cs b n2 n3 c1 c2 c3 => by
    by_cases hlt : b < W.heap.size
    · rcases k3.mutb b hlt (hob.nm b (hob.sub b ⟨i, gi, cs, c1, c2, c3⟩)) with h | h | h | h
      · exact (hob.sep i 2 _ _ _ _ _ n2 c1 c2 q2 rfl c3 (by rw [h]; rfl)).elim
      · exact (hob.sep i 3 _ _ _ _ _ n3 c1 c2 q3 rfl c3 (by rw [h]; rfl)).elim
      · exact (g1 b h).1
      · exact (g2 b h).1
    · omega
  have hkeep : ∀ (b : Nat) (o : Obj), W.heap[b]? = some o → ¬ TwoB A9 A10 va vu b → w'.heap[b]? = some o := fun b o hb hn => (k3.keep b (lt_of_some hb) hn).trans hb
  refine ⟨⟨v5, v7, ty2, ty3, ?_, ?_, ?_, ?_, ?_, ?_⟩, k3.os, k3.tape, k3.output, k3.size, ?_, ?_⟩
  · have : arr2 = #[v5] := by cases arr2; simpa using z4
    subst this; exact z2
  · have : arr3 = #[v7] := by cases arr3; simpa using y4
    subst this; exact y2
  · exact own_base o5 fun b hb => hge 5 _ _ b (by decide) (by decide) q5 rfl hb
  · exact own_base o7 fun b hb => hge 7 _ _ b (by decide) (by decide) q7 rfl hb
  · intro b hb
    refine ⟨?_, ?_, fun hc => ?_⟩
    · rintro rfl; exact hob.sep 5 2 _ _ _ _ _ (by decide) q5 rfl q2 rfl hb rfl
    · rintro rfl; exact hob.sep 5 3 _ _ _ _ _ (by decide) q5 rfl q3 rfl hb rfl
    · exact hob.sep 5 7 _ _ _ _ _ (by decide) q5 rfl q7 rfl hb hc
  · intro b hb
    refine ⟨?_, ?_⟩
    · rintro rfl; exact hob.sep 7 2 _ _ _ _ _ (by decide) q7 rfl q2 rfl hb rfl
    · rintro rfl; exact hob.sep 7 3 _ _ _ _ _ (by decide) q7 rfl q3 rfl hb rfl
  · intro b hb hn9 hn10
    refine k3.keep b (by omega) fun hc => ?_
    rcases hc with h | h | h | h
    · exact hn9 h
    · exact hn10 h
    · have := (g1 b h).1; omega
    · have := (g2 b h).1; omega
  · intro b o hb hc
    refine hkeep b o hb fun hcc => ?_
    obtain ⟨_, _, o', e1, e2⟩ := hmu b hcc
    rw [hb] at e1
    cases e1
    rw [hc] at e2
    cases e2
def bothF (A U : List UInt8 → Option (List UInt8 × Int)) : List (List UInt8) → List (List UInt8) → List (List UInt8) → Option (Int × List (List UInt8) × List (List UInt8))
  | [], ps, qs => some (0, ps, qs)
  | x :: xs, ps, qs => (A x).bind fun a => bif a.2 != 0 then some (a.2, [], []) else (U x).bind fun u => bothF A U xs (ps ++ [a.1]) (qs ++ [u.1])
theorem two_othR {N Bs R A9 A10 : Nat} {W W' : World} {ps qs : List (List UInt8)} (h : Two R A9 A10 W ps qs) (h9 : A9 ≠ Bs) (h10 : A10 ≠ Bs) (hR : Bs < R) (ho : OthR N Bs W W') : Two R A9 A10 W' ps qs := by
  obtain ⟨va, vu, t9, t10, b9, b10, r9, r10, s1, s2⟩ := h.ex
  exact ⟨va, vu, t9, t10, boxed_oth b9 h9 ho, boxed_oth b10 h10 ho, ownsRow_oth hR r9 ho, ownsRow_oth hR r10 ho, s1, s2⟩
theorem row_repT {W : World} {base : Nat} {v : Value} {l : List (List UInt8)} (h : W.ownsRow base 9 1 v l.length (l.map encS)) : RepT W m0 (.lst .str) l [v] := by
  rcases h.2 with ⟨rfl, h0⟩ | ⟨g, cap, cur, rfl, h2, h3, h4, h5, h6, h7⟩
  · have hl : l = [] := List.eq_nil_of_length_eq_zero h0
    subst hl
    exact ⟨none, 0, rfl, Nat.le_refl _, by omega, fun _ => rfl, fun j x hj => by
      have hj' : ([] : List (List UInt8))[j]? = some x := hj
      simp at hj'⟩
  · refine ⟨_, cap, rfl, h4, by simp only [maxLen] at h5; omega, fun e => (by cases e), fun j x hj => ?_⟩
    change List UInt8 at x
    change l[j]? = some x at hj
    refine ⟨g, 0, [.string ⟨⟨x⟩⟩], rfl, rfl, rfl, lt_of_some h3, fun hm => hm, fun i u hu => ?_⟩
    have hlt := (List.getElem?_eq_some_iff.1 hj).1
    match i with
    | i + 1 => cases hu
    | 0 =>
      cases hu
      have h1 : (cur.toList.take (l.length * 1))[j]? = some (encS x) := by rw [h7, List.getElem?_map, hj]; rfl
      rw [List.getElem?_take_of_lt (by omega), Array.getElem?_toList] at h1
      simp only [World.cell?, h3]
      show cur[0 + j * 1 + 0]? = _
      rw [show 0 + j * 1 + 0 = j by omega]
      exact h1
theorem join_call {W : World} {base : Nat} {v : Value} {l : List (List UInt8)} {r : List UInt8} (h : W.ownsRow base 9 1 v l.length (l.map encS)) (hj : joinF (l, [46], ()) = some (r, ())) (hg : GI W m0) :
    Calls Tryz.prog 73 #[v, .string ⟨#[46]⟩] W fun e W' => e = .returned (.string ⟨⟨r⟩⟩) ∧ Below W.heap.size W W' := by
  have hj' : C73 (l, [46], ()) = some (r, ()) := hj
  refine (FnOk.call0 (v := (l, [46], ())) (y := (r, ())) ok73 Tryz.func73 (by kernel_rfl) (by kernel_rfl) hg (fun _ h => h.elim) rfl ⟨v, _, rfl, row_repT h, _, _, rfl, rfl, rfl⟩ rfl hj' ?_).mono fun e w' ⟨rv, h1, h2, ax, l', u, h3, h4⟩ => ?_
  · intro ax l' u h3
    cases osel_one_inv h3
    rfl
  · cases osel_one_inv h3
    obtain ⟨v, r', e1, e2, e4⟩ := h4
    have e4' : r' = [] := e4
    subst e4'
    cases e1
    subst h1 e2
    exact ⟨rfl, h2⟩
def outF (res : Int × List (List UInt8) × List (List UInt8)) : Option (List UInt8 × List UInt8 × Int) :=
  bif res.1 != 0 then some ([], [], res.1) else (joinF (res.2.1, [46], ())).bind fun ja => bif decide (253 < ja.1.length) then some ([], [], 5) else (joinF (res.2.2, [46], ())).bind fun ju => some (ja.1, ju.1, 0)
set_option maxHeartbeats 4000000 in
theorem both_walk (v0 v1 v2 v3 v4 : Value) (s : List UInt8) (ls : List (List UInt8)) (A U : List UInt8 → Option (List UInt8 × Int)) (res : Int × List (List UInt8) × List (List UInt8)) (w : World) (hg : GI w m0) (hll : ls.length ≤ 32)
    (hres : bothF A U ls [] [] = some res) (oa ou : List UInt8) (oc : Int) (hout : outF res = some (oa, ou, oc))
    (hlab : ∀ W, Below w.heap.size w W → Calls Tryz.prog 157 #[.agg #[v0, v1, v2, v3, v4], .string ⟨⟨s⟩⟩] W fun e w' => ∃ v, e = .returned (.tuple #[v, .int .i64 0]) ∧ Below W.heap.size W w' ∧ w'.ownsRow W.heap.size 9 1 v ls.length (ls.map encS))
    (hA : ∀ x r, A x = some r → ∀ W, Below w.heap.size w W → Calls Tryz.prog 159 #[.agg #[v0, v1, v2, v3, v4], .string ⟨⟨x⟩⟩] W fun e W' => e = .returned (.tuple #[.string ⟨⟨r.1⟩⟩, .int .i64 r.2]) ∧ Below W.heap.size W W')
    (hU : ∀ x r, U x = some r → ∀ W, Below w.heap.size w W → Calls Tryz.prog 160 #[.agg #[v0, v1, v2, v3, v4], .string ⟨⟨x⟩⟩] W fun e W' => e = .returned (.tuple #[.string ⟨⟨r.1⟩⟩, .int .i64 r.2]) ∧ Below W.heap.size W W') :
    Calls Tryz.prog 124 #[.agg #[v0, v1, v2, v3, v4], .string ⟨⟨s⟩⟩] w fun e w' => e = .returned (.tuple #[.string ⟨⟨oa⟩⟩, .string ⟨⟨ou⟩⟩, .int .i64 oc]) ∧ Below w.heap.size w w' := by
  refine (callsIn_wide (n := 3)).1 ?_
  refine callsIn_of_wp_marks Tryz.func124 rfl trivial ?_ rfl
  simp only [Tryz.ntmps124, List.size_toArray, List.length_cons, List.length_nil, Nat.reduceAdd, Nat.reduceSub, Array.replicate_succ, Array.replicate_zero, List.push_toArray, List.append_toArray, List.nil_append, List.cons_append]
  have hW0 : Below w.heap.size w ((((w.alloc (.cells #[v0, v1, v2, v3, v4] 39)).alloc (.cells #[.string ⟨#[]⟩] 9)).alloc (.cells #[.string ⟨#[]⟩] 9)).alloc (.cells #[.int .i64 0] 44)) :=
    ((((Below.refl _ w).alloc (Nat.le_refl _) _).alloc (by simp) _).alloc (by simp <;> omega) _).alloc (by simp <;> omega) _
  gi_wp2_with (first
    | (refine ⟨trivial, ?_⟩; gi_at_call 157; refine (callsIn_wide.2 (hlab _ hW0)).mono ?_; rintro e w1 ⟨lv, rfl, hb1, hrow⟩; obtain ⟨la, lc, rfl⟩ := row_slice hrow)
    | (refine ⟨trivial, ?_⟩; gi_at_call 158; refine (callsIn_wide.2 (values_mk _ _ _ _)).mono ?_; rintro e w2 ⟨rfl, rfl⟩))
  have hb0 : Below w.heap.size w w1 := hW0.trans (hb1.mono hW0.size)
  have hsz1 : w.heap.size + 4 ≤ w1.heap.size := by have := hb1.size; simp at this; omega
  have hT : ∀ X, Below w1.heap.size w1 X → X.cell? ⟨w.heap.size, 0, none⟩ = some v0 ∧ X.cell? ⟨w.heap.size, 1, none⟩ = some v1 ∧ X.cell? ⟨w.heap.size, 2, none⟩ = some v2 ∧ X.cell? ⟨w.heap.size, 3, none⟩ = some v3 ∧ X.cell? ⟨w.heap.size, 4, none⟩ = some v4 := fun X hX => by
    have h1 : X.heap[w.heap.size]? = some (.cells #[v0, v1, v2, v3, v4] 39) := by
      rw [hX.block _ (by omega), hb1.block _ (by simp <;> omega), Below.heap_alloc _ _ _ (by simp <;> omega), Below.heap_alloc _ _ _ (by simp <;> omega), Below.heap_alloc _ _ _ (by simp), heap_alloc_new]
    exact ⟨by rw [cell_of_cells h1]; rfl, by rw [cell_of_cells h1]; rfl, by rw [cell_of_cells h1]; rfl, by rw [cell_of_cells h1]; rfl, by rw [cell_of_cells h1]; rfl⟩
  have hR : ∀ X, Below w1.heap.size w1 X → Boxed X (w.heap.size + 1) 9 (.string ⟨#[]⟩) ∧ Boxed X (w.heap.size + 1 + 1) 9 (.string ⟨#[]⟩) ∧ Boxed X (w.heap.size + 1 + 1 + 1) 44 (.int .i64 0) := fun X hX => by
    refine ⟨?_, ?_, ?_⟩
    · show X.heap[_]? = _
      rw [hX.block _ (by omega), hb1.block _ (by simp <;> omega), Below.heap_alloc _ _ _ (by simp <;> omega), Below.heap_alloc _ _ _ (by simp)]
      have := heap_alloc_new (w.alloc (.cells #[v0, v1, v2, v3, v4] 39)) (.cells #[.string ⟨#[]⟩] 9)
      rwa [World.size_alloc] at this
    · show X.heap[_]? = _
      rw [hX.block _ (by omega), hb1.block _ (by simp <;> omega), Below.heap_alloc _ _ _ (by simp)]
      have := heap_alloc_new ((w.alloc (.cells #[v0, v1, v2, v3, v4] 39)).alloc (.cells #[.string ⟨#[]⟩] 9)) (.cells #[.string ⟨#[]⟩] 9)
      rwa [World.size_alloc, World.size_alloc] at this
    · show X.heap[_]? = _
      rw [hX.block _ (by omega), hb1.block _ (by simp)]
      have := heap_alloc_new (((w.alloc (.cells #[v0, v1, v2, v3, v4] 39)).alloc (.cells #[.string ⟨#[]⟩] 9)).alloc (.cells #[.string ⟨#[]⟩] 9)) (.cells #[.int .i64 0] 44)
      rwa [World.size_alloc, World.size_alloc, World.size_alloc] at this
  have hg1 : GI w1 m0 := gi_below hg hb0
  have hW2 : Below w1.heap.size w1 (((w1.alloc (.cells #[.slice none 0 0] 89)).alloc (.cells #[.slice none 0 0] 89)).alloc (.cells #[.slice la ls.length lc] 89)) :=
    (((Below.refl _ w1).alloc (Nat.le_refl _) _).alloc (by simp) _).alloc (by simp <;> omega) _
  have hszN : (((w1.alloc (.cells #[.slice none 0 0] 89)).alloc (.cells #[.slice none 0 0] 89)).alloc (.cells #[.slice la ls.length lc] 89)).heap.size = w1.heap.size + 3 := by simp
  have hbv : Boxed (((w1.alloc (.cells #[.slice none 0 0] 89)).alloc (.cells #[.slice none 0 0] 89)).alloc (.cells #[.slice la ls.length lc] 89)) (w1.heap.size + 1 + 1) 89 (.slice la ls.length lc) := by
    have := Boxed.new ((w1.alloc (.cells #[.slice none 0 0] 89)).alloc (.cells #[.slice none 0 0] 89)) 89 (.slice la ls.length lc)
    rwa [World.size_alloc, World.size_alloc] at this
  have hb9 : Boxed (((w1.alloc (.cells #[.slice none 0 0] 89)).alloc (.cells #[.slice none 0 0] 89)).alloc (.cells #[.slice la ls.length lc] 89)) w1.heap.size 89 (.slice none 0 0) :=
    ((Boxed.new w1 89 (.slice none 0 0)).alloc _).alloc _
  have hb10 : Boxed (((w1.alloc (.cells #[.slice none 0 0] 89)).alloc (.cells #[.slice none 0 0] 89)).alloc (.cells #[.slice la ls.length lc] 89)) (w1.heap.size + 1) 89 (.slice none 0 0) := by
    have := (Boxed.new (w1.alloc (.cells #[.slice none 0 0] 89)) 89 (.slice none 0 0)).alloc (.cells #[.slice la ls.length lc] 89)
    rwa [World.size_alloc] at this
  have hrow2 : (((w1.alloc (.cells #[.slice none 0 0] 89)).alloc (.cells #[.slice none 0 0] 89)).alloc (.cells #[.slice la ls.length lc] 89)).ownsRow 0 9 1 (.slice la ls.length lc) ls.length (ls.map encS) := by
    have := row_zero hrow
    exact ((this.alloc _).alloc _).alloc _
  have hown : ∀ b, (Value.slice la ls.length lc).ownBlock = some b → b < w1.heap.size := fun b hb => ((row_ge hrow) b hb).2.1
  clear hlab
  refine wpIn_rangeFunc_dir (F := Fence.wide) (n := 3) rfl (by omega) (gf := 191) (lb := #[.pointer (some ⟨w1.heap.size + 1 + 1, 0, none⟩)]) rfl trivial (enters_of Tryz.func191 (by kernel_rfl) rfl)
    (K := fun b => b = w1.heap.size + 1 + 1 ∨ (Value.slice la ls.length lc).ownBlock = some b)
    (values_seq 2 (by omega) (w1.heap.size + 1 + 1) 0 _ ls _ _ hbv hrow2 (by omega) (.inl rfl) (fun b hb => .inr hb) (w1.heap.size + 1 + 1))
    (by rintro b (rfl | hb)
        · rw [hszN]; omega
        · have := hown b hb; rw [hszN]; omega) (by rw [hszN]; omega) (fun _ => rfl)
    (fun pre W => ∃ ps qs rest, ls = pre ++ rest ∧ bothF A U rest ps qs = some res ∧ ps.length = pre.length ∧ qs.length = pre.length ∧ Two (w1.heap.size + 3) w1.heap.size (w1.heap.size + 1) W ps qs ∧ Below w1.heap.size w1 W)
    (fun c pre W => c = .ret ∧ res.1 ≠ 0 ∧ Boxed W (w.heap.size + 1) 9 (.string ⟨#[]⟩) ∧ Boxed W (w.heap.size + 1 + 1) 9 (.string ⟨#[]⟩) ∧ Boxed W (w.heap.size + 1 + 1 + 1) 44 (.int .i64 res.1) ∧ Below w.heap.size w W)
    (fun pre X Y hs ho => by
      obtain ⟨ps, qs, rest, h1, h2, h3, h4, h5, h6⟩ := hs
      exact ⟨ps, qs, rest, h1, h2, h3, h4, two_othR h5 (by omega) (by omega) (by omega) ho, below_othR h6 (Nat.le_refl _) (by rw [hszN]; omega) (by omega) ho⟩)
    (fun c pre X Y hs ho => by
      obtain ⟨h1, h2, h3, h4, h5, h6⟩ := hs
      exact ⟨h1, h2, boxed_oth h3 (by omega) ho, boxed_oth h4 (by omega) ho, boxed_oth h5 (by omega) ho, below_othR h6 (Nat.le_refl _) (by rw [hszN]; omega) (by omega) ho⟩)
    ⟨[], [], ls, rfl, hres, rfl, rfl, ⟨_, _, _, _, hb9, hb10, World.ownsRow_nil _ _ _ _, World.ownsRow_nil _ _ _ _, fun b hb => (by cases hb), fun b hb => (by cases hb)⟩, hW2⟩
    (fun x => { tmps := #[.agg #[v0, v1, v2, v3, v4], .string ⟨⟨s⟩⟩, .pointer (some ⟨w.heap.size, 0, none⟩), undef, .pointer (some ⟨w.heap.size + 1, 0, none⟩), .pointer (some ⟨w.heap.size + 1 + 1, 0, none⟩), .pointer (some ⟨w.heap.size + 1 + 1 + 1, 0, none⟩), .slice la ls.length lc, .int .i64 0,
      .pointer (some ⟨w1.heap.size, 0, none⟩), .pointer (some ⟨w1.heap.size + 1, 0, none⟩), .string ⟨⟨x⟩⟩, undef, undef, undef, undef, undef, .tuple #[.slice la ls.length lc, .int .i64 0], .agg #[v0, v1, v2, v3, v4], .string ⟨⟨s⟩⟩, .tuple #[.slice la ls.length lc, .int .i64 0], .slice la ls.length lc, .int .i64 0, .int .i64 0, .bool false, undef, .slice la ls.length lc,
      .func (.func 191) #[] #[.pointer (some ⟨w1.heap.size + 1 + 1, 0, none⟩)], .string ⟨⟨x⟩⟩, undef, undef, undef, undef, undef, undef, undef, undef, undef, undef, undef, undef, undef, undef, undef, undef, undef, undef, undef, undef, undef, undef, undef, undef, undef, undef, undef, undef, undef, undef, undef], defers := [] }) ?assign ?body ?done ?stop
  case assign =>
    intro l x W K hK
    gi_wp2
    exact hK
  case body =>
    rintro l pre x W hsz hpre ⟨ps, qs, rest, hls, hbf, hlp, hlq, hTwo, hbel⟩
    obtain ⟨rest', rfl⟩ : ∃ r, rest = x :: r := by
      obtain ⟨t, ht⟩ := hpre
      rw [hls, List.append_assoc] at ht
      have := List.append_cancel_left ht
      exact ⟨t, by simpa using this.symm⟩
    simp only [bothF] at hbf
    obtain ⟨⟨a1, a2⟩, ha, hbf2⟩ := Option.bind_eq_some_iff.1 hbf
    simp only at hbf2
    rw [hszN] at hsz
    have hWw : Below w.heap.size w W := hb0.trans (hbel.mono (by omega))
    have hcA := hA x _ ha W hWw
    obtain ⟨t0, t1, t2, t3, t4⟩ := hT W hbel
    by_cases hz : a2 = 0
    · subst hz
      have hbf3 : ((U x).bind fun u => bothF A U rest' (ps ++ [a1]) (qs ++ [u.1])) = some res := hbf2
      obtain ⟨⟨u1, u2⟩, hu, hbf4⟩ := Option.bind_eq_some_iff.1 hbf3
      simp only at hbf4
      have hcU := hU x _ hu
      gi_wp2_with (first
        | (refine ⟨trivial, ?_⟩; gi_at_call 159; refine (CallsIn.inRound l (callsIn_wide.2 hcA)).mono ?_; rintro e W3 ⟨rfl, hb3⟩; have hbel3 : Below w1.heap.size w1 W3 := hbel.trans (hb3.mono (by omega)); obtain ⟨t5, t6, t7, t8, t9⟩ := hT W3 hbel3)
        | (refine ⟨trivial, ?_⟩; gi_at_call 160; refine (CallsIn.inRound l (callsIn_wide.2 (hcU W3 (hb0.trans (hbel3.mono (by omega)))))).mono ?_; rintro e W4 ⟨rfl, hb4⟩))
      have hb34 : Below W.heap.size W W4 := hb3.trans (hb4.mono hb3.size)
      have hTwo4 : Two (w1.heap.size + 3) w1.heap.size (w1.heap.size + 1) W4 ps qs := two_othR (N := 0) (Bs := w1.heap.size + 1 + 1) hTwo (by omega) (by omega) (by omega) (Oth.of_below hb34).toR
      have hll2 : pre.length ≤ 32 := by have := hpre.length_le; simp at this; omega
      refine wpIn_mono (c := Code.region 11 ops11 true) (region11 l _ ps qs a1 u1 (by omega) (by omega) _ w1.heap.size (w1.heap.size + 3) w1.heap.size (w1.heap.size + 1) (by omega) W4 (gi_below hg1 (hbel3.trans (hb4.mono (by have := hbel3.size; omega)))) (fun b hb => (hg1.b b hb).1) (by omega) (Nat.le_refl _) (by omega) hTwo4 rfl (by have := hb34.size; omega) rfl rfl rfl rfl) ?_
      rintro e a' w' ⟨rfl, hTwo', o1, o2, o3, o4, o5, o6⟩
      refine ⟨⟨Nat.le_trans hb34.size o4, fun k o _ hk hc => o6 k o ((hb34.block k (lt_of_some hk)).trans hk) hc⟩, ?_, ps ++ [a1], qs ++ [u1], rest', by simp [hls], hbf4, by simp; omega, by simp; omega, hTwo', ?_⟩
      · rintro b (rfl | hb)
        · rw [o5 _ (by omega) (by omega) (by omega), hb34.block _ (by omega)]
        · have := hown b hb
          rw [o5 _ (by omega) (by omega) (by omega), hb34.block _ (by omega)]
      · exact (hbel.trans (hb34.mono (by omega))).trans ⟨o1, o2, o3, o4, fun k hk => o5 k (by omega) (by omega) (by omega)⟩
    · have hbf3 : some (a2, ([] : List (List UInt8)), ([] : List (List UInt8))) = some res := by
        rw [← hbf2, show (a2 != 0) = true by simpa using hz]; rfl
      cases hbf3
      gi_wp2_with (refine ⟨trivial, ?_⟩; gi_at_call 159; refine (CallsIn.inRound l (callsIn_wide.2 hcA)).mono ?_; rintro e W3 ⟨rfl, hb3⟩; have hbel3 : Below w1.heap.size w1 W3 := hbel.trans (hb3.mono (by omega)); obtain ⟨q1, q2, q3⟩ := hR W3 hbel3; have q4 := q1.cell; have q5 := q1.frozen; have q6 := q2.cell; have q7 := q2.frozen; have q8 := q3.cell; have q9 := q3.frozen)
      refine ⟨KeepsFrom.trans ⟨hb3.size, fun k o _ h _ => (hb3.block k (lt_of_some h)).trans h⟩ ((((KeepsOthers.setCell _ _ _).trans (KeepsOthers.setCell _ _ _)).trans (KeepsOthers.setCell _ _ _)).from _), rfl, ?_, ?_, ?_, ?_⟩
      · exact setBox (setBox (Boxed.set _ q1) (by omega)) (by omega)
      · exact setBox (Boxed.set _ (setBox q2 (by omega))) (by omega)
      · exact Boxed.set _ (setBox (setBox q3 (by omega)) (by omega))
      · exact (((hb0.trans (hbel3.mono (by omega))).setCell (p := ⟨w.heap.size + 1, 0, none⟩) (show w.heap.size ≤ w.heap.size + 1 by omega) _).setCell (p := ⟨w.heap.size + 1 + 1, 0, none⟩) (show w.heap.size ≤ w.heap.size + 1 + 1 by omega) _).setCell (p := ⟨w.heap.size + 1 + 1 + 1, 0, none⟩) (show w.heap.size ≤ w.heap.size + 1 + 1 + 1 by omega) _
  case done =>
    rintro D W hD ⟨ps, qs, rest, hls, hbf, hlp, hlq, hTwo, hbel⟩ hK
    have hrest : rest = [] := by
      have := congrArg List.length hls
      simp at this
      exact this
    subst hrest
    have hres' : (0, ps, qs) = res := Option.some.inj hbf
    subst hres'
    have ho : ((joinF (ps, [46], ())).bind fun ja => bif decide (253 < ja.1.length) then some (([] : List UInt8), ([] : List UInt8), (5 : Int)) else (joinF (qs, [46], ())).bind fun ju => some (ja.1, ju.1, 0)) = some (oa, ou, oc) := hout
    obtain ⟨⟨ja, ju0⟩, hja, ho2⟩ := Option.bind_eq_some_iff.1 ho
    obtain ⟨va, vu, ta, tu, bx9, bx10, rw9, rw10, _, _⟩ := hTwo.ex
    have hcj := join_call rw9 hja (gi_below hg1 hbel)
    have c9 := bx9.cell
    have c10 := bx10.cell
    have hDW : D < W.heap.size := lt_of_some hK
    rw [hszN] at hD
    have hs8 : w1.heap.size ≤ W.heap.size := hbel.size
    clear hls hbf hout ho hres hll hlp hlq
    by_cases h253 : 253 < ja.length
    · have ho3 : some (([] : List UInt8), ([] : List UInt8), (5 : Int)) = some (oa, ou, oc) := by rw [← ho2]; simp only; rw [decide_eq_true h253]; rfl
      cases ho3
      gi_wp2_with (refine ⟨trivial, ?_⟩; gi_at_call 73; refine (callsIn_wide.2 hcj).mono ?_; rintro e W5 ⟨rfl, hb5⟩; have hbel5 : Below w1.heap.size w1 W5 := hbel.trans (hb5.mono (by have := hbel.size; omega)); obtain ⟨q1, q2, q3⟩ := hR W5 hbel5; have q4 := q1.cell; have q5 := q1.frozen; have q6 := q2.cell; have q7 := q2.frozen; have q8 := q3.cell; have q9 := q3.frozen)
      have hKX : ((((W5.setCell ⟨w.heap.size + 1, 0, none⟩ (.string ⟨#[]⟩)).setCell ⟨w.heap.size + 1 + 1, 0, none⟩ (.string ⟨#[]⟩)).setCell ⟨w.heap.size + 1 + 1 + 1, 0, none⟩ (.int .i64 5))).heap[D]? = some (.deferred (some [])) := by
        rw [Below.heap_setCell _ _ _ _ (show D ≠ w.heap.size + 1 + 1 + 1 by omega), Below.heap_setCell _ _ _ _ (show D ≠ w.heap.size + 1 + 1 by omega), Below.heap_setCell _ _ _ _ (show D ≠ w.heap.size + 1 by omega)]
        exact (hb5.block D hDW).trans hK
      refine ⟨by simp, .inl ⟨_, _, rfl, run_takeDeferred hKX, ?_⟩⟩
      have e1 := setBox (b' := w.heap.size + 1 + 1 + 1) (u := (.int .i64 5)) (setBox (b' := w.heap.size + 1 + 1) (u := (.string ⟨#[]⟩)) (Boxed.set (.string ⟨#[]⟩) q1) (by omega)) (by omega)
      have e2 := setBox (b' := w.heap.size + 1 + 1 + 1) (u := (.int .i64 5)) (Boxed.set (.string ⟨#[]⟩) (setBox (b' := w.heap.size + 1) (u := (.string ⟨#[]⟩)) q2 (by omega))) (by omega)
      have e3 := Boxed.set (.int .i64 5) (setBox (b' := w.heap.size + 1 + 1) (u := (.string ⟨#[]⟩)) (setBox (b' := w.heap.size + 1) (u := (.string ⟨#[]⟩)) q3 (by omega)) (by omega))
      have hc1 := cell_kept e1.cell (grownBy_putObj' _ D (.deferred none)) (fun r e => by cases e; exact ⟨_, hKX, rfl⟩)
      have hc2 := cell_kept e2.cell (grownBy_putObj' _ D (.deferred none)) (fun r e => by cases e; exact ⟨_, hKX, rfl⟩)
      have hc3 := cell_kept e3.cell (grownBy_putObj' _ D (.deferred none)) (fun r e => by cases e; exact ⟨_, hKX, rfl⟩)
      have hbX := (((hb0.trans (hbel5.mono (show w.heap.size ≤ w1.heap.size by omega))).setCell (p := ⟨w.heap.size + 1, 0, none⟩) (show w.heap.size ≤ w.heap.size + 1 by omega) (.string ⟨#[]⟩)).setCell (p := ⟨w.heap.size + 1 + 1, 0, none⟩) (show w.heap.size ≤ w.heap.size + 1 + 1 by omega) (.string ⟨#[]⟩)).setCell (p := ⟨w.heap.size + 1 + 1 + 1, 0, none⟩) (show w.heap.size ≤ w.heap.size + 1 + 1 + 1 by omega) (.int .i64 5)
      refine ⟨.tuple #[(.string ⟨#[]⟩), (.string ⟨#[]⟩), (.int .i64 5)], ?_, rfl, hbX.trans (belowK_b (w := w) (Nat.le_refl _) _ D _ _ (by omega) hKX rfl rfl)⟩
      simp [results, Tryz.f124, go_sem, hc1, hc2, hc3]
    · have ho3 : ((joinF (qs, [46], ())).bind fun ju => some (ja, ju.1, (0 : Int))) = some (oa, ou, oc) := by rw [← ho2]; simp only; rw [decide_eq_false h253]; rfl
      obtain ⟨⟨ju, ju1⟩, hju, ho4⟩ := Option.bind_eq_some_iff.1 ho3
      cases ho4
      gi_wp2_with (first
        | (refine ⟨trivial, ?_⟩; gi_at_call 73; refine (callsIn_wide.2 hcj).mono ?_; clear hcj; rintro e W5 ⟨rfl, hb5⟩; have hbel5 : Below w1.heap.size w1 W5 := hbel.trans (hb5.mono (by have := hbel.size; omega)); have c11 : W5.cell? ⟨w1.heap.size + 1, 0, none⟩ = some vu := (hb5.cell (p := ⟨w1.heap.size + 1, 0, none⟩) bx10.lt).trans c10; have hcj2 := join_call (ownsRow_oth (N := 0) (Bs := w1.heap.size + 1 + 1) (by omega) rw10 (Oth.of_below hb5).toR) hju (gi_below hg1 hbel5))
        | (refine ⟨trivial, ?_⟩; gi_at_call 73; refine (callsIn_wide.2 hcj2).mono ?_; clear hcj2; rintro e W6 ⟨rfl, hb6⟩; have hbel6 : Below w1.heap.size w1 W6 := hbel5.trans (hb6.mono (by have := hbel5.size; omega)); obtain ⟨q1, q2, q3⟩ := hR W6 hbel6; have q4 := q1.cell; have q5 := q1.frozen; have q6 := q2.cell; have q7 := q2.frozen; have q8 := q3.cell; have q9 := q3.frozen))
      have hKX : ((((W6.setCell ⟨w.heap.size + 1, 0, none⟩ (.string ⟨⟨oa⟩⟩)).setCell ⟨w.heap.size + 1 + 1, 0, none⟩ (.string ⟨⟨ju⟩⟩)).setCell ⟨w.heap.size + 1 + 1 + 1, 0, none⟩ (.int .i64 0))).heap[D]? = some (.deferred (some [])) := by
        rw [Below.heap_setCell _ _ _ _ (show D ≠ w.heap.size + 1 + 1 + 1 by omega), Below.heap_setCell _ _ _ _ (show D ≠ w.heap.size + 1 + 1 by omega), Below.heap_setCell _ _ _ _ (show D ≠ w.heap.size + 1 by omega)]
        exact (hb6.block D (Nat.lt_of_lt_of_le hDW hb5.size)).trans ((hb5.block D hDW).trans hK)
      refine ⟨by simp, .inl ⟨_, _, rfl, run_takeDeferred hKX, ?_⟩⟩
      have e1 := setBox (b' := w.heap.size + 1 + 1 + 1) (u := (.int .i64 0)) (setBox (b' := w.heap.size + 1 + 1) (u := (.string ⟨⟨ju⟩⟩)) (Boxed.set (.string ⟨⟨oa⟩⟩) q1) (by omega)) (by omega)
      have e2 := setBox (b' := w.heap.size + 1 + 1 + 1) (u := (.int .i64 0)) (Boxed.set (.string ⟨⟨ju⟩⟩) (setBox (b' := w.heap.size + 1) (u := (.string ⟨⟨oa⟩⟩)) q2 (by omega))) (by omega)
      have e3 := Boxed.set (.int .i64 0) (setBox (b' := w.heap.size + 1 + 1) (u := (.string ⟨⟨ju⟩⟩)) (setBox (b' := w.heap.size + 1) (u := (.string ⟨⟨oa⟩⟩)) q3 (by omega)) (by omega))
      have hc1 := cell_kept e1.cell (grownBy_putObj' _ D (.deferred none)) (fun r e => by cases e; exact ⟨_, hKX, rfl⟩)
      have hc2 := cell_kept e2.cell (grownBy_putObj' _ D (.deferred none)) (fun r e => by cases e; exact ⟨_, hKX, rfl⟩)
      have hc3 := cell_kept e3.cell (grownBy_putObj' _ D (.deferred none)) (fun r e => by cases e; exact ⟨_, hKX, rfl⟩)
      have hbX := (((hb0.trans (hbel6.mono (show w.heap.size ≤ w1.heap.size by omega))).setCell (p := ⟨w.heap.size + 1, 0, none⟩) (show w.heap.size ≤ w.heap.size + 1 by omega) (.string ⟨⟨oa⟩⟩)).setCell (p := ⟨w.heap.size + 1 + 1, 0, none⟩) (show w.heap.size ≤ w.heap.size + 1 + 1 by omega) (.string ⟨⟨ju⟩⟩)).setCell (p := ⟨w.heap.size + 1 + 1 + 1, 0, none⟩) (show w.heap.size ≤ w.heap.size + 1 + 1 + 1 by omega) (.int .i64 0)
      refine ⟨.tuple #[(.string ⟨⟨oa⟩⟩), (.string ⟨⟨ju⟩⟩), (.int .i64 0)], ?_, rfl, hbX.trans (belowK_b (w := w) (Nat.le_refl _) _ D _ _ (by omega) hKX rfl rfl)⟩
      simp [results, Tryz.f124, go_sem, hc1, hc2, hc3]
  case stop =>
    rintro D c pre W hD hpre ⟨rfl, hne, h1, h2, h3, hbel⟩ hK
    have ho : some (([] : List UInt8), ([] : List UInt8), res.1) = some (oa, ou, oc) := by
      rw [← hout]
      unfold outF
      rw [show (res.1 != 0) = true by simpa using hne]; rfl
    cases ho
    gi_wp2
    refine ⟨by simp, .inl ⟨_, _, rfl, run_takeDeferred hK, ?_⟩⟩
    have hc1 := cell_kept h1.cell (grownBy_putObj' _ D (.deferred none)) (fun r e => by cases e; exact ⟨_, hK, rfl⟩)
    have hc2 := cell_kept h2.cell (grownBy_putObj' _ D (.deferred none)) (fun r e => by cases e; exact ⟨_, hK, rfl⟩)
    have hc3 := cell_kept h3.cell (grownBy_putObj' _ D (.deferred none)) (fun r e => by cases e; exact ⟨_, hK, rfl⟩)
    rw [hszN] at hD
    refine ⟨.tuple #[.string ⟨#[]⟩, .string ⟨#[]⟩, .int .i64 res.1], ?_, rfl, hbel.trans (belowK_b (w := w) (Nat.le_refl _) W D _ _ (by omega) hK rfl rfl)⟩
    simp [results, Tryz.f124, go_sem, hc1, hc2, hc3]
set_option maxHeartbeats 4000000 in
theorem both_err (v0 v1 v2 v3 v4 : Value) (s : List UInt8) (c : Int) (hc : c ≠ 0) (w : World)
    (hlab : ∀ W, Below w.heap.size w W → Calls Tryz.prog 157 #[.agg #[v0, v1, v2, v3, v4], .string ⟨⟨s⟩⟩] W fun e w' => ∃ v, e = .returned (.tuple #[v, .int .i64 c]) ∧ Below W.heap.size W w') :
    Calls Tryz.prog 124 #[.agg #[v0, v1, v2, v3, v4], .string ⟨⟨s⟩⟩] w fun e w' => e = .returned (.tuple #[.string ⟨#[]⟩, .string ⟨#[]⟩, .int .i64 c]) ∧ Below w.heap.size w w' := by
  have hW0 : Below w.heap.size w ((((w.alloc (.cells #[v0, v1, v2, v3, v4] 39)).alloc (.cells #[.string ⟨#[]⟩] 9)).alloc (.cells #[.string ⟨#[]⟩] 9)).alloc (.cells #[.int .i64 0] 44)) :=
    ((((Below.refl _ w).alloc (Nat.le_refl _) _).alloc (by simp) _).alloc (by simp <;> omega) _).alloc (by simp <;> omega) _
  have hR : ∀ X, Below (w.heap.size + 4) ((((w.alloc (.cells #[v0, v1, v2, v3, v4] 39)).alloc (.cells #[.string ⟨#[]⟩] 9)).alloc (.cells #[.string ⟨#[]⟩] 9)).alloc (.cells #[.int .i64 0] 44)) X → Boxed X (w.heap.size + 1) 9 (.string ⟨#[]⟩) ∧ Boxed X (w.heap.size + 1 + 1) 9 (.string ⟨#[]⟩) ∧ Boxed X (w.heap.size + 1 + 1 + 1) 44 (.int .i64 0) := fun X hX => by
    refine ⟨?_, ?_, ?_⟩
    · show X.heap[_]? = _
      rw [hX.block _ (by omega), Below.heap_alloc _ _ _ (by simp <;> omega), Below.heap_alloc _ _ _ (by simp)]
      have := heap_alloc_new (w.alloc (.cells #[v0, v1, v2, v3, v4] 39)) (.cells #[.string ⟨#[]⟩] 9)
      rwa [World.size_alloc] at this
    · show X.heap[_]? = _
      rw [hX.block _ (by omega), Below.heap_alloc _ _ _ (by simp)]
      have := heap_alloc_new ((w.alloc (.cells #[v0, v1, v2, v3, v4] 39)).alloc (.cells #[.string ⟨#[]⟩] 9)) (.cells #[.string ⟨#[]⟩] 9)
      rwa [World.size_alloc, World.size_alloc] at this
    · show X.heap[_]? = _
      rw [hX.block _ (by omega)]
      have := heap_alloc_new (((w.alloc (.cells #[v0, v1, v2, v3, v4] 39)).alloc (.cells #[.string ⟨#[]⟩] 9)).alloc (.cells #[.string ⟨#[]⟩] 9)) (.cells #[.int .i64 0] 44)
      rwa [World.size_alloc, World.size_alloc, World.size_alloc] at this
  have hl := hlab _ hW0
  clear hlab
  go_enter Tryz.func124, Tryz.ntmps124
  go_wp2_with (go_at_call 157; refine hl.mono ?_; rintro e w1 ⟨lv, rfl, hb1⟩; obtain ⟨q1, q2, q3⟩ := hR w1 (hb1.mono (by simp)); have q4 := q1.cell; have q5 := q1.frozen; have q6 := q2.cell; have q7 := q2.frozen; have q8 := q3.cell; have q9 := q3.frozen)
  have e1 := setBox (b' := w.heap.size + 1 + 1 + 1) (u := (.int .i64 c)) (setBox (b' := w.heap.size + 1 + 1) (u := (.string ⟨#[]⟩)) (Boxed.set (.string ⟨#[]⟩) q1) (by omega)) (by omega)
  have e2 := setBox (b' := w.heap.size + 1 + 1 + 1) (u := (.int .i64 c)) (Boxed.set (.string ⟨#[]⟩) (setBox (b' := w.heap.size + 1) (u := (.string ⟨#[]⟩)) q2 (by omega))) (by omega)
  have e3 := Boxed.set (.int .i64 c) (setBox (b' := w.heap.size + 1 + 1) (u := (.string ⟨#[]⟩)) (setBox (b' := w.heap.size + 1) (u := (.string ⟨#[]⟩)) q3 (by omega)) (by omega))
  have hc1 := e1.cell
  have hc2 := e2.cell
  have hc3 := e3.cell
  have hbX := (((hW0.trans (hb1.mono (by simp <;> omega))).setCell (p := ⟨w.heap.size + 1, 0, none⟩) (show w.heap.size ≤ w.heap.size + 1 by omega) (.string ⟨#[]⟩)).setCell (p := ⟨w.heap.size + 1 + 1, 0, none⟩) (show w.heap.size ≤ w.heap.size + 1 + 1 by omega) (.string ⟨#[]⟩)).setCell (p := ⟨w.heap.size + 1 + 1 + 1, 0, none⟩) (show w.heap.size ≤ w.heap.size + 1 + 1 + 1 by omega) (.int .i64 c)
  (try simp only [Exit.inBlock, Exit.then])
  refine bodyPost_ret (by simp [results, Tryz.results124, go_sem, hc1, hc2, hc3]; try rfl) rfl ?_
  exact ⟨rfl, hbX⟩
theorem tbl_int {f : FuncId} {fn : Func} {F : T159} (h : FnOk Tryz.prog f ⟨f159_ins, f159_outs, F⟩) (hf : Tryz.prog.funcs[f]? = some fn) (hb : fn.body.isSome = true) (hname : (fn.name == "runtime.NumGoroutine") = false) {t0 t1 t2} {x r : List UInt8} {c : Int} (hF : F (t0, t1, t2, x, ()) = some (r, c, ()))
    {w : World} {m : Md} (gi : GI w m) (hlt : ∀ b, m.a b → b < w.heap.size) {a : Array Value} (ht : RepL w m [] (tabA t0 t1 t2) a.toList) :
    Calls Tryz.prog f #[.agg a, .string ⟨⟨x⟩⟩] w fun e w' => e = .returned (.tuple #[.string ⟨⟨r⟩⟩, .int .i64 c]) ∧ Below w.heap.size w w' := by
  refine (FnOk.call0 (v := (t0, t1, t2, x, ())) (y := (r, c, ())) h hf hb hname gi hlt rfl ⟨_, _, rfl, ⟨a, rfl, ht⟩, _, _, rfl, rfl, rfl⟩ rfl hF ?_).mono fun e w' ⟨rv, h1, h2, ax, l', u, h3, h4⟩ => ?_
  · intro ax l' u h3
    cases osel_one_inv h3
    rfl
  · cases osel_one_inv h3
    obtain ⟨v, r', e1, ⟨b, e2, e3⟩, e4⟩ := h4
    have e4' : r' = [] := e4
    subst e4'
    cases e1
    subst h1 e2
    refine ⟨?_, h2⟩
    obtain ⟨v1, q1, f1, rfl, v2, q2, f2, ⟨rfl, _⟩, f4⟩ := e3
    have f4' : q2 = [] := f4
    subst f4' f2
    cases b
    cases f1
    rfl
theorem tbl_bool {f : FuncId} {fn : Func} {F : T151} (h : FnOk Tryz.prog f ⟨f151_ins, f151_outs, F⟩) (hf : Tryz.prog.funcs[f]? = some fn) (hb : fn.body.isSome = true) (hname : (fn.name == "runtime.NumGoroutine") = false) {t0 t1 t2} {x r : List UInt8} {c : Bool} (hF : F (t0, t1, t2, x, ()) = some (r, c, ()))
    {w : World} {m : Md} (gi : GI w m) (hlt : ∀ b, m.a b → b < w.heap.size) {a : Array Value} (ht : RepL w m [] (tabA t0 t1 t2) a.toList) :
    Calls Tryz.prog f #[.agg a, .string ⟨⟨x⟩⟩] w fun e w' => e = .returned (.tuple #[.string ⟨⟨r⟩⟩, .bool c]) ∧ Below w.heap.size w w' := by
  refine (FnOk.call0 (v := (t0, t1, t2, x, ())) (y := (r, c, ())) h hf hb hname gi hlt rfl ⟨_, _, rfl, ⟨a, rfl, ht⟩, _, _, rfl, rfl, rfl⟩ rfl hF ?_).mono fun e w' ⟨rv, h1, h2, ax, l', u, h3, h4⟩ => ?_
  · intro ax l' u h3
    cases osel_one_inv h3
    rfl
  · cases osel_one_inv h3
    obtain ⟨v, r', e1, ⟨b, e2, e3⟩, e4⟩ := h4
    have e4' : r' = [] := e4
    subst e4'
    cases e1
    subst h1 e2
    refine ⟨?_, h2⟩
    obtain ⟨v1, q1, f1, rfl, v2, q2, f2, rfl, f4⟩ := e3
    have f4' : q2 = [] := f4
    subst f4' f2
    cases b
    cases f1
    rfl
def C124 : T124 := fun (t0, t1, t2, s, _) =>
  (C151 (t0, t1, t2, s, ())).bind fun f => (labelsF f.1 f.2.1).bind fun lc =>
    bif lc.2 != 0 then some ([], [], lc.2, ()) else
    bif decide (lc.1.length ≤ 32) then
      (bothF (fun x => (C159 (t0, t1, t2, x, ())).map fun r => (r.1, r.2.1)) (fun x => (C160 (t0, t1, t2, x, ())).map fun r => (r.1, r.2.1)) lc.1 [] []).bind fun res => (outF res).map fun o => (o.1, o.2.1, o.2.2, ())
    else none
theorem ok124 : FnOk Tryz.prog 124 (E124 C124) := by
  refine hand Tryz.func124 (by kernel_rfl) (by kernel_rfl) (fun _ => rfl) (fun _ => rfl) ?_
  rintro ⟨t0, t1, t2, s, u⟩ y hy w m args gi hn hlt hargs
  obtain ⟨va, r1, e1, ⟨a, rfl, ht⟩, vs, r2, e2, e3, e4⟩ := hargs
  have e4' : r2 = [] := e4
  have e3' : vs = .string ⟨⟨s⟩⟩ := e3
  subst e4' e3' e2
  have ha : args = #[.agg a, .string ⟨⟨s⟩⟩] := by cases args; simpa using e1
  subst ha
  have ht0 : RepL w m [] (tabA t0 t1 t2) a.toList := ht
  have hst : ∀ W, Below w.heap.size w W → Stp w m W m := fun W hb => stp_below hb fun b hb => (hn b hb).elim
  have htW : ∀ W, Below w.heap.size w W → RepL W m [] (tabA t0 t1 t2) a.toList := fun W hb => RepL.mono (hst W hb) (fun _ _ h => h) _ _ ht0
  have hltW : ∀ W, Below w.heap.size w W → ∀ b, m.a b → b < W.heap.size := fun W hb b h => Nat.lt_of_lt_of_le (hlt b h) hb.size
  have g0 : GI w m0 := ⟨gi.i, fun b hb => ⟨(gi.b b hb).1, fun h => h⟩⟩
  obtain ⟨v0, v1, v2, v3, v4, rfl⟩ : ∃ v0 v1 v2 v3 v4, a = #[v0, v1, v2, v3, v4] := by
    obtain ⟨w0, q0, f0, _, w1, q1, f1, _, w2, q2, f2, _, w3, q3, f3, _, w4, q4, f4, _, f5⟩ := ht0
    have f5' : q4 = [] := f5
    subst f5' f4 f3 f2 f1
    exact ⟨w0, w1, w2, w3, w4, by cases a; simpa using f0⟩
  have hy1 : ((C151 (t0, t1, t2, s, ())).bind fun f => (labelsF f.1 f.2.1).bind fun lc =>
    bif lc.2 != 0 then some ([], [], lc.2, ()) else
    bif decide (lc.1.length ≤ 32) then
      (bothF (fun x => (C159 (t0, t1, t2, x, ())).map fun r => (r.1, r.2.1)) (fun x => (C160 (t0, t1, t2, x, ())).map fun r => (r.1, r.2.1)) lc.1 [] []).bind fun res => (outF res).map fun o => (o.1, o.2.1, o.2.2, ())
    else none) = some y := hy
  obtain ⟨⟨f, ok, u0⟩, hf, hy2⟩ := Option.bind_eq_some_iff.1 hy1
  obtain ⟨⟨ls, c⟩, hls, hy3⟩ := Option.bind_eq_some_iff.1 hy2
  simp only at hls hy3
  have hfold : ∀ W, Below w.heap.size w W → Calls Tryz.prog 151 #[.agg #[v0, v1, v2, v3, v4], .string ⟨⟨s⟩⟩] W fun e W' => e = .returned (.tuple #[.string ⟨⟨f⟩⟩, .bool ok]) ∧ Below W.heap.size W W' :=
    fun W hb => tbl_bool ok151 Tryz.func151 (by kernel_rfl) (by kernel_rfl) hf (gi.mono (hst W hb)) (hltW W hb) (htW W hb)
  have hlab : ∀ W, Below w.heap.size w W → Calls Tryz.prog 157 #[.agg #[v0, v1, v2, v3, v4], .string ⟨⟨s⟩⟩] W fun e w' => ∃ v, e = .returned (.tuple #[v, .int .i64 c]) ∧ Below W.heap.size W w' ∧ w'.ownsRow W.heap.size 9 1 v ls.length (ls.map encS) :=
    fun W hb => labels_walk v0 v1 v2 v3 v4 s f ok ls c W (gi_below g0 hb) hls fun W2 hb2 => hfold W2 (hb.trans (hb2.mono hb.size))
  suffices hmain : ∃ oa ou oc, y = (oa, ou, oc, ()) ∧ Calls Tryz.prog 124 #[.agg #[v0, v1, v2, v3, v4], .string ⟨⟨s⟩⟩] w fun e w' => e = .returned (.tuple #[.string ⟨⟨oa⟩⟩, .string ⟨⟨ou⟩⟩, .int .i64 oc]) ∧ Below w.heap.size w w' by
    obtain ⟨oa, ou, oc, rfl, hc⟩ := hmain
    refine hc.mono fun e w' ⟨k1, k2⟩ => ⟨_, k1, k2, .ret, [.tuple 3, .str, .str, .int .i64], (oa, ou, oc, ()), osel_one [.tuple 3, .str, .str, .int .i64] (oa, ou, oc, ()), rfl, rfl, ?_⟩
    exact ⟨_, [], rfl, ⟨_, rfl, _, _, rfl, rfl, _, _, rfl, rfl, _, _, rfl, ⟨rfl, fun h => (by cases h)⟩, rfl⟩, rfl⟩
  by_cases hc : c = 0
  · subst hc
    have hy4 : (bif decide (ls.length ≤ 32) then
      (bothF (fun x => (C159 (t0, t1, t2, x, ())).map fun r => (r.1, r.2.1)) (fun x => (C160 (t0, t1, t2, x, ())).map fun r => (r.1, r.2.1)) ls [] []).bind fun res => (outF res).map fun o => (o.1, o.2.1, o.2.2, ())
      else none) = some y := hy3
    rcases cond_some hy4 with ⟨h32, hy5⟩ | ⟨_, hy5⟩
    case inr => cases hy5
    obtain ⟨res, hres, hy6⟩ := Option.bind_eq_some_iff.1 hy5
    obtain ⟨⟨oa, ou, oc⟩, hout, hy7⟩ := Option.map_eq_some_iff.1 hy6
    refine ⟨oa, ou, oc, hy7.symm, ?_⟩
    refine both_walk v0 v1 v2 v3 v4 s ls _ _ res w g0 (of_decide_eq_true h32) hres oa ou oc hout (fun W hb => hlab W hb) ?_ ?_
    · intro x r hr W hb
      obtain ⟨⟨r1, r2, r3⟩, hq, rfl⟩ := Option.map_eq_some_iff.1 hr
      exact tbl_int ok159 Tryz.func159 (by kernel_rfl) (by kernel_rfl) hq (gi.mono (hst W hb)) (hltW W hb) (htW W hb)
    · intro x r hr W hb
      obtain ⟨⟨r1, r2, r3⟩, hq, rfl⟩ := Option.map_eq_some_iff.1 hr
      exact tbl_int ok160 Tryz.func160 (by kernel_rfl) (by kernel_rfl) hq (gi.mono (hst W hb)) (hltW W hb) (htW W hb)
  · rcases cond_some hy3 with ⟨_, hy4⟩ | ⟨h0, _⟩
    case inr => exact (hc (by simpa using h0)).elim
    cases hy4
    exact ⟨[], [], c, rfl, both_err v0 v1 v2 v3 v4 s c hc w fun W hb => (hlab W hb).mono fun e w' ⟨v, k1, k2, _⟩ => ⟨v, k1, k2⟩⟩
end Go.Proofs.YtiacnhhmkdkpmaaGreatDoorA.W
set_option maxRecDepth 100000
set_option linter.unusedVariables false
namespace Go.Proofs.YtiacnhhmkdkpmaaGreatDoorA.W
open Go Go.Ae
abbrev T67 := LqS × Unit → Option (LqD × Int × Int × Unit)
def E67 (f : T67) : FEnt := ⟨f67_ins, f67_outs, f⟩
end Go.Proofs.YtiacnhhmkdkpmaaGreatDoorA.W
set_option maxRecDepth 100000
set_option linter.unusedVariables false
namespace Go.Proofs.YtiacnhhmkdkpmaaGreatDoorA.W
open Go Go.Ae
abbrev T126_l0 := LqS × Int × Int × LqS × Unit → Option (LqS × Unit)
abbrev T126 := LqS × Unit → Option (LqS × Unit)
def F126_l0 : LpF (LqS × Int × Int × LqS × Unit) (LqS × Unit) := fun (x0, x1, x2, x3, _) =>
 bif decide (x2 < x1) then
 bif decide (0 ≤ x2) && decide (x2 < (↑x0.length : Int)) then
 bif (↑(x0.getD x2.toNat 0).toNat : Int) == 34 then
 bif decide (x3.length + [92].length ≤ 140737488355328 / 1) then
 bif decide (0 ≤ x2) && decide (x2 < (↑x0.length : Int)) then
 bif
 decide
 ((x3 ++ [92]).length +
 [UInt8.ofNat (↑(x0.getD x2.toNat 0).toNat : Int).toNat].length ≤
 140737488355328 / 1) then
 some
 (Sum.inl
 (x0, x1, IntKind.i64.wrap (x2 + 1),
 x3 ++ [92] ++ [UInt8.ofNat (↑(x0.getD x2.toNat 0).toNat : Int).toNat],
 ()))
 else none
 else none
 else none
 else
 bif decide (0 ≤ x2) && decide (x2 < (↑x0.length : Int)) then
 bif (↑(x0.getD x2.toNat 0).toNat : Int) == 92 then
 bif decide (x3.length + [92].length ≤ 140737488355328 / 1) then
 bif decide (0 ≤ x2) && decide (x2 < (↑x0.length : Int)) then
 bif
 decide
 ((x3 ++ [92]).length +
 [UInt8.ofNat (↑(x0.getD x2.toNat 0).toNat : Int).toNat].length ≤
 140737488355328 / 1) then
 some
 (Sum.inl
 (x0, x1, IntKind.i64.wrap (x2 + 1),
 x3 ++ [92] ++ [UInt8.ofNat (↑(x0.getD x2.toNat 0).toNat : Int).toNat],
 ()))
 else none
 else none
 else none
 else
 bif decide (0 ≤ x2) && decide (x2 < (↑x0.length : Int)) then
 bif
 decide
 (x3.length + [UInt8.ofNat (↑(x0.getD x2.toNat 0).toNat : Int).toNat].length ≤
 140737488355328 / 1) then
 some
 (Sum.inl
 (x0, x1, IntKind.i64.wrap (x2 + 1), x3 ++ [UInt8.ofNat (↑(x0.getD x2.toNat 0).toNat : Int).toNat],
 ()))
 else none
 else none
 else none
 else none
 else some (Sum.inr (x3, ()))
def C126_l0 : T126_l0 := loopN (F126_l0) big
def F126 (f126_l0 : T126_l0) : T126 := fun (x0, _) =>
 (f126_l0 (x0, (↑x0.length : Int), 0, [], ())).bind fun v => some (v.1, ())
def C126 : T126 := F126 C126_l0
abbrev T89 := Int × LqS × Int × Unit → Option (LqS × Unit)
def E89 (f : T89) : FEnt := ⟨f89_ins, f89_outs, f⟩
def F89 (f126 : T126) : T89 := fun (x0, x1, x2, _) =>
 bif x0 == 1 then
 (f126 (x1, ())).bind fun v =>
 bif decide ([34].length + List.length v.1 ≤ 9223372036854775807) then
 bif decide (([34] ++ v.1).length + [34].length ≤ 9223372036854775807) then
 some ([34] ++ v.1 ++ [34], ())
 else none
 else none
 else
 bif x0 == 3 then
 bif decide ([40].length + x1.length ≤ 9223372036854775807) then
 bif decide (([40] ++ x1).length + [41].length ≤ 9223372036854775807) then
 some ([40] ++ x1 ++ [41], ())
 else none
 else none
 else
 bif x0 == 5 then
 bif decide ([91].length + x1.length ≤ 9223372036854775807) then
 bif decide (([91] ++ x1).length + [93].length ≤ 9223372036854775807) then
 some ([91] ++ x1 ++ [93], ())
 else none
 else none
 else some (x1, ())
def C89 : T89 := F89 C126
abbrev T71 := LqD × Unit → Option (LqS × LqS × Int × Bool × Unit)
def E71 (f : T71) : FEnt := ⟨f71_ins, f71_outs, f⟩
end Go.Proofs.YtiacnhhmkdkpmaaGreatDoorA.W
set_option maxRecDepth 100000
set_option linter.unusedVariables false
namespace Go.Proofs.YtiacnhhmkdkpmaaGreatDoorA.W
open Go Go.Ae
abbrev T31 := List ((LqS × (Bool × List ((LqS × LqS))))) × Unit → Option (List ((LqS × LqS)) × Unit)
def E31 (f : T31) : FEnt := ⟨f31_ins, f31_outs, f⟩
abbrev T86 := LqS × Unit → Option (Bool × Unit)
def E86 (f : T86) : FEnt := ⟨f86_ins, f86_outs, f⟩
def K86 (f96 : T96) : Calls' := fun f => Ae.lookA f [(96, E96 f96)]
theorem kok86 : KOk Tryz.prog (K86 C96) := (kok_cons ok96 (kok_nil _))
def F86 (f96 : T96) : T86 := fun (x0, _) =>
 (f96 (x0, [91], ())).bind fun v => some (v.1, ())
theorem h86 (f96 : T96) : AqF (K86 f96) 0 Tryz.f86 .nil f86_ins f86_outs (F86 f96) := fun v => by kernel_rfl
def C86 : T86 := F86 C96
theorem ok86 : FnOk Tryz.prog 86 (E86 C86) :=
 fnx (n := .nil) kok86 Tryz.func86 (by kernel_rfl) (by kernel_rfl) (ann_nil _) (fun v => by kernel_rfl) (h86 C96)
abbrev T87 := LqA × LqB × LqC × LqS × Unit → Option (LqS × Int × Unit)
def E87 (f : T87) : FEnt := ⟨f87_ins, f87_outs, f⟩
def K87 (f124 : T124) : Calls' := fun f => Ae.lookA f [(124, E124 f124)]
theorem kok87 : KOk Tryz.prog (K87 C124) := (kok_cons ok124 (kok_nil _))
def F87 (f124 : T124) : T87 := fun (x0, x1, x2, x3, _) =>
 (f124 (x0, x1, x2, x3, ())).bind fun v => some (v.1, v.2.2.1, ())
theorem h87 (f124 : T124) : AqF (K87 f124) 0 Tryz.f87 .nil f87_ins f87_outs (F87 f124) := fun v => by kernel_rfl
def C87 : T87 := F87 C124
theorem ok87 : FnOk Tryz.prog 87 (E87 C87) :=
 fnx (n := .nil) kok87 Tryz.func87 (by kernel_rfl) (by kernel_rfl) (ann_nil _) (fun v => by kernel_rfl) (h87 C124)
abbrev T44 := LqA × LqB × LqC × LqS × LqS × Unit → Option (Int × Unit)
def E44 (f : T44) : FEnt := ⟨f44_ins, f44_outs, f⟩
abbrev T30 := LqA × LqB × LqC × LqS × Unit → Option (List ((LqS × (Bool × List ((LqS × LqS))))) × Int × Unit)
def E30 (f : T30) : FEnt := ⟨f30_ins, f30_outs, f⟩
end Go.Proofs.YtiacnhhmkdkpmaaGreatDoorA.W
set_option maxRecDepth 100000
set_option linter.unusedVariables false
namespace Go.Proofs.YtiacnhhmkdkpmaaGreatDoorA.W
open Go Go.Ae
abbrev T88 := LqS × Unit → Option (Bool × Unit)
def E88 (f : T88) : FEnt := ⟨f88_ins, f88_outs, f⟩
abbrev T45 := LqS × LqS × Unit → Option (LqS × Unit)
def E45 (f : T45) : FEnt := ⟨f45_ins, f45_outs, f⟩
def K45 (f88 : T88) (f89 : T89) : Calls' := fun f => Ae.lookA f [(88, E88 f88), (89, E89 f89)]
def F45 (f88 : T88) (f89 : T89) : T45 := fun (x0, x1, _) =>
 (f88 (x0, ())).bind fun v =>
 bif !v.1 then
 (f89 (1, x0, 0, ())).bind fun v =>
 bif decide (List.length v.1 + [64].length ≤ 9223372036854775807) then
 bif decide ((v.1 ++ [64]).length + x1.length ≤ 9223372036854775807) then
 some (v.1 ++ [64] ++ x1, ())
 else none
 else none
 else
 bif decide (x0.length + [64].length ≤ 9223372036854775807) then
 bif decide ((x0 ++ [64]).length + x1.length ≤ 9223372036854775807) then
 some (x0 ++ [64] ++ x1, ())
 else none
 else none
theorem h45 (f88 : T88) (f89 : T89) : AqF (K45 f88 f89) 0 Tryz.f45 .nil f45_ins f45_outs (F45 f88 f89) := fun v => by kernel_rfl
abbrev T34 := List ((LqS × (Bool × List ((LqS × LqS))))) × Unit → Option (LqS × Unit)
def E34 (f : T34) : FEnt := ⟨f34_ins, f34_outs, f⟩
end Go.Proofs.YtiacnhhmkdkpmaaGreatDoorA.W
set_option maxRecDepth 100000
set_option linter.unusedVariables false
namespace Go.Proofs.YtiacnhhmkdkpmaaGreatDoorA.W
open Go Go.Ae
abbrev T35 := LqA × LqB × LqC × List ((LqS × (Bool × List ((LqS × LqS))))) × Unit → Option (Int × Unit)
def E35 (f : T35) : FEnt := ⟨f35_ins, f35_outs, f⟩
abbrev T29 := Unit → Option (Bool × Unit)
def E29 (f : T29) : FEnt := ⟨f29_ins, f29_outs, f⟩
abbrev T8_l0 := Int × Bool × Bool × LqS × Int × Unit → Option (Int × Bool × Bool × LqS × Unit)
def E8_l0 (f : T8_l0) : LEnt := ⟨f8_l0_ins, f8_l0_outs, f⟩
abbrev T8_c0 := Int × Bool × Bool × LqS × Unit → Option (Bool × Unit)
def E8_c0 (f : T8_c0) : LEnt := ⟨f8_c0_ins, f8_c0_outs, f⟩
def K8 (f18 : T18) (f29 : T29) (f30 : T30) (f31 : T31) : Calls' := fun f => Ae.lookA f [(18, E18 f18), (29, E29 f29), (30, E30 f30), (31, E31 f31)]
def N8 (f8_c0 : T8_c0) (f8_l0 : T8_l0) : Ann := (.seq .nil (.seq .nil (.seq .nil (.seq .nil (.seq (.seq .nil (.blk (.loop (E8_l0 f8_l0)))) (.cut .nil (E8_c0 f8_c0)))))))
def F8 (f18 : T18) (f29 : T29) (f30 : T30) (f31 : T31) (f8_c0 : T8_c0) (f8_l0 : T8_l0) : Int × Bool × Unit → Option (Bool × Unit) := fun (x0, x1, _) =>
 (f29 ()).bind fun v =>
 bif decide (x0 < 1) then some (v.1, ())
 else
 bif decide (x0 > 130) then some (v.1, ())
 else
 (f8_l0 (x0, x1, v.1, [], 0, ())).bind fun v =>
 bif v.2.1 then
 bif decide ([103, 58].length + List.length v.2.2.2.1 ≤ 9223372036854775807) then
 bif
 decide
 (([103, 58] ++ v.2.2.2.1).length + [59].length ≤ 9223372036854775807) then
 (f8_c0
 (v.1, v.2.1, v.2.2.1, [103, 58] ++ v.2.2.2.1 ++ [59],
 ())).bind
 fun v => some (v.1, ())
 else none
 else none
 else
 (f8_c0 (v.1, v.2.1, v.2.2.1, v.2.2.2.1, ())).bind fun v =>
 some (v.1, ())
theorem h8 (f18 : T18) (f29 : T29) (f30 : T30) (f31 : T31) (f8_c0 : T8_c0) (f8_l0 : T8_l0) : AqF (K8 f18 f29 f30 f31) 0 Tryz.f8 (N8 f8_c0 f8_l0) f8_ins f8_outs (F8 f18 f29 f30 f31 f8_c0 f8_l0) := fun v => by kernel_rfl
abbrev T32 := LqA × LqB × LqC × LqS × Unit → Option (LqS × LqS × Int × Unit)
def E32 (f : T32) : FEnt := ⟨f32_ins, f32_outs, f⟩
def K32 (f44 : T44) (f67 : T67) (f71 : T71) : Calls' := fun f => Ae.lookA f [(44, E44 f44), (67, E67 f67), (71, E71 f71)]
def F32 (f44 : T44) (f67 : T67) (f71 : T71) : T32 := fun (x0, x1, x2, x3, _) =>
 (f67 (x3, ())).bind fun v =>
 bif v.2.2.1 != 0 then some ([], [], v.2.2.1, ())
 else
 (f71 (v.1, ())).bind fun v1 =>
 bif !v1.2.2.2.1 then some ([], [], 4, ())
 else
 bif v1.2.2.1 != (↑(List.length v.1) : Int) then some ([], [], 4, ())
 else
 (f44 (x0, x1, x2, v1.1, v1.2.1, ())).bind fun v =>
 bif v.1 != 0 then some ([], [], v.1, ()) else some (v1.1, v1.2.1, 0, ())
theorem h32 (f44 : T44) (f67 : T67) (f71 : T71) : AqF (K32 f44 f67 f71) 0 Tryz.f32 .nil f32_ins f32_outs (F32 f44 f67 f71) := fun v => by kernel_rfl
abbrev T9_c0 := Bool × List ((LqS × (Bool × List ((LqS × LqS))))) × Int × LqS × LqS × Unit → Option (Bool × Unit)
def E9_c0 (f : T9_c0) : LEnt := ⟨f9_c0_ins, f9_c0_outs, f⟩
def K9 (f18 : T18) (f29 : T29) (f30 : T30) (f32 : T32) : Calls' := fun f => Ae.lookA f [(18, E18 f18), (29, E29 f29), (30, E30 f30), (32, E32 f32)]
def N9 (f9_c0 : T9_c0) : Ann := (.seq .nil (.seq .nil (.seq .nil (.seq .nil (.seq .nil (.seq .nil (.cut .nil (E9_c0 f9_c0))))))))
def F9 (f18 : T18) (f29 : T29) (f30 : T30) (f32 : T32) (f9_c0 : T9_c0) : LqS × Unit → Option (Bool × Unit) := fun (x0, _) =>
 (f29 ()).bind fun v =>
 bif decide ((↑x0.length : Int) > 300) then some (v.1, ())
 else
 (f18 ()).bind fun v1 =>
 (f32 (v1.1, v1.2.1, v1.2.2.1, x0, ())).bind fun v2 =>
 (f30 (v1.1, v1.2.1, v1.2.2.1, x0, ())).bind fun v3 =>
 bif v2.2.2.1 != 0 then
 bif v.1 then
 bif v2.2.2.1 == 4 then some (true, ())
 else some (v3.2.1 == v2.2.2.1, ())
 else some (false, ())
 else
 (f9_c0 (v.1, v3.1, v3.2.1, v2.1, v2.2.1, ())).bind fun v =>
 some (v.1, ())
theorem h9 (f18 : T18) (f29 : T29) (f30 : T30) (f32 : T32) (f9_c0 : T9_c0) : AqF (K9 f18 f29 f30 f32) 0 Tryz.f9 (N9 f9_c0) f9_ins f9_outs (F9 f18 f29 f30 f32 f9_c0) := fun v => by kernel_rfl
abbrev T38 := LqS × LqS × Unit → Option (Bool × Unit)
def E38 (f : T38) : FEnt := ⟨f38_ins, f38_outs, f⟩
def K38 : Calls' := fun f => Ae.lookA f []
theorem kok38 : KOk Tryz.prog (K38) := (kok_nil _)
def F38 : T38 := fun (x0, x1, _) =>
 bif decide ((↑x0.length : Int) ≤ 150) then some (decide ((↑x1.length : Int) ≤ 200), ())
 else some (false, ())
theorem h38 : AqF (K38) 0 Tryz.f38 .nil f38_ins f38_outs (F38) := fun v => by kernel_rfl
def C38 : T38 := F38
theorem ok38 : FnOk Tryz.prog 38 (E38 C38) :=
 fnx (n := .nil) kok38 Tryz.func38 (by kernel_rfl) (by kernel_rfl) (ann_nil _) (fun v => by kernel_rfl) (h38)
abbrev T33 := List ((LqS × (Bool × List ((LqS × LqS))))) × Unit → Option (Bool × Unit)
def E33 (f : T33) : FEnt := ⟨f33_ins, f33_outs, f⟩
abbrev T36 := List ((LqS × (Bool × List ((LqS × LqS))))) × List ((LqS × (Bool × List ((LqS × LqS))))) × Unit → Option (Bool × Unit)
def E36 (f : T36) : FEnt := ⟨f36_ins, f36_outs, f⟩
abbrev T10_c0 := LqS × Bool × LqA × LqB × LqC × Unit → Option (Bool × Unit)
def E10_c0 (f : T10_c0) : LEnt := ⟨f10_c0_ins, f10_c0_outs, f⟩
def K10 (f18 : T18) (f29 : T29) (f30 : T30) (f33 : T33) (f34 : T34) (f35 : T35) (f36 : T36) : Calls' := fun f => Ae.lookA f [(18, E18 f18), (29, E29 f29), (30, E30 f30), (33, E33 f33), (34, E34 f34), (35, E35 f35), (36, E36 f36)]
def N10 (f10_c0 : T10_c0) : Ann := (.seq .nil (.seq .nil (.seq .nil (.seq .nil (.seq .nil (.seq .nil (.cut .nil (E10_c0 f10_c0))))))))
def F10 (f18 : T18) (f29 : T29) (f30 : T30) (f33 : T33) (f34 : T34) (f35 : T35) (f36 : T36) (f10_c0 : T10_c0) : List ((LqS × (Bool × List ((LqS × LqS))))) × LqS × Unit → Option (Bool × Unit) := fun (x0, x1, _) =>
 (f29 ()).bind fun v =>
 (f33 (x0, ())).bind fun v1 =>
 bif !v1.1 then some (v.1, ())
 else
 bif decide ((↑x1.length : Int) > 400) then some (v.1, ())
 else
 (f18 ()).bind fun v2 =>
 (f34 (x0, ())).bind fun v3 =>
 (f35 (v2.1, v2.2.1, v2.2.2.1, x0, ())).bind fun v4 =>
 bif v4.1 == 0 then
 (f30 (v2.1, v2.2.1, v2.2.2.1, v3.1, ())).bind fun v5 =>
 bif decide ((↑(List.length v3.1) : Int) > 2000) then
 bif v5.2.1 != 5 then some (false, ())
 else
 bif decide ((↑(List.length v3.1) : Int) ≤ 2000) then
 bif v5.2.1 != 0 then some (false, ())
 else
 (f36 (v5.1, x0, ())).bind fun v6 =>
 bif !v6.1 then some (false, ())
 else
 (f10_c0 (x1, v.1, v2.1, v2.2.1, v2.2.2.1, ())).bind fun v =>
 some (v.1, ())
 else
 (f10_c0 (x1, v.1, v2.1, v2.2.1, v2.2.2.1, ())).bind fun v =>
 some (v.1, ())
 else
 bif decide ((↑(List.length v3.1) : Int) ≤ 2000) then
 bif v5.2.1 != 0 then some (false, ())
 else
 (f36 (v5.1, x0, ())).bind fun v6 =>
 bif !v6.1 then some (false, ())
 else
 (f10_c0 (x1, v.1, v2.1, v2.2.1, v2.2.2.1, ())).bind fun v =>
 some (v.1, ())
 else
 (f10_c0 (x1, v.1, v2.1, v2.2.1, v2.2.2.1, ())).bind fun v =>
 some (v.1, ())
 else
 (f10_c0 (x1, v.1, v2.1, v2.2.1, v2.2.2.1, ())).bind fun v =>
 some (v.1, ())
theorem h10 (f18 : T18) (f29 : T29) (f30 : T30) (f33 : T33) (f34 : T34) (f35 : T35) (f36 : T36) (f10_c0 : T10_c0) : AqF (K10 f18 f29 f30 f33 f34 f35 f36) 0 Tryz.f10 (N10 f10_c0) f10_ins f10_outs (F10 f18 f29 f30 f33 f34 f35 f36 f10_c0) := fun v => by kernel_rfl
end Go.Proofs.YtiacnhhmkdkpmaaGreatDoorA.W
set_option maxRecDepth 100000
set_option linter.unusedVariables false
namespace Go.Proofs.YtiacnhhmkdkpmaaGreatDoorA.W
open Go Go.Ae
abbrev T64 := Int × Unit → Option (Int × Unit)
def E64 (f : T64) : FEnt := ⟨f64_ins, f64_outs, f⟩
def K64 : Calls' := fun f => Ae.lookA f []
theorem kok64 : KOk Tryz.prog (K64) := (kok_nil _)
def F64 : T64 := fun (x0, _) =>
 bif decide (x0 ≥ 65) then
 bif decide (x0 ≤ 90) then some (IntKind.u8.wrap (IntKind.u8.wrap (x0 - 65) + 97), ())
 else some (x0, ())
 else some (x0, ())
theorem h64 : AqF (K64) 0 Tryz.f64 .nil f64_ins f64_outs (F64) := fun v => by kernel_rfl
def C64 : T64 := F64
theorem ok64 : FnOk Tryz.prog 64 (E64 C64) :=
 fnx (n := .nil) kok64 Tryz.func64 (by kernel_rfl) (by kernel_rfl) (ann_nil _) (fun v => by kernel_rfl) (h64)
abbrev T63_l0 := LqS × Int × Int × LqS × Unit → Option (LqS × Unit)
def E63_l0 (f : T63_l0) : LEnt := ⟨f63_l0_ins, f63_l0_outs, f⟩
abbrev T63 := LqS × Unit → Option (LqS × Unit)
def E63 (f : T63) : FEnt := ⟨f63_ins, f63_outs, f⟩
def K63 (f64 : T64) : Calls' := fun f => Ae.lookA f [(64, E64 f64)]
theorem kok63 : KOk Tryz.prog (K63 C64) := (kok_cons ok64 (kok_nil _))
def F63_l0 (f64 : T64) : LpF (LqS × Int × Int × LqS × Unit) (LqS × Unit) := fun (x0, x1, x2, x3, _) =>
 bif decide (x2 < x1) then
 bif decide (0 ≤ x2) && decide (x2 < (↑x0.length : Int)) then
 (f64 ((↑(UInt8.toNat (x0.getD x2.toNat 0)) : Int), ())).bind fun v =>
 bif decide (x3.length + [UInt8.ofNat (Int.toNat v.1)].length ≤ 140737488355328 / 1) then
 some (Sum.inl (x0, x1, IntKind.i64.wrap (x2 + 1), x3 ++ [UInt8.ofNat (Int.toNat v.1)], ()))
 else none
 else none
 else some (Sum.inr (x3, ()))
theorem h63_l0 (f64 : T64) : AqL (K63 f64) 0 (subc (code Tryz.f63) [1, 1, 0, 1, 0, 0]) .nil f63_l0_ins f63_l0_outs (F63_l0 f64) := fun v => by kernel_rfl
def C63_l0 : T63_l0 := loopN (F63_l0 C64) big
theorem k63_l0 : FragOk Tryz.prog 0 (fun Q a w => (Code.loop (subc (code Tryz.f63) [1, 1, 0, 1, 0, 0])).wp Tryz.prog Q a w) (E63_l0 C63_l0) :=
 frag_big (ins := f63_l0_ins) (os := f63_l0_outs) (C := C63_l0) (frag_loop (ins := f63_l0_ins) (os := f63_l0_outs) (n := .nil) (F := F63_l0 C64) hm hΓ kok63 (fun _ => big) (ann_nil _) (h63_l0 C64)) rfl
def N63 (f63_l0 : T63_l0) : Ann := (.seq .nil (.seq .nil (.seq (.seq .nil (.blk (.loop (E63_l0 f63_l0)))) .nil)))
def F63 (f64 : T64) (f63_l0 : T63_l0) : T63 := fun (x0, _) =>
 (f63_l0 (x0, (↑x0.length : Int), 0, [], ())).bind fun v => some (v.1, ())
theorem h63 (f64 : T64) (f63_l0 : T63_l0) : AqF (K63 f64) 0 Tryz.f63 (N63 f63_l0) f63_ins f63_outs (F63 f64 f63_l0) := fun v => by kernel_rfl
def C63 : T63 := F63 C64 C63_l0
theorem ok63 : FnOk Tryz.prog 63 (E63 C63) :=
 fnx (n := (N63 C63_l0)) kok63 Tryz.func63 (by kernel_rfl) (by kernel_rfl) (ann_obs (And.intro k63_l0 trivial) (by kernel_rfl)) (fun v => by kernel_rfl) (h63 C64 C63_l0)
abbrev T25 := LqS × Unit → Option (LqS × Unit)
def E25 (f : T25) : FEnt := ⟨f25_ins, f25_outs, f⟩
def K25 (f63 : T63) : Calls' := fun f => Ae.lookA f [(63, E63 f63)]
theorem kok25 : KOk Tryz.prog (K25 C63) := (kok_cons ok63 (kok_nil _))
def F25 (f63 : T63) : T25 := fun (x0, _) =>
 bif decide (x0.length ≤ 9223372036854775807) then (f63 (x0, ())).bind fun v => some (v.1, ()) else none
theorem h25 (f63 : T63) : AqF (K25 f63) 0 Tryz.f25 .nil f25_ins f25_outs (F25 f63) := fun v => by kernel_rfl
def C25 : T25 := F25 C63
theorem ok25 : FnOk Tryz.prog 25 (E25 C25) :=
 fnx (n := .nil) kok25 Tryz.func25 (by kernel_rfl) (by kernel_rfl) (ann_nil _) (fun v => by kernel_rfl) (h25 C63)
abbrev T59 := Bool × LqS × LqS × Unit → Option (Bool × Unit)
def E59 (f : T59) : FEnt := ⟨f59_ins, f59_outs, f⟩
def K59 (f25 : T25) : Calls' := fun f => Ae.lookA f [(25, E25 f25)]
theorem kok59 : KOk Tryz.prog (K59 C25) := (kok_cons ok25 (kok_nil _))
def F59 (f25 : T25) : T59 := fun (x0, x1, x2, _) =>
 bif !x0 then
 bif x2 == [] then
 (f25 (x1, ())).bind fun v =>
 some (v.1 == [112, 111, 115, 116, 109, 97, 115, 116, 101, 114], ())
 else some (false, ())
 else some (false, ())
theorem h59 (f25 : T25) : AqF (K59 f25) 0 Tryz.f59 .nil f59_ins f59_outs (F59 f25) := fun v => by kernel_rfl
def C59 : T59 := F59 C25
theorem ok59 : FnOk Tryz.prog 59 (E59 C59) :=
 fnx (n := .nil) kok59 Tryz.func59 (by kernel_rfl) (by kernel_rfl) (ann_nil _) (fun v => by kernel_rfl) (h59 C25)
def K22 (f45 : T45) (f59 : T59) : Calls' := fun f => Ae.lookA f [(45, E45 f45), (59, E59 f59)]
def F22 (f45 : T45) (f59 : T59) : Bool × LqS × LqS × Unit → Option (LqS × Unit) := fun (x0, x1, x2, _) =>
 bif x0 then some ([60, 62], ())
 else
 (f59 (x0, x1, x2, ())).bind fun v =>
 bif v.1 then
 bif decide ([60].length + x1.length ≤ 9223372036854775807) then
 bif decide (([60] ++ x1).length + [62].length ≤ 9223372036854775807) then
 some ([60] ++ x1 ++ [62], ())
 else none
 else none
 else
 (f45 (x1, x2, ())).bind fun v =>
 bif decide ([60].length + List.length v.1 ≤ 9223372036854775807) then
 bif decide (([60] ++ v.1).length + [62].length ≤ 9223372036854775807) then
 some ([60] ++ v.1 ++ [62], ())
 else none
 else none
theorem h22 (f45 : T45) (f59 : T59) : AqF (K22 f45 f59) 0 Tryz.f22 .nil f22_ins f22_outs (F22 f45 f59) := fun v => by kernel_rfl
abbrev T118 := LqA × LqB × LqC × LqS × Unit → Option (LqS × Int × Unit)
def E118 (f : T118) : FEnt := ⟨f118_ins, f118_outs, f⟩
def K118 (f21 : T21) (f87 : T87) : Calls' := fun f => Ae.lookA f [(21, E21 f21), (87, E87 f87)]
theorem kok118 : KOk Tryz.prog (K118 C21 C87) := (kok_cons ok21 (kok_cons ok87 (kok_nil _)))
def F118 (f21 : T21) (f87 : T87) : T118 := fun (x0, x1, x2, x3, _) =>
 (f87 (x0, x1, x2, x3, ())).bind fun v =>
 bif v.2.1 == 0 then
 (f21 (x3, ())).bind fun v1 =>
 bif decide (v1.1 < 0) then some (x3, 0, ()) else some (v.1, v.2.1, ())
 else some (v.1, v.2.1, ())
theorem h118 (f21 : T21) (f87 : T87) : AqF (K118 f21 f87) 0 Tryz.f118 .nil f118_ins f118_outs (F118 f21 f87) := fun v => by kernel_rfl
def C118 : T118 := F118 C21 C87
theorem ok118 : FnOk Tryz.prog 118 (E118 C118) :=
 fnx (n := .nil) kok118 Tryz.func118 (by kernel_rfl) (by kernel_rfl) (ann_nil _) (fun v => by kernel_rfl) (h118 C21 C87)
abbrev T78_c0 := Bool × LqA × LqB × LqC × LqS × LqS × LqS × LqS × Unit → Option ((Int × LqS × LqS × Unit) ⊕ (LqA × LqB × LqC × LqS × LqS × LqS × LqS × Unit))
def E78_c0 (f : T78_c0) : LEnt := ⟨f78_c0_ins, f78_c0_outs, f⟩
abbrev T78 := LqA × LqB × LqC × LqS × LqS × Unit → Option (LqS × LqS × Int × Unit)
def E78 (f : T78) : FEnt := ⟨f78_ins, f78_outs, f⟩
def K78 (f118 : T118) (f21 : T21) (f86 : T86) : Calls' := fun f => Ae.lookA f [(118, E118 f118), (21, E21 f21), (86, E86 f86)]
theorem kok78 : KOk Tryz.prog (K78 C118 C21 C86) := (kok_cons ok118 (kok_cons ok21 (kok_cons ok86 (kok_nil _))))
def F78_c0 (f118 : T118) (f21 : T21) (f86 : T86) : T78_c0 := fun (x0, x1, x2, x3, x4, x5, x6, x7, _) =>
 bif x0 then some (Sum.inl (8, [], [], ()))
 else
 (f86 (x5, ())).bind fun v =>
 bif v.1 then some (Sum.inl (0, x4, x5, ())) else some (Sum.inr (x1, x2, x3, x4, x5, x6, x7, ()))
theorem h78_c0 (f118 : T118) (f21 : T21) (f86 : T86) : AqC (K78 f118 f21 f86) 0 (subc (code Tryz.f78) [1, 0, 0, 1]) .nil f78_c0_ins f78_c0_outs (F78_c0 f118 f21 f86) := fun v => by kernel_rfl
def C78_c0 : T78_c0 := F78_c0 C118 C21 C86
theorem k78_c0 : FragOk Tryz.prog 0 (fun Q a w => (subc (code Tryz.f78) [1, 0, 0, 1]).wp Tryz.prog Q a w) (E78_c0 C78_c0) :=
 frag_code (ins := f78_c0_ins) (os := f78_c0_outs) (n := .nil) (F := C78_c0) hm hΓ kok78 (ann_nil _) (h78_c0 C118 C21 C86)
def N78 (f78_c0 : T78_c0) : Ann := (.seq .nil (.seq (.blk (.cut .nil (E78_c0 f78_c0))) .nil))
def F78 (f118 : T118) (f21 : T21) (f86 : T86) (f78_c0 : T78_c0) : T78 := fun (x0, x1, x2, x3, x4, _) =>
 (f21 (x3, ())).bind fun v =>
 bif decide (v.1 ≥ 0) then
 (f78_c0 (true, x0, x1, x2, x3, x4, [], [], ())).bind fun v =>
 Sum.elim (fun v => some (v.2.1, v.2.2.1, v.1, ()))
 (fun v =>
 (f118 (v.1, v.2.1, v.2.2.1, v.2.2.2.2.1, ())).bind fun v1 =>
 bif v1.2.1 != 0 then some ([], [], v1.2.1, ())
 else some (v.2.2.2.1, v1.1, 0, ()))
 v
 else
 (f86 (x4, ())).bind fun v =>
 bif v.1 then
 (f21 (x4, ())).bind fun v =>
 (f78_c0 (decide (v.1 ≥ 0), x0, x1, x2, x3, x4, [], [], ())).bind fun v =>
 Sum.elim (fun v => some (v.2.1, v.2.2.1, v.1, ()))
 (fun v =>
 (f118 (v.1, v.2.1, v.2.2.1, v.2.2.2.2.1, ())).bind fun v1 =>
 bif v1.2.1 != 0 then some ([], [], v1.2.1, ())
 else some (v.2.2.2.1, v1.1, 0, ()))
 v
 else
 (f78_c0 (false, x0, x1, x2, x3, x4, [], [], ())).bind fun v =>
 Sum.elim (fun v => some (v.2.1, v.2.2.1, v.1, ()))
 (fun v =>
 (f118 (v.1, v.2.1, v.2.2.1, v.2.2.2.2.1, ())).bind fun v1 =>
 bif v1.2.1 != 0 then some ([], [], v1.2.1, ())
 else some (v.2.2.2.1, v1.1, 0, ()))
 v
theorem h78 (f118 : T118) (f21 : T21) (f86 : T86) (f78_c0 : T78_c0) : AqF (K78 f118 f21 f86) 0 Tryz.f78 (N78 f78_c0) f78_ins f78_outs (F78 f118 f21 f86 f78_c0) := fun v => by kernel_rfl
def C78 : T78 := F78 C118 C21 C86 C78_c0
theorem ok78 : FnOk Tryz.prog 78 (E78 C78) :=
 fnx (n := (N78 C78_c0)) kok78 Tryz.func78 (by kernel_rfl) (by kernel_rfl) (ann_obs (And.intro k78_c0 trivial) (by kernel_rfl)) (fun v => by kernel_rfl) (h78 C118 C21 C86 C78_c0)
abbrev T39 := LqA × LqB × LqC × Bool × LqS × LqS × Unit → Option (Bool × LqS × LqS × Int × Unit)
def E39 (f : T39) : FEnt := ⟨f39_ins, f39_outs, f⟩
def K39 (f59 : T59) (f78 : T78) : Calls' := fun f => Ae.lookA f [(59, E59 f59), (78, E78 f78)]
theorem kok39 : KOk Tryz.prog (K39 C59 C78) := (kok_cons ok59 (kok_cons ok78 (kok_nil _)))
def F39 (f59 : T59) (f78 : T78) : T39 := fun (x0, x1, x2, x3, x4, x5, _) =>
 bif x3 then some (x3, x4, x5, 0, ())
 else
 (f59 (x3, x4, x5, ())).bind fun v =>
 bif v.1 then some (x3, x4, x5, 0, ())
 else
 (f78 (x0, x1, x2, x4, x5, ())).bind fun v =>
 bif v.2.2.1 != 0 then some (false, [], [], v.2.2.1, ())
 else some (false, v.1, v.2.1, 0, ())
theorem h39 (f59 : T59) (f78 : T78) : AqF (K39 f59 f78) 0 Tryz.f39 .nil f39_ins f39_outs (F39 f59 f78) := fun v => by kernel_rfl
def C39 : T39 := F39 C59 C78
theorem ok39 : FnOk Tryz.prog 39 (E39 C39) :=
 fnx (n := .nil) kok39 Tryz.func39 (by kernel_rfl) (by kernel_rfl) (ann_nil _) (fun v => by kernel_rfl) (h39 C59 C78)
end Go.Proofs.YtiacnhhmkdkpmaaGreatDoorA.W
set_option maxRecDepth 100000
set_option linter.unusedVariables false
namespace Go.Proofs.YtiacnhhmkdkpmaaGreatDoorA.W
open Go Go.Ae
def f165_ins : List Sh := [.str, .str, .int .i64, .int .i64, .iface 238, .int .i64]
def f165_outs : Outs := [(.ret, [.iface 239, .top])]
def f128_ins : List Sh := [.int .i64]
def f128_outs : Outs := [(.ret, [.bool])]
def f91_ins : List Sh := [.int .i64]
def f91_outs : Outs := [(.ret, [.int .i64])]
def f92_ins : List Sh := [.agg 2, .int .i64, .lst .str]
def f92_outs : Outs := [(.ret, [.lst .str])]
def f92_l0_ins : List Sh := (tp 3 (List.cons (.row 0) (tp 6 (List.cons (.lst .str) (List.cons (.int .i64) (List.cons (.int .i64) (tp 19 (List.cons (.orow 9 .str) []))))))))
def f92_l0_outs : Outs := [((.exit 0), (tp 3 (List.cons (.row 0) (tp 28 (List.cons (.orow 9 .str) [])))))]
def f94_ins : List Sh := [.lst .str, .str]
def f94_outs : Outs := [(.ret, [.int .i64])]
def f94_l0_ins : List Sh := (List.cons (.lst .str) (List.cons (.str) (tp 5 (List.cons (.int .i64) (List.cons (.int .i64) (tp 10 []))))))
def f94_l0_outs : Outs := [((.exit 0), (tp 19 [])), (.ret, (tp 4 (List.cons (.int .i64) (tp 14 []))))]
def f93_ins : List Sh := [.lst .str, .str]
def f93_outs : Outs := [(.ret, [.bool])]
def f198_ins : List Sh := [.int .u8]
def f198_outs : Outs := [(.ret, [.int .u8])]
def f199_ins : List Sh := [.str]
def f199_outs : Outs := [(.ret, [.bool])]
def f199_l0_ins : List Sh := (List.cons (.str) (List.cons (.top) (List.cons (.top) (List.cons (.int .i32) (List.cons (.int .i64) (List.cons (.bool) (tp 88 [])))))))
def f199_l0_outs : Outs := [((.exit 0), (tp 3 (List.cons (.int .i32) (tp 90 [])))), (.ret, (List.cons (.top) (List.cons (.top) (List.cons (.bool) (tp 91 [])))))]
def f199_c0_ins : List Sh := (List.cons (.str) (List.cons (.top) (List.cons (.top) (List.cons (.int .i32) (List.cons (.int .i64) (List.cons (.bool) (tp 88 [])))))))
def f199_c0_outs : Outs := [(.ret, (List.cons (.top) (List.cons (.top) (List.cons (.bool) (tp 91 [])))))]
def f199_c1_ins : List Sh := (List.cons (.str) (List.cons (.top) (List.cons (.top) (List.cons (.int .i32) (List.cons (.int .i64) (tp 89 []))))))
def f199_c1_outs : Outs := [(.ret, (List.cons (.top) (List.cons (.top) (List.cons (.bool) (tp 91 [])))))]
def f164_ins : List Sh := [.str, .int .i64, .int .i64]
def f164_outs : Outs := [(.ret, [.tuple 2, .int .u64, .iface 238, .int .i64]), (.ret, [.tuple 2, .int .u64, .nili])]
def f164_c0_ins : List Sh := (List.cons (.str) (List.cons (.top) (List.cons (.int .i64) (tp 5 (List.cons (.bool) (List.cons (.str) (tp 54 (List.cons (.bool) (tp 107 [])))))))))
def f164_c0_outs : Outs := [(.normal, (List.cons (.str) (List.cons (.int .i64) (List.cons (.int .i64) (tp 5 (List.cons (.bool) (List.cons (.str) (tp 162 []))))))))]
def f164_c1_ins : List Sh := (List.cons (.str) (List.cons (.top) (List.cons (.int .i64) (tp 5 (List.cons (.bool) (List.cons (.str) (tp 42 (List.cons (.bool) (tp 119 [])))))))))
def f164_c1_outs : Outs := [(.normal, (List.cons (.str) (List.cons (.int .i64) (List.cons (.int .i64) (tp 5 (List.cons (.bool) (List.cons (.str) (tp 162 []))))))))]
def f164_c2_ins : List Sh := (List.cons (.str) (List.cons (.top) (List.cons (.int .i64) (tp 5 (List.cons (.bool) (List.cons (.str) (tp 30 (List.cons (.bool) (tp 131 [])))))))))
def f164_c2_outs : Outs := [(.normal, (List.cons (.str) (List.cons (.int .i64) (List.cons (.int .i64) (tp 5 (List.cons (.bool) (List.cons (.str) (tp 162 []))))))))]
def f164_c3_ins : List Sh := (List.cons (.str) (List.cons (.int .i64) (List.cons (.int .i64) (tp 5 (List.cons (.bool) (List.cons (.str) (tp 15 (List.cons (.bool) (tp 146 [])))))))))
def f164_c3_outs : Outs := [(.normal, (List.cons (.str) (List.cons (.int .i64) (List.cons (.int .i64) (tp 5 (List.cons (.bool) (List.cons (.str) (tp 162 [])))))))), (.ret, (tp 6 (List.cons (.int .u64) (List.cons (.iface 238) (List.cons (.int .i64) (tp 164 []))))))]
def f164_c4_ins : List Sh := (List.cons (.top) (List.cons (.int .i64) (tp 6 (List.cons (.bool) (List.cons (.str) (List.cons (.int .u64) (List.cons (.int .u64) (List.cons (.bool) (List.cons (.int .u64) (List.cons (.top) (List.cons (.int .u8) (tp 83 (List.cons (.lst .byte) (List.cons (.int .i64) (List.cons (.int .i64) (tp 19 (List.cons (.bool) (tp 50 []))))))))))))))))))
def f164_c4_outs : Outs := [(.normal, (List.cons (.top) (List.cons (.int .i64) (tp 6 (List.cons (.bool) (List.cons (.str) (List.cons (.int .u64) (List.cons (.int .u64) (List.cons (.bool) (List.cons (.int .u64) (List.cons (.top) (List.cons (.top) (List.cons (.int .u8) (tp 82 (List.cons (.lst .byte) (List.cons (.int .i64) (List.cons (.int .i64) (tp 70 [])))))))))))))))))), (.ret, (tp 6 (List.cons (.int .u64) (List.cons (.iface 238) (List.cons (.int .i64) (tp 164 []))))))]
def f164_c5_ins : List Sh := (List.cons (.top) (List.cons (.int .i64) (tp 6 (List.cons (.bool) (List.cons (.str) (List.cons (.int .u64) (List.cons (.int .u64) (List.cons (.bool) (List.cons (.int .u64) (List.cons (.top) (List.cons (.int .u8) (tp 83 (List.cons (.lst .byte) (List.cons (.int .i64) (List.cons (.int .i64) (tp 10 (List.cons (.bool) (tp 59 []))))))))))))))))))
def f164_c5_outs : Outs := [(.normal, (List.cons (.top) (List.cons (.int .i64) (tp 6 (List.cons (.bool) (List.cons (.str) (List.cons (.int .u64) (List.cons (.int .u64) (List.cons (.bool) (List.cons (.int .u64) (List.cons (.top) (List.cons (.top) (List.cons (.int .u8) (tp 82 (List.cons (.lst .byte) (List.cons (.int .i64) (List.cons (.int .i64) (tp 70 [])))))))))))))))))), (.ret, (tp 6 (List.cons (.int .u64) (List.cons (.iface 238) (List.cons (.int .i64) (tp 164 []))))))]
def f164_c6_ins : List Sh := (List.cons (.top) (List.cons (.int .i64) (tp 6 (List.cons (.bool) (List.cons (.str) (List.cons (.int .u64) (List.cons (.int .u64) (List.cons (.bool) (List.cons (.int .u64) (List.cons (.top) (List.cons (.int .u8) (tp 83 (List.cons (.lst .byte) (List.cons (.int .i64) (List.cons (.int .i64) (tp 4 (List.cons (.bool) (tp 65 []))))))))))))))))))
def f164_c6_outs : Outs := [((.exit 4), (List.cons (.top) (List.cons (.int .i64) (tp 6 (List.cons (.bool) (List.cons (.str) (List.cons (.int .u64) (List.cons (.int .u64) (List.cons (.bool) (List.cons (.int .u64) (tp 85 (List.cons (.lst .byte) (List.cons (.int .i64) (List.cons (.int .i64) (tp 70 []))))))))))))))), (.normal, (List.cons (.top) (List.cons (.int .i64) (tp 6 (List.cons (.bool) (List.cons (.str) (List.cons (.int .u64) (List.cons (.int .u64) (List.cons (.bool) (List.cons (.int .u64) (List.cons (.top) (List.cons (.top) (List.cons (.int .u8) (tp 82 (List.cons (.lst .byte) (List.cons (.int .i64) (List.cons (.int .i64) (tp 70 [])))))))))))))))))), (.ret, (tp 6 (List.cons (.int .u64) (List.cons (.iface 238) (List.cons (.int .i64) (tp 164 []))))))]
def f164_l0_ins : List Sh := (List.cons (.top) (List.cons (.int .i64) (tp 6 (List.cons (.bool) (List.cons (.str) (List.cons (.int .u64) (List.cons (.int .u64) (List.cons (.bool) (List.cons (.int .u64) (tp 85 (List.cons (.lst .byte) (List.cons (.int .i64) (List.cons (.int .i64) (tp 70 []))))))))))))))
def f164_l0_outs : Outs := [((.exit 3), (tp 9 (List.cons (.str) (List.cons (.top) (List.cons (.top) (List.cons (.bool) (List.cons (.int .u64) (tp 158 [])))))))), (.ret, (tp 6 (List.cons (.int .u64) (List.cons (.iface 238) (List.cons (.int .i64) (tp 164 []))))))]
def f164_c7_ins : List Sh := (List.cons (.str) (List.cons (.int .i64) (List.cons (.int .i64) (tp 5 (List.cons (.bool) (List.cons (.str) (List.cons (.int .u64) (tp 161 []))))))))
def f164_c7_outs : Outs := [(.ret, (tp 6 (List.cons (.int .u64) (List.cons (.iface 238) (List.cons (.int .i64) (tp 164 [])))))), (.ret, (tp 6 (List.cons (.int .u64) (List.cons (.nili) (tp 164 [])))))]
def f164_c8_ins : List Sh := (List.cons (.str) (List.cons (.int .i64) (List.cons (.int .i64) (tp 5 (List.cons (.bool) (List.cons (.str) (tp 162 [])))))))
def f164_c8_outs : Outs := [(.ret, (tp 6 (List.cons (.int .u64) (List.cons (.iface 238) (List.cons (.int .i64) (tp 164 [])))))), (.ret, (tp 6 (List.cons (.int .u64) (List.cons (.nili) (tp 164 [])))))]
def f130_ins : List Sh := [.str, .int .i64, .int .i64]
def f130_outs : Outs := [(.ret, [.tuple 2, .int .u64, .iface 239, .top]), (.ret, [.tuple 2, .int .u64, .nili])]
def f95_ins : List Sh := [.str]
def f95_outs : Outs := [(.ret, [.int .i64])]
def f48_ins : List Sh := [.agg 2, .int .i64, .lst .str]
def f48_outs : Outs := [(.ret, [.agg 3, .bool, .bool, .int .i64])]
def f49_ins : List Sh := [.str, .str]
def f49_outs : Outs := [(.ret, [.agg 3, .bool, .str, .str])]
def f52_ins : List Sh := [.int .i64]
def f52_outs : Outs := [(.ret, [.agg 10, .int .i64, .bool, .str, .str, .bool, .str, .str, .bool, .bool, .int .i64])]
def f50_ins : List Sh := [.agg 3, .bool, .bool, .int .i64, .bool]
def f50_outs : Outs := [(.ret, [.bool])]
def f58_ins : List Sh := [.agg 3, .bool, .str, .str]
def f58_outs : Outs := [(.ret, [.bool])]
def f19_ins : List Sh := [.agg 9, .bool, .str, .str, .bool, .str, .str, .bool, .bool, .int .i64]
def f19_outs : Outs := [(.ret, [.bool])]
def f53_ins : List Sh := [.agg 3, .bool, .str, .str]
def f53_outs : Outs := [(.ret, [.bool])]
def f51_ins : List Sh := [.ptr 0 0, .ptr 1 0, .ptr 2 0, .obox 5, .lst (.pair (.int .i32) (.pair (.int .i32) (.pair (.int .i64) (.pair (.int .i64) (.pair (.int .i64) (.int .i64)))))), .lst (.pair (.int .i32) (.pair (.int .i32) (.pair (.int .i64) (.int .i64)))), .lst (.pair (.int .i32) (.pair (.int .i32) (.int .i32))), .opq 0, .opq 1, .obox 9, .bool, .str, .str, .bool, .str, .str, .bool, .bool, .int .i64, .obox 10, .int .i64, .bool, .str, .str, .bool, .str, .str, .bool, .bool, .int .i64]
def f51_outs : Outs := [(.ret, [.bool, .obox 5, .lst (.pair (.int .i32) (.pair (.int .i32) (.pair (.int .i64) (.pair (.int .i64) (.pair (.int .i64) (.int .i64)))))), .lst (.pair (.int .i32) (.pair (.int .i32) (.pair (.int .i64) (.int .i64)))), .lst (.pair (.int .i32) (.pair (.int .i32) (.int .i32))), .opq 0, .opq 1, .obox 9, .bool, .str, .str, .bool, .str, .str, .bool, .bool, .int .i64, .obox 10, .int .i64, .bool, .str, .str, .bool, .str, .str, .bool, .bool, .int .i64])]
def f17_ins : List Sh := [.agg 5, .lst (.pair (.int .i32) (.pair (.int .i32) (.pair (.int .i64) (.pair (.int .i64) (.pair (.int .i64) (.int .i64)))))), .lst (.pair (.int .i32) (.pair (.int .i32) (.pair (.int .i64) (.int .i64)))), .lst (.pair (.int .i32) (.pair (.int .i32) (.int .i32))), .opq 0, .opq 1, .agg 3, .bool, .bool, .int .i64, .agg 9, .bool, .str, .str, .bool, .str, .str, .bool, .bool, .int .i64]
def f17_outs : Outs := [(.ret, [.agg 10, .int .i64, .bool, .str, .str, .bool, .str, .str, .bool, .bool, .int .i64])]
def f17_c0_ins : List Sh := (tp 5 (List.cons (.ptr 0 0) (List.cons (.ptr 1 0) (List.cons (.ptr 2 0) (tp 51 (List.cons (.bool) (tp 21 (List.cons (.obox 9) (List.cons (.bool) (List.cons (.str) (List.cons (.str) (List.cons (.bool) (List.cons (.str) (List.cons (.str) (List.cons (.bool) (List.cons (.bool) (List.cons (.int .i64) (List.cons (.obox 10) (List.cons (.int .i64) (List.cons (.bool) (List.cons (.str) (List.cons (.str) (List.cons (.bool) (List.cons (.str) (List.cons (.str) (List.cons (.bool) (List.cons (.bool) (List.cons (.int .i64) (List.cons (.obox 10) (List.cons (.int .i64) (List.cons (.bool) (List.cons (.str) (List.cons (.str) (List.cons (.bool) (List.cons (.str) (List.cons (.str) (List.cons (.bool) (List.cons (.bool) (List.cons (.int .i64) [])))))))))))))))))))))))))))))))))))))))
def f17_c0_outs : Outs := [(.ret, (tp 6 (List.cons (.ptr 0 0) (tp 74 (List.cons (.obox 10) (List.cons (.int .i64) (List.cons (.bool) (List.cons (.str) (List.cons (.str) (List.cons (.bool) (List.cons (.str) (List.cons (.str) (List.cons (.bool) (List.cons (.bool) (List.cons (.int .i64) []))))))))))))))), (.normal, (tp 6 (List.cons (.ptr 0 0) (List.cons (.ptr 1 0) (tp 73 (List.cons (.obox 10) (List.cons (.int .i64) (List.cons (.bool) (List.cons (.str) (List.cons (.str) (List.cons (.bool) (List.cons (.str) (List.cons (.str) (List.cons (.bool) (List.cons (.bool) (List.cons (.int .i64) (List.cons (.obox 10) (List.cons (.int .i64) (List.cons (.bool) (List.cons (.str) (List.cons (.str) (List.cons (.bool) (List.cons (.str) (List.cons (.str) (List.cons (.bool) (List.cons (.bool) (List.cons (.int .i64) [])))))))))))))))))))))))))))]
def f17_c1_ins : List Sh := (tp 4 (List.cons (.ptr 0 0) (List.cons (.ptr 1 0) (List.cons (.ptr 2 0) (List.cons (.ptr 3 0) (List.cons (.func (.func 51) 0 3) (List.cons (.ptr 4 0) (List.cons (.ptr 1 0) (List.cons (.ptr 3 0) (tp 24 (List.cons (.bool) (tp 47 (List.cons (.obox 3) (List.cons (.bool) (List.cons (.bool) (List.cons (.int .i64) (List.cons (.obox 9) (List.cons (.bool) (List.cons (.str) (List.cons (.str) (List.cons (.bool) (List.cons (.str) (List.cons (.str) (List.cons (.bool) (List.cons (.bool) (List.cons (.int .i64) (List.cons (.obox 10) (List.cons (.int .i64) (List.cons (.bool) (List.cons (.str) (List.cons (.str) (List.cons (.bool) (List.cons (.str) (List.cons (.str) (List.cons (.bool) (List.cons (.bool) (List.cons (.int .i64) (List.cons (.obox 10) (List.cons (.int .i64) (List.cons (.bool) (List.cons (.str) (List.cons (.str) (List.cons (.bool) (List.cons (.str) (List.cons (.str) (List.cons (.bool) (List.cons (.bool) (List.cons (.int .i64) (List.cons (.obox 5) (List.cons (.lst (.pair (.int .i32) (.pair (.int .i32) (.pair (.int .i64) (.pair (.int .i64) (.pair (.int .i64) (.int .i64))))))) (List.cons (.lst (.pair (.int .i32) (.pair (.int .i32) (.pair (.int .i64) (.int .i64))))) (List.cons (.lst (.pair (.int .i32) (.pair (.int .i32) (.int .i32)))) (List.cons (.opq 0) (List.cons (.opq 1) []))))))))))))))))))))))))))))))))))))))))))))))))))))))
def f17_c1_outs : Outs := [(.ret, (tp 6 (List.cons (.ptr 0 0) (tp 74 (List.cons (.obox 10) (List.cons (.int .i64) (List.cons (.bool) (List.cons (.str) (List.cons (.str) (List.cons (.bool) (List.cons (.str) (List.cons (.str) (List.cons (.bool) (List.cons (.bool) (List.cons (.int .i64) []))))))))))))))), (.normal, (tp 6 (List.cons (.ptr 0 0) (List.cons (.ptr 1 0) (tp 73 (List.cons (.obox 10) (List.cons (.int .i64) (List.cons (.bool) (List.cons (.str) (List.cons (.str) (List.cons (.bool) (List.cons (.str) (List.cons (.str) (List.cons (.bool) (List.cons (.bool) (List.cons (.int .i64) (List.cons (.obox 10) (List.cons (.int .i64) (List.cons (.bool) (List.cons (.str) (List.cons (.str) (List.cons (.bool) (List.cons (.str) (List.cons (.str) (List.cons (.bool) (List.cons (.bool) (List.cons (.int .i64) [])))))))))))))))))))))))))))]
def f17_c2_ins : List Sh := (tp 4 (List.cons (.ptr 0 0) (List.cons (.ptr 1 0) (List.cons (.ptr 2 0) (List.cons (.ptr 3 0) (List.cons (.func (.func 51) 0 3) (List.cons (.ptr 4 0) (List.cons (.ptr 1 0) (List.cons (.ptr 3 0) (tp 12 (List.cons (.bool) (tp 59 (List.cons (.obox 3) (List.cons (.bool) (List.cons (.bool) (List.cons (.int .i64) (List.cons (.obox 9) (List.cons (.bool) (List.cons (.str) (List.cons (.str) (List.cons (.bool) (List.cons (.str) (List.cons (.str) (List.cons (.bool) (List.cons (.bool) (List.cons (.int .i64) (List.cons (.obox 10) (List.cons (.int .i64) (List.cons (.bool) (List.cons (.str) (List.cons (.str) (List.cons (.bool) (List.cons (.str) (List.cons (.str) (List.cons (.bool) (List.cons (.bool) (List.cons (.int .i64) (List.cons (.obox 10) (List.cons (.int .i64) (List.cons (.bool) (List.cons (.str) (List.cons (.str) (List.cons (.bool) (List.cons (.str) (List.cons (.str) (List.cons (.bool) (List.cons (.bool) (List.cons (.int .i64) (List.cons (.obox 5) (List.cons (.lst (.pair (.int .i32) (.pair (.int .i32) (.pair (.int .i64) (.pair (.int .i64) (.pair (.int .i64) (.int .i64))))))) (List.cons (.lst (.pair (.int .i32) (.pair (.int .i32) (.pair (.int .i64) (.int .i64))))) (List.cons (.lst (.pair (.int .i32) (.pair (.int .i32) (.int .i32)))) (List.cons (.opq 0) (List.cons (.opq 1) []))))))))))))))))))))))))))))))))))))))))))))))))))))))
def f17_c2_outs : Outs := [(.ret, (tp 6 (List.cons (.ptr 0 0) (tp 74 (List.cons (.obox 10) (List.cons (.int .i64) (List.cons (.bool) (List.cons (.str) (List.cons (.str) (List.cons (.bool) (List.cons (.str) (List.cons (.str) (List.cons (.bool) (List.cons (.bool) (List.cons (.int .i64) []))))))))))))))), (.normal, (tp 6 (List.cons (.ptr 0 0) (List.cons (.ptr 1 0) (tp 73 (List.cons (.obox 10) (List.cons (.int .i64) (List.cons (.bool) (List.cons (.str) (List.cons (.str) (List.cons (.bool) (List.cons (.str) (List.cons (.str) (List.cons (.bool) (List.cons (.bool) (List.cons (.int .i64) (List.cons (.obox 10) (List.cons (.int .i64) (List.cons (.bool) (List.cons (.str) (List.cons (.str) (List.cons (.bool) (List.cons (.str) (List.cons (.str) (List.cons (.bool) (List.cons (.bool) (List.cons (.int .i64) [])))))))))))))))))))))))))))]
def f17_c3_ins : List Sh := (tp 3 (List.cons (.ptr 0 0) (List.cons (.ptr 1 0) (List.cons (.ptr 2 0) (List.cons (.ptr 3 0) (List.cons (.ptr 4 0) (tp 73 (List.cons (.obox 5) (List.cons (.lst (.pair (.int .i32) (.pair (.int .i32) (.pair (.int .i64) (.pair (.int .i64) (.pair (.int .i64) (.int .i64))))))) (List.cons (.lst (.pair (.int .i32) (.pair (.int .i32) (.pair (.int .i64) (.int .i64))))) (List.cons (.lst (.pair (.int .i32) (.pair (.int .i32) (.int .i32)))) (List.cons (.opq 0) (List.cons (.opq 1) (List.cons (.obox 3) (List.cons (.bool) (List.cons (.bool) (List.cons (.int .i64) (List.cons (.obox 9) (List.cons (.bool) (List.cons (.str) (List.cons (.str) (List.cons (.bool) (List.cons (.str) (List.cons (.str) (List.cons (.bool) (List.cons (.bool) (List.cons (.int .i64) (List.cons (.obox 10) (List.cons (.int .i64) (List.cons (.bool) (List.cons (.str) (List.cons (.str) (List.cons (.bool) (List.cons (.str) (List.cons (.str) (List.cons (.bool) (List.cons (.bool) (List.cons (.int .i64) (List.cons (.obox 10) (List.cons (.int .i64) (List.cons (.bool) (List.cons (.str) (List.cons (.str) (List.cons (.bool) (List.cons (.str) (List.cons (.str) (List.cons (.bool) (List.cons (.bool) (List.cons (.int .i64) [])))))))))))))))))))))))))))))))))))))))))))))))))
def f17_c3_outs : Outs := [(.ret, (tp 6 (List.cons (.ptr 0 0) (tp 74 (List.cons (.obox 10) (List.cons (.int .i64) (List.cons (.bool) (List.cons (.str) (List.cons (.str) (List.cons (.bool) (List.cons (.str) (List.cons (.str) (List.cons (.bool) (List.cons (.bool) (List.cons (.int .i64) [])))))))))))))))]
def f15_ins : List Sh := []
def f15_outs : Outs := [(.ret, [.bool])]
def f16_ins : List Sh := [.agg 9, .bool, .str, .str, .bool, .str, .str, .bool, .bool, .int .i64]
def f16_outs : Outs := [(.ret, [.bool])]
def f3_ins : List Sh := [.agg 9, .bool, .str, .str, .bool, .str, .str, .bool, .bool, .int .i64, .bool, .int .i64]
def f3_outs : Outs := [(.ret, [.bool])]
abbrev T165 := List UInt8 × List UInt8 × Int × Int × Int × Unit → Option (Unit)
def E165 (f : T165) : FEnt := ⟨f165_ins, f165_outs, f⟩
def C165 : T165 := fun _ => none
theorem ok165 : FnOk Tryz.prog 165 (E165 C165) := by
  intro w m g v args y hob hargs hy
  cases hy
abbrev T128 := Int × Unit → Option (Bool × Unit)
def E128 (f : T128) : FEnt := ⟨f128_ins, f128_outs, f⟩
def K128 : Calls' := fun f => Ae.lookA f []
theorem kok128 : KOk Tryz.prog (K128) := (kok_nil _)
def F128 : Int × Unit → Option (Bool × Unit) := fun (x0, _) =>
  bif decide (x0 ≥ 200) then some (decide (x0 ≤ 599), ()) else some (false, ())
theorem h128 (v : HS f128_ins) : afun Γ (K128) 0 Tryz.f128.ntmps Tryz.f128.results.toList (code Tryz.f128) .nil (em id f128_ins v).1 (em id f128_ins v).2 (ofin 0 f128_outs) = F128 v := by kernel_rfl
def C128 : T128 := F128
theorem ok128 : FnOk Tryz.prog 128 (E128 C128) :=
  fn_ok (n := .nil) hm hΓ kok128 Tryz.func128 (c := code Tryz.f128) (by kernel_rfl) (name_ne (by kernel_rfl)) (ann_nil _) (fun v => Nat.le_of_ble_eq_true (by kernel_rfl)) (h128)
abbrev T91 := Int × Unit → Option (Int × Unit)
def E91 (f : T91) : FEnt := ⟨f91_ins, f91_outs, f⟩
def K91 (f128 : T128) : Calls' := fun f => Ae.lookA f [(128, E128 f128)]
theorem kok91 : KOk Tryz.prog (K91 C128) := (kok_cons ok128 (kok_nil _))
def F91 (f128 : T128) : Int × Unit → Option (Int × Unit) := fun (x0, _) =>
  (f128 (x0, ())).bind fun val =>
    bif !val.fst then some (0, ()) else some (IntKind.i64.wrap (x0.tdiv 100), ())
theorem h91 (f128 : T128) (v : HS f91_ins) : afun Γ (K91 f128) 0 Tryz.f91.ntmps Tryz.f91.results.toList (code Tryz.f91) .nil (em id f91_ins v).1 (em id f91_ins v).2 (ofin 0 f91_outs) = F91 f128 v := by kernel_rfl
def C91 : T91 := F91 C128
theorem ok91 : FnOk Tryz.prog 91 (E91 C91) :=
  fn_ok (n := .nil) hm hΓ kok91 Tryz.func91 (c := code Tryz.f91) (by kernel_rfl) (name_ne (by kernel_rfl)) (ann_nil _) (fun v => Nat.le_of_ble_eq_true (by kernel_rfl)) (h91 C128)
abbrev T92_l0 := List (List UInt8) × Int × Int × List (List UInt8) × Unit → Option (List (List UInt8) × Unit)
def E92_l0 (f : T92_l0) : LEnt := ⟨f92_l0_ins, f92_l0_outs, f⟩
abbrev T92 := Int × List (List UInt8) × Unit → Option (List (List UInt8) × Unit)
def E92 (f : T92) : FEnt := ⟨f92_ins, f92_outs, f⟩
def K92 (f129 : T129) (f25 : T25) : Calls' := fun f => Ae.lookA f [(129, E129 f129), (25, E25 f25)]
theorem kok92 : KOk Tryz.prog (K92 C129 C25) := (kok_cons ok129 (kok_cons ok25 (kok_nil _)))
def F92_l0 (f129 : T129) (f25 : T25) : List (List UInt8) × Int × Int × List (List UInt8) × Unit → Option ((List (List UInt8) × Int × Int × List (List UInt8) × Unit) ⊕ (List (List UInt8) × Unit)) := fun (x0, x1, x2, x3, _) =>
  bif decide (x2 < x1) then
    bif decide (0 ≤ x2) && decide (x2 < (↑x0.length : Int)) then
      bif decide (x2 > 0) then
        (f129 (x0.getD x2.toNat [], [32], ())).bind fun val =>
          (f25 (val.fst, ())).bind fun val =>
            bif decide (x3.length + [val.fst].length ≤ 140737488355328 / 16) then
              some (Sum.inl (x0, x1, IntKind.i64.wrap (x2 + 1), x3 ++ [val.fst], ()))
            else none
      else some (Sum.inl (x0, x1, IntKind.i64.wrap (x2 + 1), x3, ()))
    else none
  else some (Sum.inr (x3, ()))
theorem h92_l0 (f129 : T129) (f25 : T25) (v : HS f92_l0_ins) : aev Γ (K92 f129 f25) 0 (subc (code Tryz.f92) [1, 1, 0, 1, 0, 0]) .nil (stof f92_l0_ins v) (around 0 f92_l0_ins f92_l0_outs) = F92_l0 f129 f25 v := by kernel_rfl
def C92_l0 : T92_l0 := loopN (F92_l0 C129 C25) big
theorem k92_l0 : FragOk Tryz.prog 0 (fun Q a w => (Code.loop (subc (code Tryz.f92) [1, 1, 0, 1, 0, 0])).wp Tryz.prog Q a w) (E92_l0 C92_l0) :=
  frag_big (ins := f92_l0_ins) (os := f92_l0_outs) (C := C92_l0) (frag_loop (ins := f92_l0_ins) (os := f92_l0_outs) (n := .nil) (F := F92_l0 C129 C25) hm hΓ kok92 (fun _ => big) (ann_nil _) (h92_l0 C129 C25)) rfl
def N92 (f92_l0 : T92_l0) : Ann := (.seq .nil (.seq .nil (.seq (.seq .nil (.blk (.loop (E92_l0 f92_l0)))) .nil)))
def F92 (f129 : T129) (f25 : T25) (f92_l0 : T92_l0) : Int × List (List UInt8) × Unit → Option (List (List UInt8) × Unit) := fun (x0, x1, _) =>
  (f92_l0 (x1, (↑x1.length : Int), 0, [], ())).bind fun val => some (val.fst, ())
theorem h92 (f129 : T129) (f25 : T25) (f92_l0 : T92_l0) (v : HS f92_ins) : afun Γ (K92 f129 f25) 0 Tryz.f92.ntmps Tryz.f92.results.toList (code Tryz.f92) (N92 f92_l0) (em id f92_ins v).1 (em id f92_ins v).2 (ofin 0 f92_outs) = F92 f129 f25 f92_l0 v := by kernel_rfl
def C92 : T92 := F92 C129 C25 C92_l0
theorem ok92 : FnOk Tryz.prog 92 (E92 C92) :=
  fn_ok (n := (N92 C92_l0)) hm hΓ kok92 Tryz.func92 (c := code Tryz.f92) (by kernel_rfl) (name_ne (by kernel_rfl)) (ann_obs (And.intro k92_l0 trivial) (by kernel_rfl)) (fun v => Nat.le_of_ble_eq_true (by kernel_rfl)) (h92 C129 C25 C92_l0)
abbrev T94_l0 := List (List UInt8) × List UInt8 × Int × Int × Unit → Option (Unit ⊕ (Int × Unit))
def E94_l0 (f : T94_l0) : LEnt := ⟨f94_l0_ins, f94_l0_outs, f⟩
abbrev T94 := List (List UInt8) × List UInt8 × Unit → Option (Int × Unit)
def E94 (f : T94) : FEnt := ⟨f94_ins, f94_outs, f⟩
def K94 : Calls' := fun f => Ae.lookA f []
theorem kok94 : KOk Tryz.prog (K94) := (kok_nil _)
def F94_l0 : List (List UInt8) × List UInt8 × Int × Int × Unit → Option ((List (List UInt8) × List UInt8 × Int × Int × Unit) ⊕ (Unit ⊕ (Int × Unit))) := fun (x0, x1, x2, x3, _) =>
  bif decide (x3 < x2) then
    bif decide (0 ≤ x3) && decide (x3 < (↑x0.length : Int)) then
      bif x1 == x0.getD x3.toNat [] then some (Sum.inr (Sum.inr (x3, ())))
      else some (Sum.inl (x0, x1, x2, IntKind.i64.wrap (x3 + 1), ()))
    else none
  else some (Sum.inr (Sum.inl ()))
theorem h94_l0 (v : HS f94_l0_ins) : aev Γ (K94) 0 (subc (code Tryz.f94) [1, 0, 1, 0, 0]) .nil (stof f94_l0_ins v) (around 0 f94_l0_ins f94_l0_outs) = F94_l0 v := by kernel_rfl
def C94_l0 : T94_l0 := loopN (F94_l0) big
theorem k94_l0 : FragOk Tryz.prog 0 (fun Q a w => (Code.loop (subc (code Tryz.f94) [1, 0, 1, 0, 0])).wp Tryz.prog Q a w) (E94_l0 C94_l0) :=
  frag_big (ins := f94_l0_ins) (os := f94_l0_outs) (C := C94_l0) (frag_loop (ins := f94_l0_ins) (os := f94_l0_outs) (n := .nil) (F := F94_l0) hm hΓ kok94 (fun _ => big) (ann_nil _) (h94_l0)) rfl
def N94 (f94_l0 : T94_l0) : Ann := (.seq .nil (.seq (.seq .nil (.blk (.loop (E94_l0 f94_l0)))) .nil))
def F94 (f94_l0 : T94_l0) : List (List UInt8) × List UInt8 × Unit → Option (Int × Unit) := fun (x0, x1, _) =>
  (f94_l0 (x0, x1, (↑x0.length : Int), 0, ())).bind fun val =>
    Sum.elim (fun val => some (-1, ())) (fun val => some (val.fst, ())) val
theorem h94 (f94_l0 : T94_l0) (v : HS f94_ins) : afun Γ (K94) 0 Tryz.f94.ntmps Tryz.f94.results.toList (code Tryz.f94) (N94 f94_l0) (em id f94_ins v).1 (em id f94_ins v).2 (ofin 0 f94_outs) = F94 f94_l0 v := by kernel_rfl
def C94 : T94 := F94 C94_l0
theorem ok94 : FnOk Tryz.prog 94 (E94 C94) :=
  fn_ok (n := (N94 C94_l0)) hm hΓ kok94 Tryz.func94 (c := code Tryz.f94) (by kernel_rfl) (name_ne (by kernel_rfl)) (ann_obs (And.intro k94_l0 trivial) (by kernel_rfl)) (fun v => Nat.le_of_ble_eq_true (by kernel_rfl)) (h94 C94_l0)
abbrev T93 := List (List UInt8) × List UInt8 × Unit → Option (Bool × Unit)
def E93 (f : T93) : FEnt := ⟨f93_ins, f93_outs, f⟩
def K93 (f94 : T94) : Calls' := fun f => Ae.lookA f [(94, E94 f94)]
theorem kok93 : KOk Tryz.prog (K93 C94) := (kok_cons ok94 (kok_nil _))
def F93 (f94 : T94) : List (List UInt8) × List UInt8 × Unit → Option (Bool × Unit) := fun (x0, x1, _) =>
  (f94 (x0, x1, ())).bind fun val => some (decide (val.fst ≥ 0), ())
theorem h93 (f94 : T94) (v : HS f93_ins) : afun Γ (K93 f94) 0 Tryz.f93.ntmps Tryz.f93.results.toList (code Tryz.f93) .nil (em id f93_ins v).1 (em id f93_ins v).2 (ofin 0 f93_outs) = F93 f94 v := by kernel_rfl
def C93 : T93 := F93 C94
theorem ok93 : FnOk Tryz.prog 93 (E93 C93) :=
  fn_ok (n := .nil) hm hΓ kok93 Tryz.func93 (c := code Tryz.f93) (by kernel_rfl) (name_ne (by kernel_rfl)) (ann_nil _) (fun v => Nat.le_of_ble_eq_true (by kernel_rfl)) (h93 C94)
abbrev T198 := Int × Unit → Option (Int × Unit)
def E198 (f : T198) : FEnt := ⟨f198_ins, f198_outs, f⟩
def K198 : Calls' := fun f => Ae.lookA f []
theorem kok198 : KOk Tryz.prog (K198) := (kok_nil _)
def F198 : Int × Unit → Option (Int × Unit) := fun (x0, _) =>
  some (intBits BinOp.or IntKind.u8 x0 32, ())
theorem h198 (v : HS f198_ins) : afun Γ (K198) 0 Tryz.f198.ntmps Tryz.f198.results.toList (code Tryz.f198) .nil (em id f198_ins v).1 (em id f198_ins v).2 (ofin 0 f198_outs) = F198 v := by kernel_rfl
def C198 : T198 := F198
theorem ok198 : FnOk Tryz.prog 198 (E198 C198) :=
  fn_ok (n := .nil) hm hΓ kok198 Tryz.func198 (c := code Tryz.f198) (by kernel_rfl) (name_ne (by kernel_rfl)) (ann_nil _) (fun v => Nat.le_of_ble_eq_true (by kernel_rfl)) (h198)
abbrev T199_l0 := List UInt8 × Int × Int × Bool × Unit → Option ((Int × Unit) ⊕ (Bool × Unit))
def E199_l0 (f : T199_l0) : LEnt := ⟨f199_l0_ins, f199_l0_outs, f⟩
abbrev T199_c0 := List UInt8 × Int × Int × Bool × Unit → Option (Bool × Unit)
def E199_c0 (f : T199_c0) : LEnt := ⟨f199_c0_ins, f199_c0_outs, f⟩
abbrev T199_c1 := List UInt8 × Int × Int × Unit → Option (Bool × Unit)
def E199_c1 (f : T199_c1) : LEnt := ⟨f199_c1_ins, f199_c1_outs, f⟩
abbrev T199 := List UInt8 × Unit → Option (Bool × Unit)
def E199 (f : T199) : FEnt := ⟨f199_ins, f199_outs, f⟩
def K199 (f198 : T198) : Calls' := fun f => Ae.lookA f [(198, E198 f198)]
theorem kok199 : KOk Tryz.prog (K199 C198) := (kok_cons ok198 (kok_nil _))
def F199_l0 (f198 : T198) : List UInt8 × Int × Int × Bool × Unit → Option ((List UInt8 × Int × Int × Bool × Unit) ⊕ ((Int × Unit) ⊕ (Bool × Unit))) := fun (x0, x1, x2, x3, _) =>
  bif decide (x2 < (↑x0.length : Int)) then
    bif decide (0 ≤ x2) && decide (x2 < (↑x0.length : Int)) then
      bif decide (48 ≤ (↑(x0.getD x2.toNat 0).toNat : Int)) then
        bif decide (0 ≤ x2) && decide (x2 < (↑x0.length : Int)) then
          bif decide ((↑(x0.getD x2.toNat 0).toNat : Int) ≤ 57) then
            some (Sum.inl (x0, 48, IntKind.i64.wrap (x2 + 1), x3, ()))
          else
            bif x3 then
              bif decide (0 ≤ x2) && decide (x2 < (↑x0.length : Int)) then
                (f198 ((↑(x0.getD x2.toNat 0).toNat : Int), ())).bind fun val =>
                  bif decide (97 ≤ val.fst) then
                    bif decide (0 ≤ x2) && decide (x2 < (↑x0.length : Int)) then
                      (f198 ((↑(x0.getD x2.toNat 0).toNat : Int), ())).bind fun val =>
                        bif decide (val.fst ≤ 102) then some (Sum.inl (x0, 48, IntKind.i64.wrap (x2 + 1), x3, ()))
                        else
                          bif decide (0 ≤ x2) && decide (x2 < (↑x0.length : Int)) then
                            bif (↑(x0.getD x2.toNat 0).toNat : Int) == 95 then
                              bif x1 != 48 then some (Sum.inr (Sum.inr (false, ())))
                              else some (Sum.inl (x0, 95, IntKind.i64.wrap (x2 + 1), x3, ()))
                            else
                              bif x1 == 95 then some (Sum.inr (Sum.inr (false, ())))
                              else some (Sum.inl (x0, 33, IntKind.i64.wrap (x2 + 1), x3, ()))
                          else none
                    else none
                  else
                    bif decide (0 ≤ x2) && decide (x2 < (↑x0.length : Int)) then
                      bif (↑(x0.getD x2.toNat 0).toNat : Int) == 95 then
                        bif x1 != 48 then some (Sum.inr (Sum.inr (false, ())))
                        else some (Sum.inl (x0, 95, IntKind.i64.wrap (x2 + 1), x3, ()))
                      else
                        bif x1 == 95 then some (Sum.inr (Sum.inr (false, ())))
                        else some (Sum.inl (x0, 33, IntKind.i64.wrap (x2 + 1), x3, ()))
                    else none
              else none
            else
              bif decide (0 ≤ x2) && decide (x2 < (↑x0.length : Int)) then
                bif (↑(x0.getD x2.toNat 0).toNat : Int) == 95 then
                  bif x1 != 48 then some (Sum.inr (Sum.inr (false, ())))
                  else some (Sum.inl (x0, 95, IntKind.i64.wrap (x2 + 1), x3, ()))
                else
                  bif x1 == 95 then some (Sum.inr (Sum.inr (false, ())))
                  else some (Sum.inl (x0, 33, IntKind.i64.wrap (x2 + 1), x3, ()))
              else none
        else none
      else
        bif x3 then
          bif decide (0 ≤ x2) && decide (x2 < (↑x0.length : Int)) then
            (f198 ((↑(x0.getD x2.toNat 0).toNat : Int), ())).bind fun val =>
              bif decide (97 ≤ val.fst) then
                bif decide (0 ≤ x2) && decide (x2 < (↑x0.length : Int)) then
                  (f198 ((↑(x0.getD x2.toNat 0).toNat : Int), ())).bind fun val =>
                    bif decide (val.fst ≤ 102) then some (Sum.inl (x0, 48, IntKind.i64.wrap (x2 + 1), x3, ()))
                    else
                      bif decide (0 ≤ x2) && decide (x2 < (↑x0.length : Int)) then
                        bif (↑(x0.getD x2.toNat 0).toNat : Int) == 95 then
                          bif x1 != 48 then some (Sum.inr (Sum.inr (false, ())))
                          else some (Sum.inl (x0, 95, IntKind.i64.wrap (x2 + 1), x3, ()))
                        else
                          bif x1 == 95 then some (Sum.inr (Sum.inr (false, ())))
                          else some (Sum.inl (x0, 33, IntKind.i64.wrap (x2 + 1), x3, ()))
                      else none
                else none
              else
                bif decide (0 ≤ x2) && decide (x2 < (↑x0.length : Int)) then
                  bif (↑(x0.getD x2.toNat 0).toNat : Int) == 95 then
                    bif x1 != 48 then some (Sum.inr (Sum.inr (false, ())))
                    else some (Sum.inl (x0, 95, IntKind.i64.wrap (x2 + 1), x3, ()))
                  else
                    bif x1 == 95 then some (Sum.inr (Sum.inr (false, ())))
                    else some (Sum.inl (x0, 33, IntKind.i64.wrap (x2 + 1), x3, ()))
                else none
          else none
        else
          bif decide (0 ≤ x2) && decide (x2 < (↑x0.length : Int)) then
            bif (↑(x0.getD x2.toNat 0).toNat : Int) == 95 then
              bif x1 != 48 then some (Sum.inr (Sum.inr (false, ())))
              else some (Sum.inl (x0, 95, IntKind.i64.wrap (x2 + 1), x3, ()))
            else
              bif x1 == 95 then some (Sum.inr (Sum.inr (false, ())))
              else some (Sum.inl (x0, 33, IntKind.i64.wrap (x2 + 1), x3, ()))
          else none
    else none
  else some (Sum.inr (Sum.inl (x1, ())))
theorem h199_l0 (f198 : T198) (v : HS f199_l0_ins) : aev Γ (K199 f198) 0 (subc (code Tryz.f199) [1, 1, 1, 1, 1, 1, 0, 0, 0]) .nil (stof f199_l0_ins v) (around 0 f199_l0_ins f199_l0_outs) = F199_l0 f198 v := by kernel_rfl
def C199_l0 : T199_l0 := loopN (F199_l0 C198) big
theorem k199_l0 : FragOk Tryz.prog 0 (fun Q a w => (Code.loop (subc (code Tryz.f199) [1, 1, 1, 1, 1, 1, 0, 0, 0])).wp Tryz.prog Q a w) (E199_l0 C199_l0) :=
  frag_big (ins := f199_l0_ins) (os := f199_l0_outs) (C := C199_l0) (frag_loop (ins := f199_l0_ins) (os := f199_l0_outs) (n := .nil) (F := F199_l0 C198) hm hΓ kok199 (fun _ => big) (ann_nil _) (h199_l0 C198)) rfl
def N199_c0 (f199_l0 : T199_l0) : Ann := (.seq (.blk (.loop (E199_l0 f199_l0))) .nil)
def F199_c0 (f198 : T198) (f199_l0 : T199_l0) : List UInt8 × Int × Int × Bool × Unit → Option (Bool × Unit) := fun (x0, x1, x2, x3, _) =>
  (f199_l0 (x0, x1, x2, x3, ())).bind fun val =>
    Sum.elim (fun val => some (bif val.fst == 95 then false else true, ()))
      (fun val => some (val.fst, ())) val
theorem h199_c0 (f198 : T198) (f199_l0 : T199_l0) (v : HS f199_c0_ins) : aev Γ (K199 f198) 0 (subc (code Tryz.f199) [1, 1, 1, 1, 1, 1]) (N199_c0 f199_l0) (stof f199_c0_ins v) (oout 0 f199_c0_outs) = F199_c0 f198 f199_l0 v := by kernel_rfl
def C199_c0 : T199_c0 := F199_c0 C198 C199_l0
theorem k199_c0 : FragOk Tryz.prog 0 (fun Q a w => (subc (code Tryz.f199) [1, 1, 1, 1, 1, 1]).wp Tryz.prog Q a w) (E199_c0 C199_c0) :=
  frag_code (ins := f199_c0_ins) (os := f199_c0_outs) (n := (N199_c0 C199_l0)) (F := C199_c0) hm hΓ kok199 (ann_obs (And.intro k199_l0 trivial) (by kernel_rfl)) (h199_c0 C198 C199_l0)
def N199_c1 (f199_c0 : T199_c0) : Ann := (.seq .nil (.cut .nil (E199_c0 f199_c0)))
def F199_c1 (f198 : T198) (f199_c0 : T199_c0) : List UInt8 × Int × Int × Unit → Option (Bool × Unit) := fun (x0, x1, x2, _) =>
  bif decide ((↑x0.length : Int) ≥ 2) then
    bif decide (0 < (↑x0.length : Int)) then
      bif (↑(x0.getD 0 0).toNat : Int) == 48 then
        bif decide (1 < (↑x0.length : Int)) then
          (f198 ((↑(x0.getD 1 0).toNat : Int), ())).bind fun val =>
            bif val.fst == 98 then
              bif decide (1 < (↑x0.length : Int)) then
                (f198 ((↑(x0.getD 1 0).toNat : Int), ())).bind fun val =>
                  (f199_c0 (x0, 48, 2, val.fst == 120, ())).bind fun val => some (val.fst, ())
              else none
            else
              bif decide (1 < (↑x0.length : Int)) then
                (f198 ((↑(x0.getD 1 0).toNat : Int), ())).bind fun val =>
                  bif val.fst == 111 then
                    bif decide (1 < (↑x0.length : Int)) then
                      (f198 ((↑(x0.getD 1 0).toNat : Int), ())).bind fun val =>
                        (f199_c0 (x0, 48, 2, val.fst == 120, ())).bind fun val => some (val.fst, ())
                    else none
                  else
                    bif decide (1 < (↑x0.length : Int)) then
                      (f198 ((↑(x0.getD 1 0).toNat : Int), ())).bind fun val =>
                        bif val.fst == 120 then
                          bif decide (1 < (↑x0.length : Int)) then
                            (f198 ((↑(x0.getD 1 0).toNat : Int), ())).bind fun val =>
                              (f199_c0 (x0, 48, 2, val.fst == 120, ())).bind fun val => some (val.fst, ())
                          else none
                        else (f199_c0 (x0, x1, x2, false, ())).bind fun val => some (val.fst, ())
                    else none
              else none
        else none
      else (f199_c0 (x0, x1, x2, false, ())).bind fun val => some (val.fst, ())
    else none
  else (f199_c0 (x0, x1, x2, false, ())).bind fun val => some (val.fst, ())
theorem h199_c1 (f198 : T198) (f199_c0 : T199_c0) (v : HS f199_c1_ins) : aev Γ (K199 f198) 0 (subc (code Tryz.f199) [1, 1, 1, 1]) (N199_c1 f199_c0) (stof f199_c1_ins v) (oout 0 f199_c1_outs) = F199_c1 f198 f199_c0 v := by kernel_rfl
def C199_c1 : T199_c1 := F199_c1 C198 C199_c0
theorem k199_c1 : FragOk Tryz.prog 0 (fun Q a w => (subc (code Tryz.f199) [1, 1, 1, 1]).wp Tryz.prog Q a w) (E199_c1 C199_c1) :=
  frag_code (ins := f199_c1_ins) (os := f199_c1_outs) (n := (N199_c1 C199_c0)) (F := C199_c1) hm hΓ kok199 (ann_obs (And.intro k199_c0 trivial) (by kernel_rfl)) (h199_c1 C198 C199_c0)
def N199 (f199_c1 : T199_c1) : Ann := (.seq .nil (.seq .nil (.seq .nil (.cut .nil (E199_c1 f199_c1)))))
def F199 (f198 : T198) (f199_c1 : T199_c1) : List UInt8 × Unit → Option (Bool × Unit) := fun (x0, _) =>
  bif decide ((↑x0.length : Int) ≥ 1) then
    bif decide (0 < (↑x0.length : Int)) then
      bif (↑(x0.getD 0 0).toNat : Int) == 45 then
        bif decide (1 ≤ (↑x0.length : Int)) then
          (f199_c1 (List.drop 1 x0, 94, 0, ())).bind fun val => some (val.fst, ())
        else none
      else
        bif decide (0 < (↑x0.length : Int)) then
          bif (↑(x0.getD 0 0).toNat : Int) == 43 then
            bif decide (1 ≤ (↑x0.length : Int)) then
              (f199_c1 (List.drop 1 x0, 94, 0, ())).bind fun val => some (val.fst, ())
            else none
          else (f199_c1 (x0, 94, 0, ())).bind fun val => some (val.fst, ())
        else none
    else none
  else (f199_c1 (x0, 94, 0, ())).bind fun val => some (val.fst, ())
theorem h199 (f198 : T198) (f199_c1 : T199_c1) (v : HS f199_ins) : afun Γ (K199 f198) 0 Tryz.f199.ntmps Tryz.f199.results.toList (code Tryz.f199) (N199 f199_c1) (em id f199_ins v).1 (em id f199_ins v).2 (ofin 0 f199_outs) = F199 f198 f199_c1 v := by kernel_rfl
def C199 : T199 := F199 C198 C199_c1
theorem ok199 : FnOk Tryz.prog 199 (E199 C199) :=
  fn_ok (n := (N199 C199_c1)) hm hΓ kok199 Tryz.func199 (c := code Tryz.f199) (by kernel_rfl) (name_ne (by kernel_rfl)) (ann_obs (And.intro k199_c1 trivial) (by kernel_rfl)) (fun v => Nat.le_of_ble_eq_true (by kernel_rfl)) (h199 C198 C199_c1)
abbrev T164_c0 := List UInt8 × Int × Bool × List UInt8 × Bool × Unit → Option (List UInt8 × Int × Int × Bool × List UInt8 × Unit)
def E164_c0 (f : T164_c0) : LEnt := ⟨f164_c0_ins, f164_c0_outs, f⟩
abbrev T164_c1 := List UInt8 × Int × Bool × List UInt8 × Bool × Unit → Option (List UInt8 × Int × Int × Bool × List UInt8 × Unit)
def E164_c1 (f : T164_c1) : LEnt := ⟨f164_c1_ins, f164_c1_outs, f⟩
abbrev T164_c2 := List UInt8 × Int × Bool × List UInt8 × Bool × Unit → Option (List UInt8 × Int × Int × Bool × List UInt8 × Unit)
def E164_c2 (f : T164_c2) : LEnt := ⟨f164_c2_ins, f164_c2_outs, f⟩
abbrev T164_c3 := List UInt8 × Int × Int × Bool × List UInt8 × Bool × Unit → Option ((List UInt8 × Int × Int × Bool × List UInt8 × Unit) ⊕ (Int × Int × Unit))
def E164_c3 (f : T164_c3) : LEnt := ⟨f164_c3_ins, f164_c3_outs, f⟩
abbrev T164_c4 := Int × Bool × List UInt8 × Int × Int × Bool × Int × Int × List UInt8 × Int × Int × Bool × Unit → Option ((Int × Bool × List UInt8 × Int × Int × Bool × Int × Int × List UInt8 × Int × Int × Unit) ⊕ (Int × Int × Unit))
def E164_c4 (f : T164_c4) : LEnt := ⟨f164_c4_ins, f164_c4_outs, f⟩
abbrev T164_c5 := Int × Bool × List UInt8 × Int × Int × Bool × Int × Int × List UInt8 × Int × Int × Bool × Unit → Option ((Int × Bool × List UInt8 × Int × Int × Bool × Int × Int × List UInt8 × Int × Int × Unit) ⊕ (Int × Int × Unit))
def E164_c5 (f : T164_c5) : LEnt := ⟨f164_c5_ins, f164_c5_outs, f⟩
abbrev T164_c6 := Int × Bool × List UInt8 × Int × Int × Bool × Int × Int × List UInt8 × Int × Int × Bool × Unit → Option ((Int × Bool × List UInt8 × Int × Int × Bool × Int × List UInt8 × Int × Int × Unit) ⊕ (Int × Bool × List UInt8 × Int × Int × Bool × Int × Int × List UInt8 × Int × Int × Unit) ⊕ (Int × Int × Unit))
def E164_c6 (f : T164_c6) : LEnt := ⟨f164_c6_ins, f164_c6_outs, f⟩
abbrev T164_l0 := Int × Bool × List UInt8 × Int × Int × Bool × Int × List UInt8 × Int × Int × Unit → Option ((List UInt8 × Bool × Int × Unit) ⊕ (Int × Int × Unit))
def E164_l0 (f : T164_l0) : LEnt := ⟨f164_l0_ins, f164_l0_outs, f⟩
abbrev T164_c7 := List UInt8 × Int × Int × Bool × List UInt8 × Int × Unit → Option ((Int × Int × Unit) ⊕ (Int × Unit))
def E164_c7 (f : T164_c7) : LEnt := ⟨f164_c7_ins, f164_c7_outs, f⟩
abbrev T164_c8 := List UInt8 × Int × Int × Bool × List UInt8 × Unit → Option ((Int × Int × Unit) ⊕ (Int × Unit))
def E164_c8 (f : T164_c8) : LEnt := ⟨f164_c8_ins, f164_c8_outs, f⟩
abbrev T164 := List UInt8 × Int × Int × Unit → Option ((Int × Int × Unit) ⊕ (Int × Unit))
def E164 (f : T164) : FEnt := ⟨f164_ins, f164_outs, f⟩
def K164 (f198 : T198) (f199 : T199) : Calls' := fun f => Ae.lookA f [(198, E198 f198), (199, E199 f199)]
theorem kok164 : KOk Tryz.prog (K164 C198 C199) := (kok_cons ok198 (kok_cons ok199 (kok_nil _)))
def F164_c0 (f198 : T198) (f199 : T199) : List UInt8 × Int × Bool × List UInt8 × Bool × Unit → Option (List UInt8 × Int × Int × Bool × List UInt8 × Unit) := fun (x0, x1, x2, x3, x4, _) =>
  bif x4 then
    bif decide (2 ≤ (↑x0.length : Int)) then
      some (List.drop 2 x0, 16, x1, x2, x3, ())
    else none
  else
    bif decide (1 ≤ (↑x0.length : Int)) then
      some (List.drop 1 x0, 8, x1, x2, x3, ())
    else none
theorem h164_c0 (f198 : T198) (f199 : T199) (v : HS f164_c0_ins) : aev Γ (K164 f198 f199) 0 (subc (code Tryz.f164) [1, 1, 1, 1, 0, 0, 1, 1, 1, 0, 1, 1, 0, 0, 1, 1, 1, 1, 1]) .nil (stof f164_c0_ins v) (oout 0 f164_c0_outs) = F164_c0 f198 f199 v := by kernel_rfl
def C164_c0 : T164_c0 := F164_c0 C198 C199
theorem k164_c0 : FragOk Tryz.prog 0 (fun Q a w => (subc (code Tryz.f164) [1, 1, 1, 1, 0, 0, 1, 1, 1, 0, 1, 1, 0, 0, 1, 1, 1, 1, 1]).wp Tryz.prog Q a w) (E164_c0 C164_c0) :=
  frag_code (ins := f164_c0_ins) (os := f164_c0_outs) (n := .nil) (F := C164_c0) hm hΓ kok164 (ann_nil _) (h164_c0 C198 C199)
def N164_c1 (f164_c0 : T164_c0) : Ann := (.cond .nil (.cut .nil (E164_c0 f164_c0)))
def F164_c1 (f198 : T198) (f199 : T199) (f164_c0 : T164_c0) : List UInt8 × Int × Bool × List UInt8 × Bool × Unit → Option (List UInt8 × Int × Int × Bool × List UInt8 × Unit) := fun (x0, x1, x2, x3, x4, _) =>
  bif x4 then
    bif decide (2 ≤ (↑x0.length : Int)) then
      some (List.drop 2 x0, 8, x1, x2, x3, ())
    else none
  else
    bif decide ((↑x0.length : Int) ≥ 3) then
      bif decide (1 < (↑x0.length : Int)) then
        (f198 ((↑(x0.getD 1 0).toNat : Int), ())).bind fun val =>
          (f164_c0 (x0, x1, x2, x3, val.fst == 120, ())).bind fun val =>
            some (val.fst, val.snd.fst, val.snd.snd.fst, val.snd.snd.snd.fst, val.snd.snd.snd.snd.fst, ())
      else none
    else
      (f164_c0 (x0, x1, x2, x3, false, ())).bind fun val =>
        some (val.fst, val.snd.fst, val.snd.snd.fst, val.snd.snd.snd.fst, val.snd.snd.snd.snd.fst, ())
theorem h164_c1 (f198 : T198) (f199 : T199) (f164_c0 : T164_c0) (v : HS f164_c1_ins) : aev Γ (K164 f198 f199) 0 (subc (code Tryz.f164) [1, 1, 1, 1, 0, 0, 1, 1, 1, 0, 1, 1, 0, 0, 1, 1, 1]) (N164_c1 f164_c0) (stof f164_c1_ins v) (oout 0 f164_c1_outs) = F164_c1 f198 f199 f164_c0 v := by kernel_rfl
def C164_c1 : T164_c1 := F164_c1 C198 C199 C164_c0
theorem k164_c1 : FragOk Tryz.prog 0 (fun Q a w => (subc (code Tryz.f164) [1, 1, 1, 1, 0, 0, 1, 1, 1, 0, 1, 1, 0, 0, 1, 1, 1]).wp Tryz.prog Q a w) (E164_c1 C164_c1) :=
  frag_code (ins := f164_c1_ins) (os := f164_c1_outs) (n := (N164_c1 C164_c0)) (F := C164_c1) hm hΓ kok164 (ann_obs (And.intro k164_c0 trivial) (by kernel_rfl)) (h164_c1 C198 C199 C164_c0)
def N164_c2 (f164_c1 : T164_c1) : Ann := (.cond .nil (.cut .nil (E164_c1 f164_c1)))
def F164_c2 (f198 : T198) (f199 : T199) (f164_c1 : T164_c1) : List UInt8 × Int × Bool × List UInt8 × Bool × Unit → Option (List UInt8 × Int × Int × Bool × List UInt8 × Unit) := fun (x0, x1, x2, x3, x4, _) =>
  bif x4 then
    bif decide (2 ≤ (↑x0.length : Int)) then
      some (List.drop 2 x0, 2, x1, x2, x3, ())
    else none
  else
    bif decide ((↑x0.length : Int) ≥ 3) then
      bif decide (1 < (↑x0.length : Int)) then
        (f198 ((↑(x0.getD 1 0).toNat : Int), ())).bind fun val =>
          (f164_c1 (x0, x1, x2, x3, val.fst == 111, ())).bind fun val =>
            some (val.fst, val.snd.fst, val.snd.snd.fst, val.snd.snd.snd.fst, val.snd.snd.snd.snd.fst, ())
      else none
    else
      (f164_c1 (x0, x1, x2, x3, false, ())).bind fun val =>
        some (val.fst, val.snd.fst, val.snd.snd.fst, val.snd.snd.snd.fst, val.snd.snd.snd.snd.fst, ())
theorem h164_c2 (f198 : T198) (f199 : T199) (f164_c1 : T164_c1) (v : HS f164_c2_ins) : aev Γ (K164 f198 f199) 0 (subc (code Tryz.f164) [1, 1, 1, 1, 0, 0, 1, 1, 1, 0, 1, 1, 0, 0, 1]) (N164_c2 f164_c1) (stof f164_c2_ins v) (oout 0 f164_c2_outs) = F164_c2 f198 f199 f164_c1 v := by kernel_rfl
def C164_c2 : T164_c2 := F164_c2 C198 C199 C164_c1
theorem k164_c2 : FragOk Tryz.prog 0 (fun Q a w => (subc (code Tryz.f164) [1, 1, 1, 1, 0, 0, 1, 1, 1, 0, 1, 1, 0, 0, 1]).wp Tryz.prog Q a w) (E164_c2 C164_c2) :=
  frag_code (ins := f164_c2_ins) (os := f164_c2_outs) (n := (N164_c2 C164_c1)) (F := C164_c2) hm hΓ kok164 (ann_obs (And.intro k164_c1 trivial) (by kernel_rfl)) (h164_c2 C198 C199 C164_c1)
def N164_c3 (f164_c2 : T164_c2) : Ann := (.cond .nil (.seq .nil (.cond (.seq .nil (.seq .nil (.cond (.blk (.cut .nil (E164_c2 f164_c2))) .nil))) .nil)))
def F164_c3 (f198 : T198) (f199 : T199) (f164_c2 : T164_c2) : List UInt8 × Int × Int × Bool × List UInt8 × Bool × Unit → Option ((List UInt8 × Int × Int × Bool × List UInt8 × Unit) ⊕ (Int × Int × Unit)) := fun (x0, x1, x2, x3, x4, x5, _) =>
  bif x5 then some (Sum.inl (x0, x1, x2, x3, x4, ()))
  else
    bif x1 == 0 then
      bif decide (0 < (↑x0.length : Int)) then
        bif (↑(x0.getD 0 0).toNat : Int) == 48 then
          bif decide ((↑x0.length : Int) ≥ 3) then
            bif decide (1 < (↑x0.length : Int)) then
              (f198 ((↑(x0.getD 1 0).toNat : Int), ())).bind fun val =>
                (f164_c2 (x0, x2, x3, x4, val.fst == 98, ())).bind fun val =>
                  some
                    (Sum.inl
                      (val.fst, val.snd.fst, val.snd.snd.fst, val.snd.snd.snd.fst, val.snd.snd.snd.snd.fst, ()))
            else none
          else
            (f164_c2 (x0, x2, x3, x4, false, ())).bind fun val =>
              some
                (Sum.inl
                  (val.fst, val.snd.fst, val.snd.snd.fst, val.snd.snd.snd.fst, val.snd.snd.snd.snd.fst, ()))
        else some (Sum.inl (x0, 10, x2, x3, x4, ()))
      else none
    else some (Sum.inr (0, 3, ()))
theorem h164_c3 (f198 : T198) (f199 : T199) (f164_c2 : T164_c2) (v : HS f164_c3_ins) : aev Γ (K164 f198 f199) 0 (subc (code Tryz.f164) [1, 1, 1, 1, 0, 0, 1]) (N164_c3 f164_c2) (stof f164_c3_ins v) (oout 0 f164_c3_outs) = F164_c3 f198 f199 f164_c2 v := by kernel_rfl
def C164_c3 : T164_c3 := F164_c3 C198 C199 C164_c2
theorem k164_c3 : FragOk Tryz.prog 0 (fun Q a w => (subc (code Tryz.f164) [1, 1, 1, 1, 0, 0, 1]).wp Tryz.prog Q a w) (E164_c3 C164_c3) :=
  frag_code (ins := f164_c3_ins) (os := f164_c3_outs) (n := (N164_c3 C164_c2)) (F := C164_c3) hm hΓ kok164 (ann_obs (And.intro k164_c2 trivial) (by kernel_rfl)) (h164_c3 C198 C199 C164_c2)
def F164_c4 (f198 : T198) (f199 : T199) : Int × Bool × List UInt8 × Int × Int × Bool × Int × Int × List UInt8 × Int × Int × Bool × Unit → Option ((Int × Bool × List UInt8 × Int × Int × Bool × Int × Int × List UInt8 × Int × Int × Unit) ⊕ (Int × Int × Unit)) := fun (x0, x1, x2, x3, x4, x5, x6, x7, x8, x9, x10, x11, _) =>
  bif x11 then
    (f198 (x7, ())).bind fun val =>
      some
        (Sum.inl
          (x0, x1, x2, x3, x4, x5, x6, IntKind.u8.wrap (IntKind.u8.wrap (val.fst - 97) + 10), x8, x9, x10, ()))
  else some (Sum.inr (0, 2, ()))
theorem h164_c4 (f198 : T198) (f199 : T199) (v : HS f164_c4_ins) : aev Γ (K164 f198 f199) 0 (subc (code Tryz.f164) [1, 1, 1, 1, 1, 1, 1, 1, 1, 1, 1, 0, 1, 0, 0, 1, 1, 0, 0, 1, 1, 0, 0, 1, 1, 1, 1, 1]) .nil (stof f164_c4_ins v) (oout 0 f164_c4_outs) = F164_c4 f198 f199 v := by kernel_rfl
def C164_c4 : T164_c4 := F164_c4 C198 C199
theorem k164_c4 : FragOk Tryz.prog 0 (fun Q a w => (subc (code Tryz.f164) [1, 1, 1, 1, 1, 1, 1, 1, 1, 1, 1, 0, 1, 0, 0, 1, 1, 0, 0, 1, 1, 0, 0, 1, 1, 1, 1, 1]).wp Tryz.prog Q a w) (E164_c4 C164_c4) :=
  frag_code (ins := f164_c4_ins) (os := f164_c4_outs) (n := .nil) (F := C164_c4) hm hΓ kok164 (ann_nil _) (h164_c4 C198 C199)
def N164_c5 (f164_c4 : T164_c4) : Ann := (.cond .nil (.cut .nil (E164_c4 f164_c4)))
def F164_c5 (f198 : T198) (f199 : T199) (f164_c4 : T164_c4) : Int × Bool × List UInt8 × Int × Int × Bool × Int × Int × List UInt8 × Int × Int × Bool × Unit → Option ((Int × Bool × List UInt8 × Int × Int × Bool × Int × Int × List UInt8 × Int × Int × Unit) ⊕ (Int × Int × Unit)) := fun (x0, x1, x2, x3, x4, x5, x6, x7, x8, x9, x10, x11, _) =>
  bif x11 then some (Sum.inl (x0, x1, x2, x3, x4, x5, x6, IntKind.u8.wrap (x7 - 48), x8, x9, x10, ()))
  else
    (f198 (x7, ())).bind fun val =>
      bif decide (97 ≤ val.fst) then
        (f198 (x7, ())).bind fun val =>
          (f164_c4 (x0, x1, x2, x3, x4, x5, x6, x7, x8, x9, x10, decide (val.fst ≤ 122), ())).bind fun val =>
            Sum.elim
              (fun val =>
                some
                  (Sum.inl
                    (val.fst, val.snd.fst, val.snd.snd.fst, val.snd.snd.snd.fst, val.snd.snd.snd.snd.fst,
                      val.snd.snd.snd.snd.snd.fst, val.snd.snd.snd.snd.snd.snd.fst, val.snd.snd.snd.snd.snd.snd.snd.fst,
                      val.snd.snd.snd.snd.snd.snd.snd.snd.fst, val.snd.snd.snd.snd.snd.snd.snd.snd.snd.fst,
                      val.snd.snd.snd.snd.snd.snd.snd.snd.snd.snd.fst, ())))
              (fun val => some (Sum.inr (val.fst, val.snd.fst, ()))) val
      else
        (f164_c4 (x0, x1, x2, x3, x4, x5, x6, x7, x8, x9, x10, false, ())).bind fun val =>
          Sum.elim
            (fun val =>
              some
                (Sum.inl
                  (val.fst, val.snd.fst, val.snd.snd.fst, val.snd.snd.snd.fst, val.snd.snd.snd.snd.fst,
                    val.snd.snd.snd.snd.snd.fst, val.snd.snd.snd.snd.snd.snd.fst, val.snd.snd.snd.snd.snd.snd.snd.fst,
                    val.snd.snd.snd.snd.snd.snd.snd.snd.fst, val.snd.snd.snd.snd.snd.snd.snd.snd.snd.fst,
                    val.snd.snd.snd.snd.snd.snd.snd.snd.snd.snd.fst, ())))
            (fun val => some (Sum.inr (val.fst, val.snd.fst, ()))) val
theorem h164_c5 (f198 : T198) (f199 : T199) (f164_c4 : T164_c4) (v : HS f164_c5_ins) : aev Γ (K164 f198 f199) 0 (subc (code Tryz.f164) [1, 1, 1, 1, 1, 1, 1, 1, 1, 1, 1, 0, 1, 0, 0, 1, 1, 0, 0, 1, 1, 0, 0, 1, 1, 1]) (N164_c5 f164_c4) (stof f164_c5_ins v) (oout 0 f164_c5_outs) = F164_c5 f198 f199 f164_c4 v := by kernel_rfl
def C164_c5 : T164_c5 := F164_c5 C198 C199 C164_c4
theorem k164_c5 : FragOk Tryz.prog 0 (fun Q a w => (subc (code Tryz.f164) [1, 1, 1, 1, 1, 1, 1, 1, 1, 1, 1, 0, 1, 0, 0, 1, 1, 0, 0, 1, 1, 0, 0, 1, 1, 1]).wp Tryz.prog Q a w) (E164_c5 C164_c5) :=
  frag_code (ins := f164_c5_ins) (os := f164_c5_outs) (n := (N164_c5 C164_c4)) (F := C164_c5) hm hΓ kok164 (ann_obs (And.intro k164_c4 trivial) (by kernel_rfl)) (h164_c5 C198 C199 C164_c4)
def N164_c6 (f164_c5 : T164_c5) : Ann := (.cond .nil (.cut .nil (E164_c5 f164_c5)))
def F164_c6 (f198 : T198) (f199 : T199) (f164_c5 : T164_c5) : Int × Bool × List UInt8 × Int × Int × Bool × Int × Int × List UInt8 × Int × Int × Bool × Unit → Option ((Int × Bool × List UInt8 × Int × Int × Bool × Int × List UInt8 × Int × Int × Unit) ⊕ (Int × Bool × List UInt8 × Int × Int × Bool × Int × Int × List UInt8 × Int × Int × Unit) ⊕ (Int × Int × Unit)) := fun (x0, x1, x2, x3, x4, x5, x6, x7, x8, x9, x10, x11, _) =>
  bif x11 then some (Sum.inl (x0, x1, x2, x3, x4, true, x6, x8, x9, x10, ()))
  else
    bif decide (48 ≤ x7) then
      (f164_c5 (x0, x1, x2, x3, x4, x5, x6, x7, x8, x9, x10, decide (x7 ≤ 57), ())).bind fun val =>
        Sum.elim
          (fun val =>
            some
              (Sum.inr
                (Sum.inl
                  (val.fst, val.snd.fst, val.snd.snd.fst, val.snd.snd.snd.fst, val.snd.snd.snd.snd.fst,
                    val.snd.snd.snd.snd.snd.fst, val.snd.snd.snd.snd.snd.snd.fst, val.snd.snd.snd.snd.snd.snd.snd.fst,
                    val.snd.snd.snd.snd.snd.snd.snd.snd.fst, val.snd.snd.snd.snd.snd.snd.snd.snd.snd.fst,
                    val.snd.snd.snd.snd.snd.snd.snd.snd.snd.snd.fst, ()))))
          (fun val => some (Sum.inr (Sum.inr (val.fst, val.snd.fst, ())))) val
    else
      (f164_c5 (x0, x1, x2, x3, x4, x5, x6, x7, x8, x9, x10, false, ())).bind fun val =>
        Sum.elim
          (fun val =>
            some
              (Sum.inr
                (Sum.inl
                  (val.fst, val.snd.fst, val.snd.snd.fst, val.snd.snd.snd.fst, val.snd.snd.snd.snd.fst,
                    val.snd.snd.snd.snd.snd.fst, val.snd.snd.snd.snd.snd.snd.fst, val.snd.snd.snd.snd.snd.snd.snd.fst,
                    val.snd.snd.snd.snd.snd.snd.snd.snd.fst, val.snd.snd.snd.snd.snd.snd.snd.snd.snd.fst,
                    val.snd.snd.snd.snd.snd.snd.snd.snd.snd.snd.fst, ()))))
          (fun val => some (Sum.inr (Sum.inr (val.fst, val.snd.fst, ())))) val
theorem h164_c6 (f198 : T198) (f199 : T199) (f164_c5 : T164_c5) (v : HS f164_c6_ins) : aev Γ (K164 f198 f199) 0 (subc (code Tryz.f164) [1, 1, 1, 1, 1, 1, 1, 1, 1, 1, 1, 0, 1, 0, 0, 1, 1, 0, 0, 1, 1, 0, 0, 1]) (N164_c6 f164_c5) (stof f164_c6_ins v) (oout 0 f164_c6_outs) = F164_c6 f198 f199 f164_c5 v := by kernel_rfl
def C164_c6 : T164_c6 := F164_c6 C198 C199 C164_c5
theorem k164_c6 : FragOk Tryz.prog 0 (fun Q a w => (subc (code Tryz.f164) [1, 1, 1, 1, 1, 1, 1, 1, 1, 1, 1, 0, 1, 0, 0, 1, 1, 0, 0, 1, 1, 0, 0, 1]).wp Tryz.prog Q a w) (E164_c6 C164_c6) :=
  frag_code (ins := f164_c6_ins) (os := f164_c6_outs) (n := (N164_c6 C164_c5)) (F := C164_c6) hm hΓ kok164 (ann_obs (And.intro k164_c5 trivial) (by kernel_rfl)) (h164_c6 C198 C199 C164_c5)
def N164_l0 (f164_c6 : T164_c6) : Ann := (.seq .nil (.seq .nil (.seq (.blk (.seq .nil (.seq .nil (.seq (.blk (.cut .nil (E164_c6 f164_c6))) .nil)))) .nil)))
def F164_l0 (f198 : T198) (f199 : T199) (f164_c6 : T164_c6) : Int × Bool × List UInt8 × Int × Int × Bool × Int × List UInt8 × Int × Int × Unit → Option ((Int × Bool × List UInt8 × Int × Int × Bool × Int × List UInt8 × Int × Int × Unit) ⊕ ((List UInt8 × Bool × Int × Unit) ⊕ (Int × Int × Unit))) := fun (x0, x1, x2, x3, x4, x5, x6, x7, x8, x9, _) =>
  bif decide (x9 < x8) then
    bif decide (0 ≤ x9) && decide (x9 < (↑x7.length : Int)) then
      bif (↑(UInt8.toNat (x7.getD x9.toNat 0)) : Int) == 95 then
        (f164_c6
              (x0, x1, x2, x3, x4, x5, x6, (↑(UInt8.toNat (x7.getD x9.toNat 0)) : Int), x7, x8, x9, x1,
                ())).bind
          fun val =>
          Sum.elim
            (fun val =>
              some
                (Sum.inl
                  (val.fst, val.snd.fst, val.snd.snd.fst, val.snd.snd.snd.fst, val.snd.snd.snd.snd.fst,
                    val.snd.snd.snd.snd.snd.fst, val.snd.snd.snd.snd.snd.snd.fst, val.snd.snd.snd.snd.snd.snd.snd.fst,
                    val.snd.snd.snd.snd.snd.snd.snd.snd.fst,
                    IntKind.i64.wrap (val.snd.snd.snd.snd.snd.snd.snd.snd.snd.fst + 1), ())))
            (fun val =>
              Sum.elim
                (fun val =>
                  bif decide (val.snd.snd.snd.snd.snd.snd.snd.fst ≥ IntKind.u8.wrap val.fst) then
                    some (Sum.inr (Sum.inr (0, 2, ())))
                  else
                    bif decide (val.snd.snd.snd.snd.snd.snd.fst ≥ val.snd.snd.snd.fst) then
                      some (Sum.inr (Sum.inr (val.snd.snd.snd.snd.fst, 1, ())))
                    else
                      bif
                          decide
                            (IntKind.u64.wrap
                                (IntKind.u64.wrap (val.snd.snd.snd.snd.snd.snd.fst * IntKind.u64.wrap val.fst) +
                                  IntKind.u64.wrap val.snd.snd.snd.snd.snd.snd.snd.fst) <
                              IntKind.u64.wrap (val.snd.snd.snd.snd.snd.snd.fst * IntKind.u64.wrap val.fst)) then
                        some (Sum.inr (Sum.inr (val.snd.snd.snd.snd.fst, 1, ())))
                      else
                        bif
                            decide
                              (IntKind.u64.wrap
                                  (IntKind.u64.wrap (val.snd.snd.snd.snd.snd.snd.fst * IntKind.u64.wrap val.fst) +
                                    IntKind.u64.wrap val.snd.snd.snd.snd.snd.snd.snd.fst) >
                                val.snd.snd.snd.snd.fst) then
                          some (Sum.inr (Sum.inr (val.snd.snd.snd.snd.fst, 1, ())))
                        else
                          some
                            (Sum.inl
                              (val.fst, val.snd.fst, val.snd.snd.fst, val.snd.snd.snd.fst, val.snd.snd.snd.snd.fst,
                                val.snd.snd.snd.snd.snd.fst,
                                IntKind.u64.wrap
                                  (IntKind.u64.wrap (val.snd.snd.snd.snd.snd.snd.fst * IntKind.u64.wrap val.fst) +
                                    IntKind.u64.wrap val.snd.snd.snd.snd.snd.snd.snd.fst),
                                val.snd.snd.snd.snd.snd.snd.snd.snd.fst, val.snd.snd.snd.snd.snd.snd.snd.snd.snd.fst,
                                IntKind.i64.wrap (val.snd.snd.snd.snd.snd.snd.snd.snd.snd.snd.fst + 1), ())))
                (fun val => some (Sum.inr (Sum.inr (val.fst, val.snd.fst, ())))) val)
            val
      else
        (f164_c6
              (x0, x1, x2, x3, x4, x5, x6, (↑(UInt8.toNat (x7.getD x9.toNat 0)) : Int), x7, x8, x9, false,
                ())).bind
          fun val =>
          Sum.elim
            (fun val =>
              some
                (Sum.inl
                  (val.fst, val.snd.fst, val.snd.snd.fst, val.snd.snd.snd.fst, val.snd.snd.snd.snd.fst,
                    val.snd.snd.snd.snd.snd.fst, val.snd.snd.snd.snd.snd.snd.fst, val.snd.snd.snd.snd.snd.snd.snd.fst,
                    val.snd.snd.snd.snd.snd.snd.snd.snd.fst,
                    IntKind.i64.wrap (val.snd.snd.snd.snd.snd.snd.snd.snd.snd.fst + 1), ())))
            (fun val =>
              Sum.elim
                (fun val =>
                  bif decide (val.snd.snd.snd.snd.snd.snd.snd.fst ≥ IntKind.u8.wrap val.fst) then
                    some (Sum.inr (Sum.inr (0, 2, ())))
                  else
                    bif decide (val.snd.snd.snd.snd.snd.snd.fst ≥ val.snd.snd.snd.fst) then
                      some (Sum.inr (Sum.inr (val.snd.snd.snd.snd.fst, 1, ())))
                    else
                      bif
                          decide
                            (IntKind.u64.wrap
                                (IntKind.u64.wrap (val.snd.snd.snd.snd.snd.snd.fst * IntKind.u64.wrap val.fst) +
                                  IntKind.u64.wrap val.snd.snd.snd.snd.snd.snd.snd.fst) <
                              IntKind.u64.wrap (val.snd.snd.snd.snd.snd.snd.fst * IntKind.u64.wrap val.fst)) then
                        some (Sum.inr (Sum.inr (val.snd.snd.snd.snd.fst, 1, ())))
                      else
                        bif
                            decide
                              (IntKind.u64.wrap
                                  (IntKind.u64.wrap (val.snd.snd.snd.snd.snd.snd.fst * IntKind.u64.wrap val.fst) +
                                    IntKind.u64.wrap val.snd.snd.snd.snd.snd.snd.snd.fst) >
                                val.snd.snd.snd.snd.fst) then
                          some (Sum.inr (Sum.inr (val.snd.snd.snd.snd.fst, 1, ())))
                        else
                          some
                            (Sum.inl
                              (val.fst, val.snd.fst, val.snd.snd.fst, val.snd.snd.snd.fst, val.snd.snd.snd.snd.fst,
                                val.snd.snd.snd.snd.snd.fst,
                                IntKind.u64.wrap
                                  (IntKind.u64.wrap (val.snd.snd.snd.snd.snd.snd.fst * IntKind.u64.wrap val.fst) +
                                    IntKind.u64.wrap val.snd.snd.snd.snd.snd.snd.snd.fst),
                                val.snd.snd.snd.snd.snd.snd.snd.snd.fst, val.snd.snd.snd.snd.snd.snd.snd.snd.snd.fst,
                                IntKind.i64.wrap (val.snd.snd.snd.snd.snd.snd.snd.snd.snd.snd.fst + 1), ())))
                (fun val => some (Sum.inr (Sum.inr (val.fst, val.snd.fst, ())))) val)
            val
    else none
  else some (Sum.inr (Sum.inl (x2, x5, x6, ())))
theorem h164_l0 (f198 : T198) (f199 : T199) (f164_c6 : T164_c6) (v : HS f164_l0_ins) : aev Γ (K164 f198 f199) 0 (subc (code Tryz.f164) [1, 1, 1, 1, 1, 1, 1, 1, 1, 1, 1, 0, 1, 0, 0]) (N164_l0 f164_c6) (stof f164_l0_ins v) (around 0 f164_l0_ins f164_l0_outs) = F164_l0 f198 f199 f164_c6 v := by kernel_rfl
def C164_l0 : T164_l0 := loopN (F164_l0 C198 C199 C164_c6) big
theorem k164_l0 : FragOk Tryz.prog 0 (fun Q a w => (Code.loop (subc (code Tryz.f164) [1, 1, 1, 1, 1, 1, 1, 1, 1, 1, 1, 0, 1, 0, 0])).wp Tryz.prog Q a w) (E164_l0 C164_l0) :=
  frag_big (ins := f164_l0_ins) (os := f164_l0_outs) (C := C164_l0) (frag_loop (ins := f164_l0_ins) (os := f164_l0_outs) (n := (N164_l0 C164_c6)) (F := F164_l0 C198 C199 C164_c6) hm hΓ kok164 (fun _ => big) (ann_obs (And.intro k164_c6 trivial) (by kernel_rfl)) (h164_l0 C198 C199 C164_c6)) rfl
def N164_c7 (f164_l0 : T164_l0) : Ann := (.seq .nil (.seq .nil (.seq .nil (.seq (.seq .nil (.blk (.loop (E164_l0 f164_l0)))) .nil))))
def F164_c7 (f198 : T198) (f199 : T199) (f164_l0 : T164_l0) : List UInt8 × Int × Int × Bool × List UInt8 × Int × Unit → Option ((Int × Int × Unit) ⊕ (Int × Unit)) := fun (x0, x1, x2, x3, x4, x5, _) =>
  bif decide (0 ≤ IntKind.u64.wrap x2) then
    bif decide (x0.length ≤ 9223372036854775807) then
      (f164_l0
            (x1, x3, x4, x5,
              IntKind.u64.wrap (IntKind.u64.wrap (1 * 2 ^ min (IntKind.u64.wrap x2).toNat IntKind.u64.bits) - 1), false,
              0, x0, (↑x0.length : Int), 0, ())).bind
        fun val =>
        Sum.elim
          (fun val =>
            bif val.snd.fst then
              (f199 (val.fst, ())).bind fun val_1 =>
                bif !val_1.fst then some (Sum.inl (0, 2, ())) else some (Sum.inr (val.snd.snd.fst, ()))
            else some (Sum.inr (val.snd.snd.fst, ())))
          (fun val => some (Sum.inl (val.fst, val.snd.fst, ()))) val
    else none
  else none
theorem h164_c7 (f198 : T198) (f199 : T199) (f164_l0 : T164_l0) (v : HS f164_c7_ins) : aev Γ (K164 f198 f199) 0 (subc (code Tryz.f164) [1, 1, 1, 1, 1, 1, 1, 1]) (N164_c7 f164_l0) (stof f164_c7_ins v) (oout 0 f164_c7_outs) = F164_c7 f198 f199 f164_l0 v := by kernel_rfl
def C164_c7 : T164_c7 := F164_c7 C198 C199 C164_l0
theorem k164_c7 : FragOk Tryz.prog 0 (fun Q a w => (subc (code Tryz.f164) [1, 1, 1, 1, 1, 1, 1, 1]).wp Tryz.prog Q a w) (E164_c7 C164_c7) :=
  frag_code (ins := f164_c7_ins) (os := f164_c7_outs) (n := (N164_c7 C164_l0)) (F := C164_c7) hm hΓ kok164 (ann_obs (And.intro k164_l0 trivial) (by kernel_rfl)) (h164_c7 C198 C199 C164_l0)
def N164_c8 (f164_c7 : T164_c7) : Ann := (.seq .nil (.cut .nil (E164_c7 f164_c7)))
def F164_c8 (f198 : T198) (f199 : T199) (f164_c7 : T164_c7) : List UInt8 × Int × Int × Bool × List UInt8 × Unit → Option ((Int × Int × Unit) ⊕ (Int × Unit)) := fun (x0, x1, x2, x3, x4, _) =>
  bif x1 == 10 then
    (f164_c7 (x0, x1, x2, x3, x4, 1844674407370955162, ())).bind fun val =>
      Sum.elim (fun val => some (Sum.inl (val.fst, val.snd.fst, ())))
        (fun val => some (Sum.inr (val.fst, ()))) val
  else
    bif x1 == 16 then
      (f164_c7 (x0, x1, x2, x3, x4, 1152921504606846976, ())).bind fun val =>
        Sum.elim (fun val => some (Sum.inl (val.fst, val.snd.fst, ())))
          (fun val => some (Sum.inr (val.fst, ()))) val
    else
      bif IntKind.u64.wrap x1 != 0 then
        (f164_c7
              (x0, x1, x2, x3, x4,
                IntKind.u64.wrap (IntKind.u64.wrap (Int.tdiv 18446744073709551615 (IntKind.u64.wrap x1)) + 1), ())).bind
          fun val =>
          Sum.elim (fun val => some (Sum.inl (val.fst, val.snd.fst, ())))
            (fun val => some (Sum.inr (val.fst, ()))) val
      else none
theorem h164_c8 (f198 : T198) (f199 : T199) (f164_c7 : T164_c7) (v : HS f164_c8_ins) : aev Γ (K164 f198 f199) 0 (subc (code Tryz.f164) [1, 1, 1, 1, 1, 1]) (N164_c8 f164_c7) (stof f164_c8_ins v) (oout 0 f164_c8_outs) = F164_c8 f198 f199 f164_c7 v := by kernel_rfl
def C164_c8 : T164_c8 := F164_c8 C198 C199 C164_c7
theorem k164_c8 : FragOk Tryz.prog 0 (fun Q a w => (subc (code Tryz.f164) [1, 1, 1, 1, 1, 1]).wp Tryz.prog Q a w) (E164_c8 C164_c8) :=
  frag_code (ins := f164_c8_ins) (os := f164_c8_outs) (n := (N164_c8 C164_c7)) (F := C164_c8) hm hΓ kok164 (ann_obs (And.intro k164_c7 trivial) (by kernel_rfl)) (h164_c8 C198 C199 C164_c7)
def N164 (f164_c3 : T164_c3) (f164_c8 : T164_c8) : Ann := (.seq .nil (.seq .nil (.seq .nil (.seq .nil (.seq (.blk (.cut .nil (E164_c3 f164_c3))) (.cut .nil (E164_c8 f164_c8)))))))
def F164 (f198 : T198) (f199 : T199) (f164_c3 : T164_c3) (f164_c8 : T164_c8) : List UInt8 × Int × Int × Unit → Option ((Int × Int × Unit) ⊕ (Int × Unit)) := fun (x0, x1, x2, _) =>
  bif x0 == [] then some (Sum.inl (0, 2, ()))
  else
    bif decide (2 ≤ x1) then
      (f164_c3 (x0, x1, x2, x1 == 0, x0, decide (x1 ≤ 36), ())).bind fun val =>
        Sum.elim
          (fun val =>
            bif val.snd.snd.fst == 0 then
              (f164_c8 (val.fst, val.snd.fst, 64, val.snd.snd.snd.fst, val.snd.snd.snd.snd.fst, ())).bind fun val =>
                Sum.elim (fun val => some (Sum.inl (val.fst, val.snd.fst, ())))
                  (fun val => some (Sum.inr (val.fst, ()))) val
            else
              bif decide (val.snd.snd.fst < 0) then some (Sum.inl (0, 4, ()))
              else
                bif decide (val.snd.snd.fst > 64) then some (Sum.inl (0, 4, ()))
                else
                  (f164_c8 (val.fst, val.snd.fst, val.snd.snd.fst, val.snd.snd.snd.fst, val.snd.snd.snd.snd.fst, ())).bind
                    fun val =>
                    Sum.elim (fun val => some (Sum.inl (val.fst, val.snd.fst, ())))
                      (fun val => some (Sum.inr (val.fst, ()))) val)
          (fun val => some (Sum.inl (val.fst, val.snd.fst, ()))) val
    else
      (f164_c3 (x0, x1, x2, x1 == 0, x0, false, ())).bind fun val =>
        Sum.elim
          (fun val =>
            bif val.snd.snd.fst == 0 then
              (f164_c8 (val.fst, val.snd.fst, 64, val.snd.snd.snd.fst, val.snd.snd.snd.snd.fst, ())).bind fun val =>
                Sum.elim (fun val => some (Sum.inl (val.fst, val.snd.fst, ())))
                  (fun val => some (Sum.inr (val.fst, ()))) val
            else
              bif decide (val.snd.snd.fst < 0) then some (Sum.inl (0, 4, ()))
              else
                bif decide (val.snd.snd.fst > 64) then some (Sum.inl (0, 4, ()))
                else
                  (f164_c8 (val.fst, val.snd.fst, val.snd.snd.fst, val.snd.snd.snd.fst, val.snd.snd.snd.snd.fst, ())).bind
                    fun val =>
                    Sum.elim (fun val => some (Sum.inl (val.fst, val.snd.fst, ())))
                      (fun val => some (Sum.inr (val.fst, ()))) val)
          (fun val => some (Sum.inl (val.fst, val.snd.fst, ()))) val
theorem h164 (f198 : T198) (f199 : T199) (f164_c3 : T164_c3) (f164_c8 : T164_c8) (v : HS f164_ins) : afun Γ (K164 f198 f199) 0 Tryz.f164.ntmps Tryz.f164.results.toList (code Tryz.f164) (N164 f164_c3 f164_c8) (em id f164_ins v).1 (em id f164_ins v).2 (ofin 0 f164_outs) = F164 f198 f199 f164_c3 f164_c8 v := by kernel_rfl
def C164 : T164 := F164 C198 C199 C164_c3 C164_c8
theorem ok164 : FnOk Tryz.prog 164 (E164 C164) :=
  fn_ok (n := (N164 C164_c3 C164_c8)) hm hΓ kok164 Tryz.func164 (c := code Tryz.f164) (by kernel_rfl) (name_ne (by kernel_rfl)) (ann_obs (And.intro k164_c3 (And.intro k164_c8 trivial)) (by kernel_rfl)) (fun v => Nat.le_of_ble_eq_true (by kernel_rfl)) (h164 C198 C199 C164_c3 C164_c8)
abbrev T130 := List UInt8 × Int × Int × Unit → Option ((Int × Unit) ⊕ (Int × Unit))
def E130 (f : T130) : FEnt := ⟨f130_ins, f130_outs, f⟩
def K130 (f164 : T164) (f165 : T165) : Calls' := fun f => Ae.lookA f [(164, E164 f164), (165, E165 f165)]
theorem kok130 : KOk Tryz.prog (K130 C164 C165) := (kok_cons ok164 (kok_cons ok165 (kok_nil _)))
def F130 (f164 : T164) (f165 : T165) : List UInt8 × Int × Int × Unit → Option ((Int × Unit) ⊕ (Int × Unit)) := fun (x0, x1, x2, _) =>
  (f164 (x0, x1, x2, ())).bind fun val =>
    Sum.elim
      (fun val =>
        (f165 ([80, 97, 114, 115, 101, 85, 105, 110, 116], x0, x1, x2, val.snd.fst, ())).bind fun val_1 =>
          some (Sum.inl (val.fst, ())))
      (fun val => some (Sum.inr (val.fst, ()))) val
theorem h130 (f164 : T164) (f165 : T165) (v : HS f130_ins) : afun Γ (K130 f164 f165) 0 Tryz.f130.ntmps Tryz.f130.results.toList (code Tryz.f130) .nil (em id f130_ins v).1 (em id f130_ins v).2 (ofin 0 f130_outs) = F130 f164 f165 v := by kernel_rfl
def C130 : T130 := F130 C164 C165
theorem ok130 : FnOk Tryz.prog 130 (E130 C130) :=
  fn_ok (n := .nil) hm hΓ kok130 Tryz.func130 (c := code Tryz.f130) (by kernel_rfl) (name_ne (by kernel_rfl)) (ann_nil _) (fun v => Nat.le_of_ble_eq_true (by kernel_rfl)) (h130 C164 C165)
abbrev T95 := List UInt8 × Unit → Option (Int × Unit)
def E95 (f : T95) : FEnt := ⟨f95_ins, f95_outs, f⟩
def K95 (f129 : T129) (f130 : T130) : Calls' := fun f => Ae.lookA f [(129, E129 f129), (130, E130 f130)]
theorem kok95 : KOk Tryz.prog (K95 C129 C130) := (kok_cons ok129 (kok_cons ok130 (kok_nil _)))
def F95 (f129 : T129) (f130 : T130) : List UInt8 × Unit → Option (Int × Unit) := fun (x0, _) =>
  (f129 (x0, [32], ())).bind fun val =>
    (f130 (val.snd.fst, 10, 31, ())).bind fun val_1 =>
      Sum.elim (fun val => some (0, ()))
        (fun val_2 =>
          bif decide ((↑(List.length val.snd.fst) : Int) > 9) then some (0, ())
          else some (IntKind.i64.wrap val_2.fst, ()))
        val_1
theorem h95 (f129 : T129) (f130 : T130) (v : HS f95_ins) : afun Γ (K95 f129 f130) 0 Tryz.f95.ntmps Tryz.f95.results.toList (code Tryz.f95) .nil (em id f95_ins v).1 (em id f95_ins v).2 (ofin 0 f95_outs) = F95 f129 f130 v := by kernel_rfl
def C95 : T95 := F95 C129 C130
theorem ok95 : FnOk Tryz.prog 95 (E95 C95) :=
  fn_ok (n := .nil) hm hΓ kok95 Tryz.func95 (c := code Tryz.f95) (by kernel_rfl) (name_ne (by kernel_rfl)) (ann_nil _) (fun v => Nat.le_of_ble_eq_true (by kernel_rfl)) (h95 C129 C130)
abbrev T48 := Int × List (List UInt8) × Unit → Option (Bool × Bool × Int × Unit)
def E48 (f : T48) : FEnt := ⟨f48_ins, f48_outs, f⟩
def K48 (f91 : T91) (f92 : T92) (f93 : T93) (f94 : T94) (f95 : T95) : Calls' := fun f => Ae.lookA f [(91, E91 f91), (92, E92 f92), (93, E93 f93), (94, E94 f94), (95, E95 f95)]
theorem kok48 : KOk Tryz.prog (K48 C91 C92 C93 C94 C95) := (kok_cons ok91 (kok_cons ok92 (kok_cons ok93 (kok_cons ok94 (kok_cons ok95 (kok_nil _))))))
def F48 (f91 : T91) (f92 : T92) (f93 : T93) (f94 : T94) (f95 : T95) : Int × List (List UInt8) × Unit → Option (Bool × Bool × Int × Unit) := fun (x0, x1, _) =>
  (f91 (x0, ())).bind fun val =>
    bif val.fst != 2 then some (false, false, 0, ())
    else
      (f92 (x0, x1, ())).bind fun val =>
        (f93 (val.fst, [115, 109, 116, 112, 117, 116, 102, 56], ())).bind fun val_1 =>
          (f93 (val.fst, [56, 98, 105, 116, 109, 105, 109, 101], ())).bind fun val_2 =>
            (f94 (val.fst, [115, 105, 122, 101], ())).bind fun val =>
              bif decide (val.fst ≥ 0) then
                bif
                    decide (0 ≤ IntKind.i64.wrap (val.fst + 1)) &&
                      decide (IntKind.i64.wrap (val.fst + 1) < (↑x1.length : Int)) then
                  (f95 (x1.getD (IntKind.i64.wrap (val.fst + 1)).toNat [], ())).bind fun val =>
                    some (val_1.fst, val_2.fst, val.fst, ())
                else none
              else some (val_1.fst, val_2.fst, 0, ())
theorem h48 (f91 : T91) (f92 : T92) (f93 : T93) (f94 : T94) (f95 : T95) (v : HS f48_ins) : afun Γ (K48 f91 f92 f93 f94 f95) 0 Tryz.f48.ntmps Tryz.f48.results.toList (code Tryz.f48) .nil (em id f48_ins v).1 (em id f48_ins v).2 (ofin 0 f48_outs) = F48 f91 f92 f93 f94 f95 v := by kernel_rfl
def C48 : T48 := F48 C91 C92 C93 C94 C95
theorem ok48 : FnOk Tryz.prog 48 (E48 C48) :=
  fn_ok (n := .nil) hm hΓ kok48 Tryz.func48 (c := code Tryz.f48) (by kernel_rfl) (name_ne (by kernel_rfl)) (ann_nil _) (fun v => Nat.le_of_ble_eq_true (by kernel_rfl)) (h48 C91 C92 C93 C94 C95)
abbrev T49 := List UInt8 × List UInt8 × Unit → Option (Bool × List UInt8 × List UInt8 × Unit)
def E49 (f : T49) : FEnt := ⟨f49_ins, f49_outs, f⟩
def K49 : Calls' := fun f => Ae.lookA f []
theorem kok49 : KOk Tryz.prog (K49) := (kok_nil _)
def F49 : List UInt8 × List UInt8 × Unit → Option (Bool × List UInt8 × List UInt8 × Unit) := fun (x0, x1, _) =>
  some (false, x0, x1, ())
theorem h49 (v : HS f49_ins) : afun Γ (K49) 0 Tryz.f49.ntmps Tryz.f49.results.toList (code Tryz.f49) .nil (em id f49_ins v).1 (em id f49_ins v).2 (ofin 0 f49_outs) = F49 v := by kernel_rfl
def C49 : T49 := F49
theorem ok49 : FnOk Tryz.prog 49 (E49 C49) :=
  fn_ok (n := .nil) hm hΓ kok49 Tryz.func49 (c := code Tryz.f49) (by kernel_rfl) (name_ne (by kernel_rfl)) (ann_nil _) (fun v => Nat.le_of_ble_eq_true (by kernel_rfl)) (h49)
abbrev T52 := Int × Unit → Option (Int × Bool × List UInt8 × List UInt8 × Bool × List UInt8 × List UInt8 × Bool × Bool × Int × Unit)
def E52 (f : T52) : FEnt := ⟨f52_ins, f52_outs, f⟩
def K52 : Calls' := fun f => Ae.lookA f []
theorem kok52 : KOk Tryz.prog (K52) := (kok_nil _)
def F52 : Int × Unit → Option (Int × Bool × List UInt8 × List UInt8 × Bool × List UInt8 × List UInt8 × Bool × Bool × Int × Unit) := fun (x0, _) =>
  some (2, false, [], [], false, [], [], false, false, x0, ())
theorem h52 (v : HS f52_ins) : afun Γ (K52) 0 Tryz.f52.ntmps Tryz.f52.results.toList (code Tryz.f52) .nil (em id f52_ins v).1 (em id f52_ins v).2 (ofin 0 f52_outs) = F52 v := by kernel_rfl
def C52 : T52 := F52
theorem ok52 : FnOk Tryz.prog 52 (E52 C52) :=
  fn_ok (n := .nil) hm hΓ kok52 Tryz.func52 (c := code Tryz.f52) (by kernel_rfl) (name_ne (by kernel_rfl)) (ann_nil _) (fun v => Nat.le_of_ble_eq_true (by kernel_rfl)) (h52)
abbrev T50 := Bool × Bool × Int × Bool × Unit → Option (Bool × Unit)
def E50 (f : T50) : FEnt := ⟨f50_ins, f50_outs, f⟩
def K50 : Calls' := fun f => Ae.lookA f []
theorem kok50 : KOk Tryz.prog (K50) := (kok_nil _)
def F50 : Bool × Bool × Int × Bool × Unit → Option (Bool × Unit) := fun (x0, x1, x2, x3, _) =>
  bif x0 then some (true, ()) else bif x1 then some (x3, ()) else some (false, ())
theorem h50 (v : HS f50_ins) : afun Γ (K50) 0 Tryz.f50.ntmps Tryz.f50.results.toList (code Tryz.f50) .nil (em id f50_ins v).1 (em id f50_ins v).2 (ofin 0 f50_outs) = F50 v := by kernel_rfl
def C50 : T50 := F50
theorem ok50 : FnOk Tryz.prog 50 (E50 C50) :=
  fn_ok (n := .nil) hm hΓ kok50 Tryz.func50 (c := code Tryz.f50) (by kernel_rfl) (name_ne (by kernel_rfl)) (ann_nil _) (fun v => Nat.le_of_ble_eq_true (by kernel_rfl)) (h50)
abbrev T58 := Bool × List UInt8 × List UInt8 × Unit → Option (Bool × Unit)
def E58 (f : T58) : FEnt := ⟨f58_ins, f58_outs, f⟩
def K58 (f21 : T21) (f96 : T96) : Calls' := fun f => Ae.lookA f [(21, E21 f21), (96, E96 f96)]
theorem kok58 : KOk Tryz.prog (K58 C21 C96) := (kok_cons ok21 (kok_cons ok96 (kok_nil _)))
def F58 (f21 : T21) (f96 : T96) : Bool × List UInt8 × List UInt8 × Unit → Option (Bool × Unit) := fun (x0, x1, x2, _) =>
  (f21 (x1, ())).bind fun val =>
    bif decide (val.fst ≥ 0) then some (true, ())
    else
      (f96 (x2, [91], ())).bind fun val =>
        bif val.fst then (f21 (x2, ())).bind fun val => some (decide (val.fst ≥ 0), ())
        else some (false, ())
theorem h58 (f21 : T21) (f96 : T96) (v : HS f58_ins) : afun Γ (K58 f21 f96) 0 Tryz.f58.ntmps Tryz.f58.results.toList (code Tryz.f58) .nil (em id f58_ins v).1 (em id f58_ins v).2 (ofin 0 f58_outs) = F58 f21 f96 v := by kernel_rfl
def C58 : T58 := F58 C21 C96
theorem ok58 : FnOk Tryz.prog 58 (E58 C58) :=
  fn_ok (n := .nil) hm hΓ kok58 Tryz.func58 (c := code Tryz.f58) (by kernel_rfl) (name_ne (by kernel_rfl)) (ann_nil _) (fun v => Nat.le_of_ble_eq_true (by kernel_rfl)) (h58 C21 C96)
abbrev T19 := Bool × List UInt8 × List UInt8 × Bool × List UInt8 × List UInt8 × Bool × Bool × Int × Unit → Option (Bool × Unit)
def E19 (f : T19) : FEnt := ⟨f19_ins, f19_outs, f⟩
def K19 (f58 : T58) : Calls' := fun f => Ae.lookA f [(58, E58 f58)]
theorem kok19 : KOk Tryz.prog (K19 C58) := (kok_cons ok58 (kok_nil _))
def F19 (f58 : T58) : Bool × List UInt8 × List UInt8 × Bool × List UInt8 × List UInt8 × Bool × Bool × Int × Unit → Option (Bool × Unit) := fun (x0, x1, x2, x3, x4, x5, x6, x7, x8, _) =>
  bif x6 then some (true, ())
  else
    (f58 (x0, x1, x2, ())).bind fun val =>
      bif val.fst then some (true, ()) else (f58 (x3, x4, x5, ())).bind fun val => some (val.fst, ())
theorem h19 (f58 : T58) (v : HS f19_ins) : afun Γ (K19 f58) 0 Tryz.f19.ntmps Tryz.f19.results.toList (code Tryz.f19) .nil (em id f19_ins v).1 (em id f19_ins v).2 (ofin 0 f19_outs) = F19 f58 v := by kernel_rfl
def C19 : T19 := F19 C58
theorem ok19 : FnOk Tryz.prog 19 (E19 C19) :=
  fn_ok (n := .nil) hm hΓ kok19 Tryz.func19 (c := code Tryz.f19) (by kernel_rfl) (name_ne (by kernel_rfl)) (ann_nil _) (fun v => Nat.le_of_ble_eq_true (by kernel_rfl)) (h19 C58)
abbrev T53 := Bool × List UInt8 × List UInt8 × Unit → Option (Bool × Unit)
def E53 (f : T53) : FEnt := ⟨f53_ins, f53_outs, f⟩
def K53 (f21 : T21) : Calls' := fun f => Ae.lookA f [(21, E21 f21)]
theorem kok53 : KOk Tryz.prog (K53 C21) := (kok_cons ok21 (kok_nil _))
def F53 (f21 : T21) : Bool × List UInt8 × List UInt8 × Unit → Option (Bool × Unit) := fun (x0, x1, x2, _) =>
  bif decide (x1.length + x2.length ≤ 9223372036854775807) then
    (f21 (x1 ++ x2, ())).bind fun val => some (decide (val.fst ≥ 0), ())
  else none
theorem h53 (f21 : T21) (v : HS f53_ins) : afun Γ (K53 f21) 0 Tryz.f53.ntmps Tryz.f53.results.toList (code Tryz.f53) .nil (em id f53_ins v).1 (em id f53_ins v).2 (ofin 0 f53_outs) = F53 f21 v := by kernel_rfl
def C53 : T53 := F53 C21
theorem ok53 : FnOk Tryz.prog 53 (E53 C53) :=
  fn_ok (n := .nil) hm hΓ kok53 Tryz.func53 (c := code Tryz.f53) (by kernel_rfl) (name_ne (by kernel_rfl)) (ann_nil _) (fun v => Nat.le_of_ble_eq_true (by kernel_rfl)) (h53 C21)
abbrev T51 := List ((Int × (Int × (Int × (Int × (Int × Int)))))) × List ((Int × (Int × (Int × Int)))) × List ((Int × (Int × Int))) × Bool × List UInt8 × List UInt8 × Bool × List UInt8 × List UInt8 × Bool × Bool × Int × Int × Bool × List UInt8 × List UInt8 × Bool × List UInt8 × List UInt8 × Bool × Bool × Int × Unit → Option (Bool × List ((Int × (Int × (Int × (Int × (Int × Int)))))) × List ((Int × (Int × (Int × Int)))) × List ((Int × (Int × Int))) × Bool × List UInt8 × List UInt8 × Bool × List UInt8 × List UInt8 × Bool × Bool × Int × Int × Bool × List UInt8 × List UInt8 × Bool × List UInt8 × List UInt8 × Bool × Bool × Int × Unit)
def E51 (f : T51) : FEnt := ⟨f51_ins, f51_outs, f⟩
def K51 (f39 : T39) : Calls' := fun f => Ae.lookA f [(39, E39 f39)]
theorem kok51 : KOk Tryz.prog (K51 C39) := (kok_cons ok39 (kok_nil _))
def F51 (f39 : T39) : List ((Int × (Int × (Int × (Int × (Int × Int)))))) × List ((Int × (Int × (Int × Int)))) × List ((Int × (Int × Int))) × Bool × List UInt8 × List UInt8 × Bool × List UInt8 × List UInt8 × Bool × Bool × Int × Int × Bool × List UInt8 × List UInt8 × Bool × List UInt8 × List UInt8 × Bool × Bool × Int × Unit → Option (Bool × List ((Int × (Int × (Int × (Int × (Int × Int)))))) × List ((Int × (Int × (Int × Int)))) × List ((Int × (Int × Int))) × Bool × List UInt8 × List UInt8 × Bool × List UInt8 × List UInt8 × Bool × Bool × Int × Int × Bool × List UInt8 × List UInt8 × Bool × List UInt8 × List UInt8 × Bool × Bool × Int × Unit) := fun (x0, x1, x2, x3, x4, x5, x6, x7, x8, x9, x10, x11, x12, x13, x14, x15, x16, x17, x18, x19, x20, x21, _) =>
  (f39 (x0, x1, x2, x3, x4, x5, ())).bind fun val =>
    (f39 (x0, x1, x2, x6, x7, x8, ())).bind fun val_1 =>
      bif val.snd.snd.snd.fst == 0 then
        some
          (val_1.snd.snd.snd.fst == 0, x0, x1, x2, x3, x4, x5, x6, x7, x8, x9, x10, x11, x12, val.fst, val.snd.fst,
            val.snd.snd.fst, val_1.fst, val_1.snd.fst, val_1.snd.snd.fst, x19, x20, x21, ())
      else
        some
          (false, x0, x1, x2, x3, x4, x5, x6, x7, x8, x9, x10, x11, x12, val.fst, val.snd.fst, val.snd.snd.fst, val_1.fst,
            val_1.snd.fst, val_1.snd.snd.fst, x19, x20, x21, ())
theorem h51 (f39 : T39) (v : HS f51_ins) : afun Γ (K51 f39) 3 Tryz.f51.ntmps Tryz.f51.results.toList (code Tryz.f51) .nil (em id f51_ins v).1 (em id f51_ins v).2 (ofin 3 f51_outs) = F51 f39 v := by kernel_rfl
def C51 : T51 := F51 C39
theorem ok51 : FnOk Tryz.prog 51 (E51 C51) :=
  fn_ok (n := .nil) hm hΓ kok51 Tryz.func51 (c := code Tryz.f51) (by kernel_rfl) (name_ne (by kernel_rfl)) (ann_nil _) (fun v => Nat.le_of_ble_eq_true (by kernel_rfl)) (h51 C39)
abbrev T17_c0 := Bool × Bool × List UInt8 × List UInt8 × Bool × List UInt8 × List UInt8 × Bool × Bool × Int × Int × Bool × List UInt8 × List UInt8 × Bool × List UInt8 × List UInt8 × Bool × Bool × Int × Int × Bool × List UInt8 × List UInt8 × Bool × List UInt8 × List UInt8 × Bool × Bool × Int × Unit → Option ((Int × Bool × List UInt8 × List UInt8 × Bool × List UInt8 × List UInt8 × Bool × Bool × Int × Unit) ⊕ (Int × Bool × List UInt8 × List UInt8 × Bool × List UInt8 × List UInt8 × Bool × Bool × Int × Int × Bool × List UInt8 × List UInt8 × Bool × List UInt8 × List UInt8 × Bool × Bool × Int × Unit))
def E17_c0 (f : T17_c0) : LEnt := ⟨f17_c0_ins, f17_c0_outs, f⟩
abbrev T17_c1 := Bool × Bool × Bool × Int × Bool × List UInt8 × List UInt8 × Bool × List UInt8 × List UInt8 × Bool × Bool × Int × Int × Bool × List UInt8 × List UInt8 × Bool × List UInt8 × List UInt8 × Bool × Bool × Int × Int × Bool × List UInt8 × List UInt8 × Bool × List UInt8 × List UInt8 × Bool × Bool × Int × List ((Int × (Int × (Int × (Int × (Int × Int)))))) × List ((Int × (Int × (Int × Int)))) × List ((Int × (Int × Int))) × Unit → Option ((Int × Bool × List UInt8 × List UInt8 × Bool × List UInt8 × List UInt8 × Bool × Bool × Int × Unit) ⊕ (Int × Bool × List UInt8 × List UInt8 × Bool × List UInt8 × List UInt8 × Bool × Bool × Int × Int × Bool × List UInt8 × List UInt8 × Bool × List UInt8 × List UInt8 × Bool × Bool × Int × Unit))
def E17_c1 (f : T17_c1) : LEnt := ⟨f17_c1_ins, f17_c1_outs, f⟩
abbrev T17_c2 := Bool × Bool × Bool × Int × Bool × List UInt8 × List UInt8 × Bool × List UInt8 × List UInt8 × Bool × Bool × Int × Int × Bool × List UInt8 × List UInt8 × Bool × List UInt8 × List UInt8 × Bool × Bool × Int × Int × Bool × List UInt8 × List UInt8 × Bool × List UInt8 × List UInt8 × Bool × Bool × Int × List ((Int × (Int × (Int × (Int × (Int × Int)))))) × List ((Int × (Int × (Int × Int)))) × List ((Int × (Int × Int))) × Unit → Option ((Int × Bool × List UInt8 × List UInt8 × Bool × List UInt8 × List UInt8 × Bool × Bool × Int × Unit) ⊕ (Int × Bool × List UInt8 × List UInt8 × Bool × List UInt8 × List UInt8 × Bool × Bool × Int × Int × Bool × List UInt8 × List UInt8 × Bool × List UInt8 × List UInt8 × Bool × Bool × Int × Unit))
def E17_c2 (f : T17_c2) : LEnt := ⟨f17_c2_ins, f17_c2_outs, f⟩
abbrev T17_c3 := List ((Int × (Int × (Int × (Int × (Int × Int)))))) × List ((Int × (Int × (Int × Int)))) × List ((Int × (Int × Int))) × Bool × Bool × Int × Bool × List UInt8 × List UInt8 × Bool × List UInt8 × List UInt8 × Bool × Bool × Int × Int × Bool × List UInt8 × List UInt8 × Bool × List UInt8 × List UInt8 × Bool × Bool × Int × Int × Bool × List UInt8 × List UInt8 × Bool × List UInt8 × List UInt8 × Bool × Bool × Int × Unit → Option (Int × Bool × List UInt8 × List UInt8 × Bool × List UInt8 × List UInt8 × Bool × Bool × Int × Unit)
def E17_c3 (f : T17_c3) : LEnt := ⟨f17_c3_ins, f17_c3_outs, f⟩
abbrev T17 := List ((Int × (Int × (Int × (Int × (Int × Int)))))) × List ((Int × (Int × (Int × Int)))) × List ((Int × (Int × Int))) × Bool × Bool × Int × Bool × List UInt8 × List UInt8 × Bool × List UInt8 × List UInt8 × Bool × Bool × Int × Unit → Option (Int × Bool × List UInt8 × List UInt8 × Bool × List UInt8 × List UInt8 × Bool × Bool × Int × Unit)
def E17 (f : T17) : FEnt := ⟨f17_ins, f17_outs, f⟩
def K17 (f19 : T19) (f50 : T50) (f51 : T51) (f52 : T52) (f53 : T53) : Calls' := fun f => Ae.lookA f [(19, E19 f19), (50, E50 f50), (51, E51 f51), (52, E52 f52), (53, E53 f53)]
theorem kok17 : KOk Tryz.prog (K17 C19 C50 C51 C52 C53) := (kok_cons ok19 (kok_cons ok50 (kok_cons ok51 (kok_cons ok52 (kok_cons ok53 (kok_nil _))))))
def F17_c0 (f19 : T19) (f50 : T50) (f51 : T51) (f52 : T52) (f53 : T53) : Bool × Bool × List UInt8 × List UInt8 × Bool × List UInt8 × List UInt8 × Bool × Bool × Int × Int × Bool × List UInt8 × List UInt8 × Bool × List UInt8 × List UInt8 × Bool × Bool × Int × Int × Bool × List UInt8 × List UInt8 × Bool × List UInt8 × List UInt8 × Bool × Bool × Int × Unit → Option ((Int × Bool × List UInt8 × List UInt8 × Bool × List UInt8 × List UInt8 × Bool × Bool × Int × Unit) ⊕ (Int × Bool × List UInt8 × List UInt8 × Bool × List UInt8 × List UInt8 × Bool × Bool × Int × Int × Bool × List UInt8 × List UInt8 × Bool × List UInt8 × List UInt8 × Bool × Bool × Int × Unit)) := fun (x0, x1, x2, x3, x4, x5, x6, x7, x8, x9, x10, x11, x12, x13, x14, x15, x16, x17, x18, x19, x20, x21, x22, x23, x24, x25, x26, x27, x28, x29, _) =>
  bif x0 then
    (f52 (567, ())).bind fun val =>
      some
        (Sum.inl
          (val.fst, val.snd.fst, val.snd.snd.fst, val.snd.snd.snd.fst, val.snd.snd.snd.snd.fst,
            val.snd.snd.snd.snd.snd.fst, val.snd.snd.snd.snd.snd.snd.fst, val.snd.snd.snd.snd.snd.snd.snd.fst,
            val.snd.snd.snd.snd.snd.snd.snd.snd.fst, val.snd.snd.snd.snd.snd.snd.snd.snd.snd.fst, ()))
  else
    bif !(x21 == x1 && (x22 == x2 && (x23 == x3 && true) && true)) then
      some
        (Sum.inr
          (x10, x11, x12, x13, x14, x15, x16, x17, x18, x19, 1, x21, x22, x23, x24, x25, x26, x27, x28, x29, ()))
    else
      bif !(x24 == x4 && (x25 == x5 && (x26 == x6 && true) && true)) then
        some
          (Sum.inr
            (x10, x11, x12, x13, x14, x15, x16, x17, x18, x19, 1, x21, x22, x23, x24, x25, x26, x27, x28, x29,
              ()))
      else
        some
          (Sum.inr
            (x10, x11, x12, x13, x14, x15, x16, x17, x18, x19, x20, x21, x22, x23, x24, x25, x26, x27, x28, x29,
              ()))
theorem h17_c0 (f19 : T19) (f50 : T50) (f51 : T51) (f52 : T52) (f53 : T53) (v : HS f17_c0_ins) : aev Γ (K17 f19 f50 f51 f52 f53) 0 (subc (code Tryz.f17) [1, 1, 1, 0, 0, 1, 1, 1, 1, 1, 1, 1]) .nil (stof f17_c0_ins v) (oout 0 f17_c0_outs) = F17_c0 f19 f50 f51 f52 f53 v := by kernel_rfl
def C17_c0 : T17_c0 := F17_c0 C19 C50 C51 C52 C53
theorem k17_c0 : FragOk Tryz.prog 0 (fun Q a w => (subc (code Tryz.f17) [1, 1, 1, 0, 0, 1, 1, 1, 1, 1, 1, 1]).wp Tryz.prog Q a w) (E17_c0 C17_c0) :=
  frag_code (ins := f17_c0_ins) (os := f17_c0_outs) (n := .nil) (F := C17_c0) hm hΓ kok17 (ann_nil _) (h17_c0 C19 C50 C51 C52 C53)
def N17_c1 (f17_c0 : T17_c0) : Ann := (.cond .nil (.seq .nil (.cond .nil (.cut .nil (E17_c0 f17_c0)))))
def F17_c1 (f19 : T19) (f50 : T50) (f51 : T51) (f52 : T52) (f53 : T53) (f17_c0 : T17_c0) : Bool × Bool × Bool × Int × Bool × List UInt8 × List UInt8 × Bool × List UInt8 × List UInt8 × Bool × Bool × Int × Int × Bool × List UInt8 × List UInt8 × Bool × List UInt8 × List UInt8 × Bool × Bool × Int × Int × Bool × List UInt8 × List UInt8 × Bool × List UInt8 × List UInt8 × Bool × Bool × Int × List ((Int × (Int × (Int × (Int × (Int × Int)))))) × List ((Int × (Int × (Int × Int)))) × List ((Int × (Int × Int))) × Unit → Option ((Int × Bool × List UInt8 × List UInt8 × Bool × List UInt8 × List UInt8 × Bool × Bool × Int × Unit) ⊕ (Int × Bool × List UInt8 × List UInt8 × Bool × List UInt8 × List UInt8 × Bool × Bool × Int × Int × Bool × List UInt8 × List UInt8 × Bool × List UInt8 × List UInt8 × Bool × Bool × Int × Unit)) := fun (x0, x1, x2, x3, x4, x5, x6, x7, x8, x9, x10, x11, x12, x13, x14, x15, x16, x17, x18, x19, x20, x21, x22, x23, x24, x25, x26, x27, x28, x29, x30, x31, x32, x33, x34, x35, _) =>
  bif x0 then
    (f52 (563, ())).bind fun val =>
      some
        (Sum.inl
          (val.fst, val.snd.fst, val.snd.snd.fst, val.snd.snd.snd.fst, val.snd.snd.snd.snd.fst,
            val.snd.snd.snd.snd.snd.fst, val.snd.snd.snd.snd.snd.snd.fst, val.snd.snd.snd.snd.snd.snd.snd.fst,
            val.snd.snd.snd.snd.snd.snd.snd.snd.fst, val.snd.snd.snd.snd.snd.snd.snd.snd.snd.fst, ()))
  else
    bif x1 then
      (f19 (x4, x5, x6, x7, x8, x9, x10, x11, x12, ())).bind fun val =>
        bif val.fst then some (Sum.inl (x23, x24, x25, x26, x27, x28, x29, true, x31, x32, ()))
        else
          (f53 (x4, x5, x6, ())).bind fun val =>
            bif val.fst then some (Sum.inl (x23, x24, x25, x26, x27, x28, x29, true, x31, x32, ()))
            else
              (f53 (x7, x8, x9, ())).bind fun val =>
                some (Sum.inl (x23, x24, x25, x26, x27, x28, x29, val.fst, x31, x32, ()))
    else
      (f19 (x4, x5, x6, x7, x8, x9, x10, x11, x12, ())).bind fun val =>
        bif val.fst then
          (f17_c0
                (true, x4, x5, x6, x7, x8, x9, x10, x11, x12, x13, x14, x15, x16, x17, x18, x19, x20, x21, x22, x23, x24,
                  x25, x26, x27, x28, x29, x30, x31, x32, ())).bind
            fun val =>
            Sum.elim
              (fun val =>
                some
                  (Sum.inl
                    (val.fst, val.snd.fst, val.snd.snd.fst, val.snd.snd.snd.fst, val.snd.snd.snd.snd.fst,
                      val.snd.snd.snd.snd.snd.fst, val.snd.snd.snd.snd.snd.snd.fst, val.snd.snd.snd.snd.snd.snd.snd.fst,
                      val.snd.snd.snd.snd.snd.snd.snd.snd.fst, val.snd.snd.snd.snd.snd.snd.snd.snd.snd.fst, ())))
              (fun val =>
                some
                  (Sum.inr
                    (val.fst, val.snd.fst, val.snd.snd.fst, val.snd.snd.snd.fst, val.snd.snd.snd.snd.fst,
                      val.snd.snd.snd.snd.snd.fst, val.snd.snd.snd.snd.snd.snd.fst, val.snd.snd.snd.snd.snd.snd.snd.fst,
                      val.snd.snd.snd.snd.snd.snd.snd.snd.fst, val.snd.snd.snd.snd.snd.snd.snd.snd.snd.fst,
                      val.snd.snd.snd.snd.snd.snd.snd.snd.snd.snd.fst,
                      val.snd.snd.snd.snd.snd.snd.snd.snd.snd.snd.snd.fst,
                      val.snd.snd.snd.snd.snd.snd.snd.snd.snd.snd.snd.snd.fst,
                      val.snd.snd.snd.snd.snd.snd.snd.snd.snd.snd.snd.snd.snd.fst,
                      val.snd.snd.snd.snd.snd.snd.snd.snd.snd.snd.snd.snd.snd.snd.fst,
                      val.snd.snd.snd.snd.snd.snd.snd.snd.snd.snd.snd.snd.snd.snd.snd.fst,
                      val.snd.snd.snd.snd.snd.snd.snd.snd.snd.snd.snd.snd.snd.snd.snd.snd.fst,
                      val.snd.snd.snd.snd.snd.snd.snd.snd.snd.snd.snd.snd.snd.snd.snd.snd.snd.fst,
                      val.snd.snd.snd.snd.snd.snd.snd.snd.snd.snd.snd.snd.snd.snd.snd.snd.snd.snd.fst,
                      val.snd.snd.snd.snd.snd.snd.snd.snd.snd.snd.snd.snd.snd.snd.snd.snd.snd.snd.snd.fst, ())))
              val
        else
          (f51
                (x33, x34, x35, x4, x5, x6, x7, x8, x9, x10, x11, x12, x23, x24, x25, x26, x27, x28, x29, x30, x31, x32,
                  ())).bind
            fun val =>
            (f17_c0
                  (!val.fst, val.snd.snd.snd.snd.fst, val.snd.snd.snd.snd.snd.fst, val.snd.snd.snd.snd.snd.snd.fst,
                    val.snd.snd.snd.snd.snd.snd.snd.fst, val.snd.snd.snd.snd.snd.snd.snd.snd.fst,
                    val.snd.snd.snd.snd.snd.snd.snd.snd.snd.fst, val.snd.snd.snd.snd.snd.snd.snd.snd.snd.snd.fst,
                    val.snd.snd.snd.snd.snd.snd.snd.snd.snd.snd.snd.fst,
                    val.snd.snd.snd.snd.snd.snd.snd.snd.snd.snd.snd.snd.fst, x13, x14, x15, x16, x17, x18, x19, x20, x21,
                    x22, val.snd.snd.snd.snd.snd.snd.snd.snd.snd.snd.snd.snd.snd.fst,
                    val.snd.snd.snd.snd.snd.snd.snd.snd.snd.snd.snd.snd.snd.snd.fst,
                    val.snd.snd.snd.snd.snd.snd.snd.snd.snd.snd.snd.snd.snd.snd.snd.fst,
                    val.snd.snd.snd.snd.snd.snd.snd.snd.snd.snd.snd.snd.snd.snd.snd.snd.fst,
                    val.snd.snd.snd.snd.snd.snd.snd.snd.snd.snd.snd.snd.snd.snd.snd.snd.snd.fst,
                    val.snd.snd.snd.snd.snd.snd.snd.snd.snd.snd.snd.snd.snd.snd.snd.snd.snd.snd.fst,
                    val.snd.snd.snd.snd.snd.snd.snd.snd.snd.snd.snd.snd.snd.snd.snd.snd.snd.snd.snd.fst,
                    val.snd.snd.snd.snd.snd.snd.snd.snd.snd.snd.snd.snd.snd.snd.snd.snd.snd.snd.snd.snd.fst,
                    val.snd.snd.snd.snd.snd.snd.snd.snd.snd.snd.snd.snd.snd.snd.snd.snd.snd.snd.snd.snd.snd.fst,
                    val.snd.snd.snd.snd.snd.snd.snd.snd.snd.snd.snd.snd.snd.snd.snd.snd.snd.snd.snd.snd.snd.snd.fst,
                    ())).bind
              fun val =>
              Sum.elim
                (fun val =>
                  some
                    (Sum.inl
                      (val.fst, val.snd.fst, val.snd.snd.fst, val.snd.snd.snd.fst, val.snd.snd.snd.snd.fst,
                        val.snd.snd.snd.snd.snd.fst, val.snd.snd.snd.snd.snd.snd.fst, val.snd.snd.snd.snd.snd.snd.snd.fst,
                        val.snd.snd.snd.snd.snd.snd.snd.snd.fst, val.snd.snd.snd.snd.snd.snd.snd.snd.snd.fst,
                        ())))
                (fun val =>
                  some
                    (Sum.inr
                      (val.fst, val.snd.fst, val.snd.snd.fst, val.snd.snd.snd.fst, val.snd.snd.snd.snd.fst,
                        val.snd.snd.snd.snd.snd.fst, val.snd.snd.snd.snd.snd.snd.fst, val.snd.snd.snd.snd.snd.snd.snd.fst,
                        val.snd.snd.snd.snd.snd.snd.snd.snd.fst, val.snd.snd.snd.snd.snd.snd.snd.snd.snd.fst,
                        val.snd.snd.snd.snd.snd.snd.snd.snd.snd.snd.fst,
                        val.snd.snd.snd.snd.snd.snd.snd.snd.snd.snd.snd.fst,
                        val.snd.snd.snd.snd.snd.snd.snd.snd.snd.snd.snd.snd.fst,
                        val.snd.snd.snd.snd.snd.snd.snd.snd.snd.snd.snd.snd.snd.fst,
                        val.snd.snd.snd.snd.snd.snd.snd.snd.snd.snd.snd.snd.snd.snd.fst,
                        val.snd.snd.snd.snd.snd.snd.snd.snd.snd.snd.snd.snd.snd.snd.snd.fst,
                        val.snd.snd.snd.snd.snd.snd.snd.snd.snd.snd.snd.snd.snd.snd.snd.snd.fst,
                        val.snd.snd.snd.snd.snd.snd.snd.snd.snd.snd.snd.snd.snd.snd.snd.snd.snd.fst,
                        val.snd.snd.snd.snd.snd.snd.snd.snd.snd.snd.snd.snd.snd.snd.snd.snd.snd.snd.fst,
                        val.snd.snd.snd.snd.snd.snd.snd.snd.snd.snd.snd.snd.snd.snd.snd.snd.snd.snd.snd.fst, ())))
                val
theorem h17_c1 (f19 : T19) (f50 : T50) (f51 : T51) (f52 : T52) (f53 : T53) (f17_c0 : T17_c0) (v : HS f17_c1_ins) : aev Γ (K17 f19 f50 f51 f52 f53) 0 (subc (code Tryz.f17) [1, 1, 1, 0, 0, 1, 1, 1]) (N17_c1 f17_c0) (stof f17_c1_ins v) (oout 0 f17_c1_outs) = F17_c1 f19 f50 f51 f52 f53 f17_c0 v := by kernel_rfl
def C17_c1 : T17_c1 := F17_c1 C19 C50 C51 C52 C53 C17_c0
theorem k17_c1 : FragOk Tryz.prog 0 (fun Q a w => (subc (code Tryz.f17) [1, 1, 1, 0, 0, 1, 1, 1]).wp Tryz.prog Q a w) (E17_c1 C17_c1) :=
  frag_code (ins := f17_c1_ins) (os := f17_c1_outs) (n := (N17_c1 C17_c0)) (F := C17_c1) hm hΓ kok17 (ann_obs (And.intro k17_c0 trivial) (by kernel_rfl)) (h17_c1 C19 C50 C51 C52 C53 C17_c0)
def N17_c2 (f17_c1 : T17_c1) : Ann := (.cond .nil (.cut .nil (E17_c1 f17_c1)))
def F17_c2 (f19 : T19) (f50 : T50) (f51 : T51) (f52 : T52) (f53 : T53) (f17_c1 : T17_c1) : Bool × Bool × Bool × Int × Bool × List UInt8 × List UInt8 × Bool × List UInt8 × List UInt8 × Bool × Bool × Int × Int × Bool × List UInt8 × List UInt8 × Bool × List UInt8 × List UInt8 × Bool × Bool × Int × Int × Bool × List UInt8 × List UInt8 × Bool × List UInt8 × List UInt8 × Bool × Bool × Int × List ((Int × (Int × (Int × (Int × (Int × Int)))))) × List ((Int × (Int × (Int × Int)))) × List ((Int × (Int × Int))) × Unit → Option ((Int × Bool × List UInt8 × List UInt8 × Bool × List UInt8 × List UInt8 × Bool × Bool × Int × Unit) ⊕ (Int × Bool × List UInt8 × List UInt8 × Bool × List UInt8 × List UInt8 × Bool × Bool × Int × Int × Bool × List UInt8 × List UInt8 × Bool × List UInt8 × List UInt8 × Bool × Bool × Int × Unit)) := fun (x0, x1, x2, x3, x4, x5, x6, x7, x8, x9, x10, x11, x12, x13, x14, x15, x16, x17, x18, x19, x20, x21, x22, x23, x24, x25, x26, x27, x28, x29, x30, x31, x32, x33, x34, x35, _) =>
  bif x0 then
    (f52 (534, ())).bind fun val =>
      some
        (Sum.inl
          (val.fst, val.snd.fst, val.snd.snd.fst, val.snd.snd.snd.fst, val.snd.snd.snd.snd.fst,
            val.snd.snd.snd.snd.snd.fst, val.snd.snd.snd.snd.snd.snd.fst, val.snd.snd.snd.snd.snd.snd.snd.fst,
            val.snd.snd.snd.snd.snd.snd.snd.snd.fst, val.snd.snd.snd.snd.snd.snd.snd.snd.snd.fst, ()))
  else
    bif x11 then
      (f50 (x1, x2, x3, true, ())).bind fun val =>
        (f17_c1
              (!val.fst, x1, x2, x3, x4, x5, x6, x7, x8, x9, x10, x11, x12, x13, x14, x15, x16, x17, x18, x19, x20, x21,
                x22, x23, x24, x25, x26, x27, x28, x29, x30, x31, x32, x33, x34, x35, ())).bind
          fun val =>
          Sum.elim
            (fun val =>
              some
                (Sum.inl
                  (val.fst, val.snd.fst, val.snd.snd.fst, val.snd.snd.snd.fst, val.snd.snd.snd.snd.fst,
                    val.snd.snd.snd.snd.snd.fst, val.snd.snd.snd.snd.snd.snd.fst, val.snd.snd.snd.snd.snd.snd.snd.fst,
                    val.snd.snd.snd.snd.snd.snd.snd.snd.fst, val.snd.snd.snd.snd.snd.snd.snd.snd.snd.fst, ())))
            (fun val =>
              some
                (Sum.inr
                  (val.fst, val.snd.fst, val.snd.snd.fst, val.snd.snd.snd.fst, val.snd.snd.snd.snd.fst,
                    val.snd.snd.snd.snd.snd.fst, val.snd.snd.snd.snd.snd.snd.fst, val.snd.snd.snd.snd.snd.snd.snd.fst,
                    val.snd.snd.snd.snd.snd.snd.snd.snd.fst, val.snd.snd.snd.snd.snd.snd.snd.snd.snd.fst,
                    val.snd.snd.snd.snd.snd.snd.snd.snd.snd.snd.fst, val.snd.snd.snd.snd.snd.snd.snd.snd.snd.snd.snd.fst,
                    val.snd.snd.snd.snd.snd.snd.snd.snd.snd.snd.snd.snd.fst,
                    val.snd.snd.snd.snd.snd.snd.snd.snd.snd.snd.snd.snd.snd.fst,
                    val.snd.snd.snd.snd.snd.snd.snd.snd.snd.snd.snd.snd.snd.snd.fst,
                    val.snd.snd.snd.snd.snd.snd.snd.snd.snd.snd.snd.snd.snd.snd.snd.fst,
                    val.snd.snd.snd.snd.snd.snd.snd.snd.snd.snd.snd.snd.snd.snd.snd.snd.fst,
                    val.snd.snd.snd.snd.snd.snd.snd.snd.snd.snd.snd.snd.snd.snd.snd.snd.snd.fst,
                    val.snd.snd.snd.snd.snd.snd.snd.snd.snd.snd.snd.snd.snd.snd.snd.snd.snd.snd.fst,
                    val.snd.snd.snd.snd.snd.snd.snd.snd.snd.snd.snd.snd.snd.snd.snd.snd.snd.snd.snd.fst, ())))
            val
    else
      (f17_c1
            (false, x1, x2, x3, x4, x5, x6, x7, x8, x9, x10, x11, x12, x13, x14, x15, x16, x17, x18, x19, x20, x21, x22,
              x23, x24, x25, x26, x27, x28, x29, x30, x31, x32, x33, x34, x35, ())).bind
        fun val =>
        Sum.elim
          (fun val =>
            some
              (Sum.inl
                (val.fst, val.snd.fst, val.snd.snd.fst, val.snd.snd.snd.fst, val.snd.snd.snd.snd.fst,
                  val.snd.snd.snd.snd.snd.fst, val.snd.snd.snd.snd.snd.snd.fst, val.snd.snd.snd.snd.snd.snd.snd.fst,
                  val.snd.snd.snd.snd.snd.snd.snd.snd.fst, val.snd.snd.snd.snd.snd.snd.snd.snd.snd.fst, ())))
          (fun val =>
            some
              (Sum.inr
                (val.fst, val.snd.fst, val.snd.snd.fst, val.snd.snd.snd.fst, val.snd.snd.snd.snd.fst,
                  val.snd.snd.snd.snd.snd.fst, val.snd.snd.snd.snd.snd.snd.fst, val.snd.snd.snd.snd.snd.snd.snd.fst,
                  val.snd.snd.snd.snd.snd.snd.snd.snd.fst, val.snd.snd.snd.snd.snd.snd.snd.snd.snd.fst,
                  val.snd.snd.snd.snd.snd.snd.snd.snd.snd.snd.fst, val.snd.snd.snd.snd.snd.snd.snd.snd.snd.snd.snd.fst,
                  val.snd.snd.snd.snd.snd.snd.snd.snd.snd.snd.snd.snd.fst,
                  val.snd.snd.snd.snd.snd.snd.snd.snd.snd.snd.snd.snd.snd.fst,
                  val.snd.snd.snd.snd.snd.snd.snd.snd.snd.snd.snd.snd.snd.snd.fst,
                  val.snd.snd.snd.snd.snd.snd.snd.snd.snd.snd.snd.snd.snd.snd.snd.fst,
                  val.snd.snd.snd.snd.snd.snd.snd.snd.snd.snd.snd.snd.snd.snd.snd.snd.fst,
                  val.snd.snd.snd.snd.snd.snd.snd.snd.snd.snd.snd.snd.snd.snd.snd.snd.snd.fst,
                  val.snd.snd.snd.snd.snd.snd.snd.snd.snd.snd.snd.snd.snd.snd.snd.snd.snd.snd.fst,
                  val.snd.snd.snd.snd.snd.snd.snd.snd.snd.snd.snd.snd.snd.snd.snd.snd.snd.snd.snd.fst, ())))
          val
theorem h17_c2 (f19 : T19) (f50 : T50) (f51 : T51) (f52 : T52) (f53 : T53) (f17_c1 : T17_c1) (v : HS f17_c2_ins) : aev Γ (K17 f19 f50 f51 f52 f53) 0 (subc (code Tryz.f17) [1, 1, 1, 0, 0, 1]) (N17_c2 f17_c1) (stof f17_c2_ins v) (oout 0 f17_c2_outs) = F17_c2 f19 f50 f51 f52 f53 f17_c1 v := by kernel_rfl
def C17_c2 : T17_c2 := F17_c2 C19 C50 C51 C52 C53 C17_c1
theorem k17_c2 : FragOk Tryz.prog 0 (fun Q a w => (subc (code Tryz.f17) [1, 1, 1, 0, 0, 1]).wp Tryz.prog Q a w) (E17_c2 C17_c2) :=
  frag_code (ins := f17_c2_ins) (os := f17_c2_outs) (n := (N17_c2 C17_c1)) (F := C17_c2) hm hΓ kok17 (ann_obs (And.intro k17_c1 trivial) (by kernel_rfl)) (h17_c2 C19 C50 C51 C52 C53 C17_c1)
def N17_c3 (f17_c2 : T17_c2) : Ann := (.seq .nil (.seq (.blk (.cut .nil (E17_c2 f17_c2))) .nil))
def F17_c3 (f19 : T19) (f50 : T50) (f51 : T51) (f52 : T52) (f53 : T53) (f17_c2 : T17_c2) : List ((Int × (Int × (Int × (Int × (Int × Int)))))) × List ((Int × (Int × (Int × Int)))) × List ((Int × (Int × Int))) × Bool × Bool × Int × Bool × List UInt8 × List UInt8 × Bool × List UInt8 × List UInt8 × Bool × Bool × Int × Int × Bool × List UInt8 × List UInt8 × Bool × List UInt8 × List UInt8 × Bool × Bool × Int × Int × Bool × List UInt8 × List UInt8 × Bool × List UInt8 × List UInt8 × Bool × Bool × Int × Unit → Option (Int × Bool × List UInt8 × List UInt8 × Bool × List UInt8 × List UInt8 × Bool × Bool × Int × Unit) := fun (x0, x1, x2, x3, x4, x5, x6, x7, x8, x9, x10, x11, x12, x13, x14, x15, x16, x17, x18, x19, x20, x21, x22, x23, x24, x25, x26, x27, x28, x29, x30, x31, x32, x33, x34, _) =>
  bif decide (x5 > 0) then
    (f17_c2
          (decide (x14 > x5), x3, x4, x5, x6, x7, x8, x9, x10, x11, x12, x13, x14, x15, x16, x17, x18, x19, x20, x21, x22,
            x23, x24, x25, x26, x27, x28, x29, x30, x31, x32, x33, x34, x0, x1, x2, ())).bind
      fun val =>
      Sum.elim
        (fun val =>
          some
            (val.fst, val.snd.fst, val.snd.snd.fst, val.snd.snd.snd.fst, val.snd.snd.snd.snd.fst,
              val.snd.snd.snd.snd.snd.fst, val.snd.snd.snd.snd.snd.snd.fst, val.snd.snd.snd.snd.snd.snd.snd.fst,
              val.snd.snd.snd.snd.snd.snd.snd.snd.fst, val.snd.snd.snd.snd.snd.snd.snd.snd.snd.fst, ()))
        (fun val =>
          some
            (val.snd.snd.snd.snd.snd.snd.snd.snd.snd.snd.fst, val.snd.snd.snd.snd.snd.snd.snd.snd.snd.snd.snd.fst,
              val.snd.snd.snd.snd.snd.snd.snd.snd.snd.snd.snd.snd.fst,
              val.snd.snd.snd.snd.snd.snd.snd.snd.snd.snd.snd.snd.snd.fst,
              val.snd.snd.snd.snd.snd.snd.snd.snd.snd.snd.snd.snd.snd.snd.fst,
              val.snd.snd.snd.snd.snd.snd.snd.snd.snd.snd.snd.snd.snd.snd.snd.fst,
              val.snd.snd.snd.snd.snd.snd.snd.snd.snd.snd.snd.snd.snd.snd.snd.snd.fst,
              val.snd.snd.snd.snd.snd.snd.snd.snd.snd.snd.snd.snd.snd.snd.snd.snd.snd.fst,
              val.snd.snd.snd.snd.snd.snd.snd.snd.snd.snd.snd.snd.snd.snd.snd.snd.snd.snd.fst,
              val.snd.snd.snd.snd.snd.snd.snd.snd.snd.snd.snd.snd.snd.snd.snd.snd.snd.snd.snd.fst, ()))
        val
  else
    (f17_c2
          (false, x3, x4, x5, x6, x7, x8, x9, x10, x11, x12, x13, x14, x15, x16, x17, x18, x19, x20, x21, x22, x23, x24,
            x25, x26, x27, x28, x29, x30, x31, x32, x33, x34, x0, x1, x2, ())).bind
      fun val =>
      Sum.elim
        (fun val =>
          some
            (val.fst, val.snd.fst, val.snd.snd.fst, val.snd.snd.snd.fst, val.snd.snd.snd.snd.fst,
              val.snd.snd.snd.snd.snd.fst, val.snd.snd.snd.snd.snd.snd.fst, val.snd.snd.snd.snd.snd.snd.snd.fst,
              val.snd.snd.snd.snd.snd.snd.snd.snd.fst, val.snd.snd.snd.snd.snd.snd.snd.snd.snd.fst, ()))
        (fun val =>
          some
            (val.snd.snd.snd.snd.snd.snd.snd.snd.snd.snd.fst, val.snd.snd.snd.snd.snd.snd.snd.snd.snd.snd.snd.fst,
              val.snd.snd.snd.snd.snd.snd.snd.snd.snd.snd.snd.snd.fst,
              val.snd.snd.snd.snd.snd.snd.snd.snd.snd.snd.snd.snd.snd.fst,
              val.snd.snd.snd.snd.snd.snd.snd.snd.snd.snd.snd.snd.snd.snd.fst,
              val.snd.snd.snd.snd.snd.snd.snd.snd.snd.snd.snd.snd.snd.snd.snd.fst,
              val.snd.snd.snd.snd.snd.snd.snd.snd.snd.snd.snd.snd.snd.snd.snd.snd.fst,
              val.snd.snd.snd.snd.snd.snd.snd.snd.snd.snd.snd.snd.snd.snd.snd.snd.snd.fst,
              val.snd.snd.snd.snd.snd.snd.snd.snd.snd.snd.snd.snd.snd.snd.snd.snd.snd.snd.fst,
              val.snd.snd.snd.snd.snd.snd.snd.snd.snd.snd.snd.snd.snd.snd.snd.snd.snd.snd.snd.fst, ()))
        val
theorem h17_c3 (f19 : T19) (f50 : T50) (f51 : T51) (f52 : T52) (f53 : T53) (f17_c2 : T17_c2) (v : HS f17_c3_ins) : aev Γ (K17 f19 f50 f51 f52 f53) 0 (subc (code Tryz.f17) [1, 1]) (N17_c3 f17_c2) (stof f17_c3_ins v) (oout 0 f17_c3_outs) = F17_c3 f19 f50 f51 f52 f53 f17_c2 v := by kernel_rfl
def C17_c3 : T17_c3 := F17_c3 C19 C50 C51 C52 C53 C17_c2
theorem k17_c3 : FragOk Tryz.prog 0 (fun Q a w => (subc (code Tryz.f17) [1, 1]).wp Tryz.prog Q a w) (E17_c3 C17_c3) :=
  frag_code (ins := f17_c3_ins) (os := f17_c3_outs) (n := (N17_c3 C17_c2)) (F := C17_c3) hm hΓ kok17 (ann_obs (And.intro k17_c2 trivial) (by kernel_rfl)) (h17_c3 C19 C50 C51 C52 C53 C17_c2)
def N17 (f17_c3 : T17_c3) : Ann := (.seq .nil (.cut .nil (E17_c3 f17_c3)))
def F17 (f19 : T19) (f50 : T50) (f51 : T51) (f52 : T52) (f53 : T53) (f17_c3 : T17_c3) : List ((Int × (Int × (Int × (Int × (Int × Int)))))) × List ((Int × (Int × (Int × Int)))) × List ((Int × (Int × Int))) × Bool × Bool × Int × Bool × List UInt8 × List UInt8 × Bool × List UInt8 × List UInt8 × Bool × Bool × Int × Unit → Option (Int × Bool × List UInt8 × List UInt8 × Bool × List UInt8 × List UInt8 × Bool × Bool × Int × Unit) := fun (x0, x1, x2, x3, x4, x5, x6, x7, x8, x9, x10, x11, x12, x13, x14, _) =>
  bif x13 then
    (f17_c3
          (x0, x1, x2, x3, x4, x5, x6, x7, x8, x9, x10, x11, x12, x13, x14, 0, false, [], [], false, [], [], false, false,
            0, 0, x6, x7, x8, x9, x10, x11, false, x4, 0, ())).bind
      fun val =>
      some
        (val.fst, val.snd.fst, val.snd.snd.fst, val.snd.snd.snd.fst, val.snd.snd.snd.snd.fst, val.snd.snd.snd.snd.snd.fst,
          val.snd.snd.snd.snd.snd.snd.fst, val.snd.snd.snd.snd.snd.snd.snd.fst, val.snd.snd.snd.snd.snd.snd.snd.snd.fst,
          val.snd.snd.snd.snd.snd.snd.snd.snd.snd.fst, ())
  else
    (f17_c3
          (x0, x1, x2, x3, x4, x5, x6, x7, x8, x9, x10, x11, x12, x13, x14, 0, false, [], [], false, [], [], false, false,
            0, 0, x6, x7, x8, x9, x10, x11, false, false, 0, ())).bind
      fun val =>
      some
        (val.fst, val.snd.fst, val.snd.snd.fst, val.snd.snd.snd.fst, val.snd.snd.snd.snd.fst, val.snd.snd.snd.snd.snd.fst,
          val.snd.snd.snd.snd.snd.snd.fst, val.snd.snd.snd.snd.snd.snd.snd.fst, val.snd.snd.snd.snd.snd.snd.snd.snd.fst,
          val.snd.snd.snd.snd.snd.snd.snd.snd.snd.fst, ())
theorem h17 (f19 : T19) (f50 : T50) (f51 : T51) (f52 : T52) (f53 : T53) (f17_c3 : T17_c3) (v : HS f17_ins) : afun Γ (K17 f19 f50 f51 f52 f53) 0 Tryz.f17.ntmps Tryz.f17.results.toList (code Tryz.f17) (N17 f17_c3) (em id f17_ins v).1 (em id f17_ins v).2 (ofin 0 f17_outs) = F17 f19 f50 f51 f52 f53 f17_c3 v := by kernel_rfl
def C17 : T17 := F17 C19 C50 C51 C52 C53 C17_c3
theorem ok17 : FnOk Tryz.prog 17 (E17 C17) :=
  fn_ok (n := (N17 C17_c3)) hm hΓ kok17 Tryz.func17 (c := code Tryz.f17) (by kernel_rfl) (name_ne (by kernel_rfl)) (ann_obs (And.intro k17_c3 trivial) (by kernel_rfl)) (fun v => Nat.le_of_ble_eq_true (by kernel_rfl)) (h17 C19 C50 C51 C52 C53 C17_c3)
abbrev T15 := Unit → Option (Bool × Unit)
def E15 (f : T15) : FEnt := ⟨f15_ins, f15_outs, f⟩
def K15 (f17 : T17) (f18 : T18) (f19 : T19) (f48 : T48) (f49 : T49) (f50 : T50) : Calls' := fun f => Ae.lookA f [(17, E17 f17), (18, E18 f18), (19, E19 f19), (48, E48 f48), (49, E49 f49), (50, E50 f50)]
theorem kok15 : KOk Tryz.prog (K15 C17 C18 C19 C48 C49 C50) := (kok_cons ok17 (kok_cons ok18 (kok_cons ok19 (kok_cons ok48 (kok_cons ok49 (kok_cons ok50 (kok_nil _)))))))
def C15 : T15 := fun _ => some (true, ())
theorem h15 : afun Γ (K15 C17 C18 C19 C48 C49 C50) 0 Tryz.f15.ntmps Tryz.f15.results.toList (code Tryz.f15) .nil (em id f15_ins ()).1 (em id f15_ins ()).2 (ofin 0 f15_outs) = some (true, ()) := by kernel_rfl
theorem ok15 : FnOk Tryz.prog 15 (E15 C15) :=
  fn_ok (n := .nil) hm hΓ kok15 Tryz.func15 (c := code Tryz.f15) (by kernel_rfl) (name_ne (by kernel_rfl)) (ann_nil _) (fun v => Nat.le_of_ble_eq_true (by kernel_rfl)) (fun v => h15)
abbrev T16 := Bool × List UInt8 × List UInt8 × Bool × List UInt8 × List UInt8 × Bool × Bool × Int × Unit → Option (Bool × Unit)
def E16 (f : T16) : FEnt := ⟨f16_ins, f16_outs, f⟩
def K16 (f38 : T38) : Calls' := fun f => Ae.lookA f [(38, E38 f38)]
theorem kok16 : KOk Tryz.prog (K16 C38) := (kok_cons ok38 (kok_nil _))
def F16 (f38 : T38) : Bool × List UInt8 × List UInt8 × Bool × List UInt8 × List UInt8 × Bool × Bool × Int × Unit → Option (Bool × Unit) := fun (x0, x1, x2, x3, x4, x5, x6, x7, x8, _) =>
  (f38 (x1, x2, ())).bind fun val =>
    (f38 (x4, x5, ())).bind fun val_1 => bif val.fst then some (val_1.fst, ()) else some (false, ())
theorem h16 (f38 : T38) (v : HS f16_ins) : afun Γ (K16 f38) 0 Tryz.f16.ntmps Tryz.f16.results.toList (code Tryz.f16) .nil (em id f16_ins v).1 (em id f16_ins v).2 (ofin 0 f16_outs) = F16 f38 v := by kernel_rfl
def C16 : T16 := F16 C38
theorem ok16 : FnOk Tryz.prog 16 (E16 C16) :=
  fn_ok (n := .nil) hm hΓ kok16 Tryz.func16 (c := code Tryz.f16) (by kernel_rfl) (name_ne (by kernel_rfl)) (ann_nil _) (fun v => Nat.le_of_ble_eq_true (by kernel_rfl)) (h16 C38)
abbrev T3 := Bool × List UInt8 × List UInt8 × Bool × List UInt8 × List UInt8 × Bool × Bool × Int × Bool × Int × Unit → Option (Bool × Unit)
def E3 (f : T3) : FEnt := ⟨f3_ins, f3_outs, f⟩
def K3 (f15 : T15) (f16 : T16) (f17 : T17) (f18 : T18) (f19 : T19) : Calls' := fun f => Ae.lookA f [(15, E15 f15), (16, E16 f16), (17, E17 f17), (18, E18 f18), (19, E19 f19)]
theorem kok3 : KOk Tryz.prog (K3 C15 C16 C17 C18 C19) := (kok_cons ok15 (kok_cons ok16 (kok_cons ok17 (kok_cons ok18 (kok_cons ok19 (kok_nil _))))))
def F3 (f15 : T15) (f16 : T16) (f17 : T17) (f18 : T18) (f19 : T19) : Bool × List UInt8 × List UInt8 × Bool × List UInt8 × List UInt8 × Bool × Bool × Int × Bool × Int × Unit → Option (Bool × Unit) := fun (x0, x1, x2, x3, x4, x5, x6, x7, x8, x9, x10, _) =>
  (f15 ()).bind fun val =>
    (f16 (x0, x1, x2, x3, x4, x5, x6, x7, x8, ())).bind fun val_1 =>
      bif !val_1.fst then some (val.fst, ())
      else
        bif decide (x10 > 0) then
          bif decide (x10 < x8) then some (val.fst, ())
          else
            (f18 ()).bind fun val_2 =>
              (f17
                    (val_2.fst, val_2.snd.fst, val_2.snd.snd.fst, true, x9, x10, x0, x1, x2, x3, x4, x5, x6, x7, x8,
                      ())).bind
                fun val_3 =>
                bif val.fst then
                  bif val_3.fst == 0 then
                    bif
                        val_3.snd.fst == x0 &&
                          (val_3.snd.snd.fst == x1 && (val_3.snd.snd.snd.fst == x2 && true) && true) then
                      bif
                          val_3.snd.snd.snd.snd.fst == x3 &&
                            (val_3.snd.snd.snd.snd.snd.fst == x4 && (val_3.snd.snd.snd.snd.snd.snd.fst == x5 && true) &&
                              true) then
                        bif x9 then
                          bif val_3.snd.snd.snd.snd.snd.snd.snd.snd.fst == x7 then
                            (f19 (x0, x1, x2, x3, x4, x5, x6, x7, x8, ())).bind fun val =>
                              bif !val.fst then some (true, ())
                              else some (val_3.snd.snd.snd.snd.snd.snd.snd.fst, ())
                          else some (false, ())
                        else
                          bif val_3.snd.snd.snd.snd.snd.snd.snd.snd.fst == false then
                            (f19 (x0, x1, x2, x3, x4, x5, x6, x7, x8, ())).bind fun val =>
                              bif !val.fst then some (true, ())
                              else some (val_3.snd.snd.snd.snd.snd.snd.snd.fst, ())
                          else some (false, ())
                      else some (false, ())
                    else some (false, ())
                  else some (false, ())
                else some (false, ())
        else
          (f18 ()).bind fun val_2 =>
            (f17
                  (val_2.fst, val_2.snd.fst, val_2.snd.snd.fst, true, x9, x10, x0, x1, x2, x3, x4, x5, x6, x7, x8,
                    ())).bind
              fun val_3 =>
              bif val.fst then
                bif val_3.fst == 0 then
                  bif
                      val_3.snd.fst == x0 &&
                        (val_3.snd.snd.fst == x1 && (val_3.snd.snd.snd.fst == x2 && true) && true) then
                    bif
                        val_3.snd.snd.snd.snd.fst == x3 &&
                          (val_3.snd.snd.snd.snd.snd.fst == x4 && (val_3.snd.snd.snd.snd.snd.snd.fst == x5 && true) &&
                            true) then
                      bif x9 then
                        bif val_3.snd.snd.snd.snd.snd.snd.snd.snd.fst == x7 then
                          (f19 (x0, x1, x2, x3, x4, x5, x6, x7, x8, ())).bind fun val =>
                            bif !val.fst then some (true, ())
                            else some (val_3.snd.snd.snd.snd.snd.snd.snd.fst, ())
                        else some (false, ())
                      else
                        bif val_3.snd.snd.snd.snd.snd.snd.snd.snd.fst == false then
                          (f19 (x0, x1, x2, x3, x4, x5, x6, x7, x8, ())).bind fun val =>
                            bif !val.fst then some (true, ())
                            else some (val_3.snd.snd.snd.snd.snd.snd.snd.fst, ())
                        else some (false, ())
                    else some (false, ())
                  else some (false, ())
                else some (false, ())
              else some (false, ())
theorem h3 (f15 : T15) (f16 : T16) (f17 : T17) (f18 : T18) (f19 : T19) (v : HS f3_ins) : afun Γ (K3 f15 f16 f17 f18 f19) 0 Tryz.f3.ntmps Tryz.f3.results.toList (code Tryz.f3) .nil (em id f3_ins v).1 (em id f3_ins v).2 (ofin 0 f3_outs) = F3 f15 f16 f17 f18 f19 v := by kernel_rfl
def C3 : T3 := F3 C15 C16 C17 C18 C19
theorem ok3 : FnOk Tryz.prog 3 (E3 C3) :=
  fn_ok (n := .nil) hm hΓ kok3 Tryz.func3 (c := code Tryz.f3) (by kernel_rfl) (name_ne (by kernel_rfl)) (ann_nil _) (fun v => Nat.le_of_ble_eq_true (by kernel_rfl)) (h3 C15 C16 C17 C18 C19)
end Go.Proofs.YtiacnhhmkdkpmaaGreatDoorA.W
set_option linter.unusedVariables false
set_option linter.unusedSimpArgs false
namespace Go.Proofs.YtiacnhhmkdkpmaaGreatDoorA.W
open Go Go.Ae
theorem wr {n : Int} (h1 : -9223372036854775808 ≤ n) (h2 : n ≤ 9223372036854775807) : IntKind.i64.wrap n = n := by rw [IntKind.wrap_i64]; omega
theorem wrN (n : Nat) (h : n ≤ 9223372036854775806) : IntKind.i64.wrap ((n : Int) + 1) = ((n + 1 : Nat) : Int) := by rw [wr] <;> omega
theorem of_to (b : UInt8) : UInt8.ofNat b.toNat = b := by simp
theorem byte_back (b : UInt8) : UInt8.ofNat ((b.toNat : Int)).toNat = b := by simp
theorem getD_lt {α : Type} {l : List α} {i : Nat} {d : α} (h : i < l.length) : l.getD i d = l[i] := by simp [List.getD_eq_getElem?_getD, List.getElem?_eq_getElem h]
def esc1 (c : UInt8) : List UInt8 := if c.toNat = 34 ∨ c.toNat = 92 then [92, c] else [c]
def esc (s : List UInt8) : List UInt8 := s.flatMap esc1
theorem esc1_len (c : UInt8) : (esc1 c).length ≤ 2 := by unfold esc1; split <;> simp
theorem esc_len : ∀ s : List UInt8, (esc s).length ≤ 2 * s.length
  | [] => by simp [esc]
  | c :: s => by have := esc_len s; have := esc1_len c; simp [esc] at *; omega
theorem esc_append (s t : List UInt8) : esc (s ++ t) = esc s ++ esc t := by simp [esc]
theorem take_succ_get {α : Type} {s : List α} {k : Nat} (h : k < s.length) : s.take (k + 1) = s.take k ++ [s[k]] := by
  rw [List.take_add_one, List.getElem?_eq_getElem h]; rfl
theorem esc_take {s : List UInt8} {k : Nat} (h : k < s.length) : esc (s.take (k + 1)) = esc (s.take k) ++ esc1 s[k] := by
  rw [take_succ_get h, esc_append]; simp [esc]
theorem ibT {a b : Int} (h : a = b) : (a == b) = true := by simp [h]
theorem ibF {a b : Int} (h : a ≠ b) : (a == b) = false := by simp [h]
theorem inT {a b : Int} (h : a ≠ b) : (a != b) = true := by simp [h]
theorem inF {a b : Int} (h : a = b) : (a != b) = false := by simp [h]
theorem esc1_q {c : UInt8} (h : c.toNat = 34) : esc1 c = [92] ++ [c] := by simp [esc1, h]
theorem esc1_b {c : UInt8} (h : c.toNat = 92) : esc1 c = [92] ++ [c] := by simp [esc1, h]
theorem esc1_n {c : UInt8} (h : ¬ c.toNat = 34) (h2 : ¬ c.toNat = 92) : esc1 c = [c] := by simp [esc1, h, h2]
theorem r14 (s : List UInt8) (k : Nat) (acc : List UInt8) (h : k < s.length) (hb : s.length ≤ 9223372036854775806) (ha : acc.length + 2 ≤ 140737488355328) :
    F126_l0 (s, (s.length : Int), (k : Int), acc, ()) = some (.inl (s, (s.length : Int), ((k + 1 : Nat) : Int), acc ++ esc1 s[k], ())) := by
  by_cases e1 : s[k].toNat = 34
  · simp (disch := omega) only [F126_l0, decide_eq_true, cond_true, Bool.and_self, List.length_append, List.length_cons, List.length_nil, getD_lt, byte_back, wrN, Int.toNat_natCast, ibT, esc1_q, List.append_assoc, of_to]
  · by_cases e2 : s[k].toNat = 92
    · simp (disch := omega) only [F126_l0, decide_eq_true, cond_true, cond_false, Bool.and_self, List.length_append, List.length_cons, List.length_nil, getD_lt, byte_back, wrN, Int.toNat_natCast, ibT, ibF, esc1_b, List.append_assoc, of_to]
    · simp (disch := omega) only [F126_l0, decide_eq_true, cond_true, cond_false, Bool.and_self, List.length_append, List.length_cons, List.length_nil, getD_lt, byte_back, wrN, Int.toNat_natCast, ibT, ibF, esc1_n, List.append_assoc, of_to]
theorem c14 (s : List UInt8) (hb : s.length ≤ 70368744177663) : C126 (s, ()) = some (esc s, ()) := by
  have key : ∀ (k : Nat) (n : Nat), k ≤ s.length → s.length - k < n → loopN F126_l0 n (s, (s.length : Int), (k : Int), esc (s.take k), ()) = some (esc s, ()) := by
    intro k n
    induction n generalizing k with
    | zero => intro _ h; omega
    | succ n ih =>
      intro hk hn
      by_cases h : k < s.length
      · have hl := esc_len (s.take k)
        rw [loopN_inl (r14 s k _ h (by omega) (by simp only [List.length_take] at hl; omega)), ← esc_take h]
        exact ih (k + 1) (by omega) (by omega)
      · have : k = s.length := by omega
        subst this
        refine loopN_inr ?_
        simp [F126_l0]
  have := key 0 big (by omega) (by unfold big; omega)
  simp only [List.take_zero] at this
  show F126 C126_l0 (s, ()) = _
  simp only [F126, C126_l0]
  rw [show loopN F126_l0 big (s, (s.length : Int), 0, [], ()) = some (esc s, ()) from this]
  rfl
def src (k : Int) (s : List UInt8) : List UInt8 := if k = 1 then [34] ++ esc s ++ [34] else if k = 3 then [40] ++ s ++ [41] else if k = 5 then [91] ++ s ++ [93] else s
theorem c9 (k : Int) (s : List UInt8) (a : Int) (hb : s.length ≤ 3000) : C89 (k, s, a, ()) = some (src k s, ()) := by
  have hl := esc_len s
  show F89 C126 (k, s, a, ()) = _
  by_cases e1 : k = 1
  · simp (disch := omega) only [F89, c14, ibT, cond_true, decide_eq_true, List.length_append, List.length_cons, List.length_nil, Option.bind_some, src, if_pos]
  · by_cases e3 : k = 3
    · simp (disch := omega) only [F89, ibT, ibF, cond_true, cond_false, decide_eq_true, List.length_append, List.length_cons, List.length_nil, Option.bind_some, src, if_pos, if_neg]
    · by_cases e5 : k = 5
      · simp (disch := omega) only [F89, ibT, ibF, cond_true, cond_false, decide_eq_true, List.length_append, List.length_cons, List.length_nil, Option.bind_some, src, if_pos, if_neg]
      · simp (disch := omega) only [F89, ibT, ibF, cond_true, cond_false, src, if_neg]
end Go.Proofs.YtiacnhhmkdkpmaaGreatDoorA.W
set_option linter.unusedVariables false
set_option linter.unusedSimpArgs false
set_option maxRecDepth 100000
namespace Go.Proofs.YtiacnhhmkdkpmaaGreatDoorA.W
open Go Go.Ae
def Df {α : Type} (x : Option α) (Q : α → Prop) : Prop := ∃ y, x = some y ∧ Q y
section
variable {α β γ : Type} {Q : α → Prop}
theorem Df.pure {y : α} (h : Q y) : Df (some y) Q := ⟨y, rfl, h⟩
theorem Df.no (h : False) : Df (none : Option α) Q := h.elim
theorem Df.bind {x : Option β} {f : β → Option α} {P : β → Prop} (h : Df x P) (hf : ∀ a, P a → Df (f a) Q) : Df (x.bind f) Q := by
  obtain ⟨a, rfl, ha⟩ := h
  exact hf a ha
theorem Df.mono {x : Option α} {P : α → Prop} (h : Df x P) (hf : ∀ a, P a → Q a) : Df x Q := by
  obtain ⟨a, e, ha⟩ := h
  exact ⟨a, e, hf a ha⟩
theorem Df.and {x : Option α} {P P' : α → Prop} (h : Df x P) (h' : Df x P') : Df x fun y => P y ∧ P' y := by
  obtain ⟨a, e, ha⟩ := h
  obtain ⟨b, e', hb⟩ := h'
  rw [e] at e'
  cases e'
  exact ⟨a, e, ha, hb⟩
theorem Df.cB {b : Bool} {x y : Option α} (h1 : b = true → Df x Q) (h2 : b = false → Df y Q) : Df (bif b then x else y) Q := by
  cases b
  · exact h2 rfl
  · exact h1 rfl
theorem Df.cN {b : Bool} {x y : Option α} (h1 : b = false → Df x Q) (h2 : b = true → Df y Q) : Df (bif !b then x else y) Q := by
  cases b
  · exact h1 rfl
  · exact h2 rfl
theorem Df.cD {p : Prop} {dp : Decidable p} {x y : Option α} (h1 : p → Df x Q) (h2 : ¬ p → Df y Q) : Df (bif decide p then x else y) Q := by
  by_cases h : p
  · rw [decide_eq_true h]; exact h1 h
  · rw [decide_eq_false h]; exact h2 h
theorem Df.cDN {p : Prop} {dp : Decidable p} {x y : Option α} (h1 : ¬ p → Df x Q) (h2 : p → Df y Q) : Df (bif !decide p then x else y) Q := by
  by_cases h : p
  · rw [decide_eq_true h]; exact h2 h
  · rw [decide_eq_false h]; exact h1 h
theorem Df.cA {p q : Prop} {dp : Decidable p} {dq : Decidable q} {x y : Option α} (h1 : p ∧ q → Df x Q) (h2 : ¬ (p ∧ q) → Df y Q) : Df (bif decide p && decide q then x else y) Q := by
  by_cases h : p ∧ q
  · rw [decide_eq_true h.1, decide_eq_true h.2]; exact h1 h
  · have e : (decide p && decide q) = false := by
      by_cases hp : p
      · by_cases hq : q
        · exact (h ⟨hp, hq⟩).elim
        · simp [hq]
      · simp [hp]
    rw [e]; exact h2 h
theorem Df.cE {a b : Int} {x y : Option α} (h1 : a = b → Df x Q) (h2 : a ≠ b → Df y Q) : Df (bif a == b then x else y) Q := by
  by_cases h : a = b
  · rw [ibT h]; exact h1 h
  · rw [ibF h]; exact h2 h
theorem Df.cNe {a b : Int} {x y : Option α} (h1 : a ≠ b → Df x Q) (h2 : a = b → Df y Q) : Df (bif a != b then x else y) Q := by
  by_cases h : a = b
  · rw [inF h]; exact h2 h
  · rw [inT h]; exact h1 h
theorem Df.sum {f : β → Option α} {g : γ → Option α} {s : β ⊕ γ} {P : β → Prop} {P' : γ → Prop} (hs : Sum.elim P P' s) (h1 : ∀ a, P a → Df (f a) Q) (h2 : ∀ b, P' b → Df (g b) Q) : Df (Sum.elim f g s) Q := by
  cases s with
  | inl a => exact h1 a hs
  | inr b => exact h2 b hs
theorem Df.loop {F : β → Option (β ⊕ α)} (I : β → Prop) (μ : β → Nat) (h : ∀ v, I v → Df (F v) (Sum.elim (fun v' => I v' ∧ μ v' < μ v) Q)) (n : Nat) (v : β) (hv : I v) (hn : μ v < n) : Df (loopN F n v) Q := by
  refine loopN_of I Q μ (fun v hv => ?_) n v hv hn
  obtain ⟨y, e, hy⟩ := h v hv
  cases y with
  | inl v' => exact .inl ⟨v', e, hy.1, hy.2⟩
  | inr y => exact .inr ⟨y, e, hy⟩
theorem Df.lp {F : β → Option (β ⊕ α)} (I : β → Prop) (μ : β → Nat) (h : ∀ v, I v → Df (F v) (Sum.elim (fun v' => I v' ∧ μ v' < μ v) Q)) (v : β) (hv : I v) (hn : μ v < 1000000000000000000) : Df (loopN F big v) Q :=
  Df.loop I μ h big v hv (by unfold big; omega)
end
theorem w64' (n : Int) : IntKind.i64.wrap n = (n + 9223372036854775808) % 18446744073709551616 - 9223372036854775808 := by rw [IntKind.wrap_i64]
theorem w64s {n : Int} (h : -9000000000000000000 ≤ n ∧ n ≤ 9000000000000000000) : IntKind.i64.wrap n = n := by rw [w64']; omega
end Go.Proofs.YtiacnhhmkdkpmaaGreatDoorA.W
set_option linter.unusedVariables false
set_option linter.unusedSimpArgs false
set_option maxRecDepth 100000
namespace Go.Proofs.YtiacnhhmkdkpmaaGreatDoorA.W
open Go Go.Ae
theorem d21 (s : List UInt8) (hb : s.length ≤ 1000000000000000) : Df (C21 (s, ())) (fun y => y.1 < s.length ∧ (y.1 < 0 → ∀ c ∈ s, c.toNat < 128)) := by
  show Df (F21 C21_l0 _) _
  unfold F21
  dsimp only
  refine Df.bind (P := Sum.elim (fun y => ∀ c ∈ s, c.toNat < 128) (fun y => 0 ≤ y.1 ∧ y.1 < s.length)) ?_ ?_
  · refine Df.lp ?I ?m ?h _ ?hv ?hn
    case I => exact (fun v => v.1 = s ∧ v.2.1 = s.length ∧ 0 ≤ v.2.2.1 ∧ v.2.2.1 ≤ s.length ∧ ∀ c ∈ s.take v.2.2.1.toNat, c.toNat < 128)
    case m => exact (fun v => (s.length - v.2.2.1).toNat)
    case hv => exact ⟨rfl, rfl, by first | omega | (first | omega | (dsimp only; omega)), by first | omega | (first | omega | (dsimp only; omega)), by simp⟩
    case hn => exact (by first | omega | (first | omega | (dsimp only; omega)))
    rintro ⟨x0, x1, x2, u⟩ hI
    dsimp only at hI
    obtain ⟨rfl, rfl, h0, h1, h2⟩ := hI
    unfold F21_l0
    dsimp only
    repeat' (first | with_reducible apply Df.pure | (with_reducible apply Df.cA <;> intro _) | (with_reducible apply Df.cD <;> intro _) | (with_reducible apply Df.cDN <;> intro _) | (with_reducible apply Df.cNe <;> intro _) | (with_reducible apply Df.cE <;> intro _) | (with_reducible apply Df.cN <;> intro _) | (with_reducible apply Df.cB <;> intro _))
    · exact ⟨by first | omega | (first | omega | (dsimp only; omega)), by first | omega | (first | omega | (dsimp only; omega))⟩
    · rename_i h3 h4 h5
      rw [w64s (n := x2 + 1) (by omega)]
      have hlt : x2.toNat < x0.length := by omega
      refine ⟨⟨rfl, rfl, by first | omega | (first | omega | (dsimp only; omega)), by first | omega | (first | omega | (dsimp only; omega)), ?_⟩, by first | omega | (first | omega | (dsimp only; omega))⟩
      dsimp only
      intro c hc
      rw [show (x2 + 1).toNat = x2.toNat + 1 by omega, take_succ_get hlt] at hc
      rcases List.mem_append.1 hc with hc | hc
      · exact h2 c hc
      · rw [List.mem_singleton] at hc
        rw [getD_lt hlt] at h5
        subst hc; omega
    · refine Df.no ?_; omega
    · intro c hc
      refine h2 c ?_
      rw [List.take_of_length_le (by omega)]; exact hc
  · intro r hr
    refine Df.sum hr ?_ ?_
    · intro u hu; exact Df.pure ⟨by first | omega | (first | omega | (dsimp only; omega)), fun _ => hu⟩
    · rintro ⟨a, u⟩ ha; exact Df.pure ⟨ha.2, fun h => by have := ha.1; dsimp only at h this; omega⟩
end Go.Proofs.YtiacnhhmkdkpmaaGreatDoorA.W
set_option linter.unusedVariables false
set_option linter.unusedSimpArgs false
set_option maxRecDepth 100000
namespace Go.Proofs.YtiacnhhmkdkpmaaGreatDoorA.W
open Go Go.Ae
theorem tab18 : (C18 ()).isSome = true := by kernel_rfl
theorem c131o (a b : List UInt8) : Df (C131 (a, b, ())) (fun _ => True) := by
  show Df (F131 _) _
  unfold F131
  dsimp only
  refine Df.cD (fun h => ?_) (fun _ => Df.pure trivial)
  refine Df.cA (fun _ => Df.pure trivial) (fun h2 => Df.no ?_)
  omega
theorem c58o (n : Bool) (a b : List UInt8) (ha : a.length ≤ 1000) (hb : b.length ≤ 1000) : Df (C58 (n, a, b, ())) (fun _ => True) := by
  show Df (F58 C21 C96 _) _
  unfold F58
  dsimp only
  refine Df.bind (d21 a (by omega)) ?_
  rintro ⟨x, u⟩ -
  dsimp only
  refine Df.cD (fun _ => Df.pure trivial) (fun _ => ?_)
  refine Df.bind (P := fun _ => True) ?_ ?_
  · show Df (F96 C131 _) _
    unfold F96
    dsimp only
    exact Df.bind (c131o _ _) fun _ _ => Df.pure trivial
  rintro ⟨y, u⟩ -
  dsimp only
  refine Df.cB (fun _ => ?_) (fun _ => Df.pure trivial)
  exact Df.bind (d21 b (by omega)) fun _ _ => Df.pure trivial
theorem c19o (x0 : Bool) (x1 x2 : List UInt8) (x3 : Bool) (x4 x5 : List UInt8) (x6 x7 : Bool) (x8 : Int) (h1 : x1.length ≤ 1000) (h2 : x2.length ≤ 1000) (h4 : x4.length ≤ 1000) (h5 : x5.length ≤ 1000) : ∃ n, C19 (x0, x1, x2, x3, x4, x5, x6, x7, x8, ()) = some (n, ()) := by
  have h : Df (C19 (x0, x1, x2, x3, x4, x5, x6, x7, x8, ())) (fun _ => True) := by
    show Df (F19 C58 _) _
    unfold F19
    dsimp only
    refine Df.cB (fun _ => Df.pure trivial) (fun _ => ?_)
    refine Df.bind (c58o _ _ _ h1 h2) ?_
    rintro ⟨y, u⟩ -
    dsimp only
    refine Df.cB (fun _ => Df.pure trivial) (fun _ => ?_)
    exact Df.bind (c58o _ _ _ h4 h5) fun _ _ => Df.pure trivial
  obtain ⟨⟨n, u⟩, e, -⟩ := h
  exact ⟨n, e⟩
theorem c53o (x0 : Bool) (x1 x2 : List UInt8) (h1 : x1.length ≤ 1000) (h2 : x2.length ≤ 1000) : ∃ n, C53 (x0, x1, x2, ()) = some (n, ()) := by
  have h : Df (C53 (x0, x1, x2, ())) (fun _ => True) := by
    show Df (F53 C21 _) _
    unfold F53
    dsimp only
    refine Df.cD (fun _ => ?_) (fun h => Df.no ?_)
    · exact Df.bind (d21 _ (by rw [List.length_append]; omega)) fun _ _ => Df.pure trivial
    · omega
  obtain ⟨⟨n, u⟩, e, -⟩ := h
  exact ⟨n, e⟩
theorem c38o (a b : List UInt8) : ∃ f, C38 (a, b, ()) = some (f, ()) ∧ (f = true → a.length ≤ 1000 ∧ b.length ≤ 1000) := by
  show ∃ f, F38 (a, b, ()) = some (f, ()) ∧ _
  simp only [F38]
  by_cases h : (a.length : Int) ≤ 150
  · rw [decide_eq_true h]
    exact ⟨_, rfl, fun hf => by simp only [decide_eq_true_eq] at hf; omega⟩
  · rw [decide_eq_false h]
    exact ⟨false, rfl, fun hf => by cases hf⟩
theorem c17 (T A B) (e : Bool) (sz : Int) (x0 : Bool) (x1 x2 : List UInt8) (x3 : Bool) (x4 x5 : List UInt8) (x6 x7 : Bool) (x8 : Int) (n wa wb : Bool) (hs : ¬ (sz > 0 ∧ sz < x8)) (h19 : C19 (x0, x1, x2, x3, x4, x5, x6, x7, x8, ()) = some (n, ())) (ha : C53 (x0, x1, x2, ()) = some (wa, ())) (hb : C53 (x3, x4, x5, ()) = some (wb, ())) :
    ∃ f st, C17 (T, A, B, true, e, sz, x0, x1, x2, x3, x4, x5, x6, x7, x8, ()) = some (0, x0, x1, x2, x3, x4, x5, f, bif x7 then e else false, st, ()) ∧ (n = true → f = true) := by
  have hc : ∀ (E : Bool), ∃ f, C17_c1 (false, true, e, sz, x0, x1, x2, x3, x4, x5, x6, x7, x8, 0, false, [], [], false, [], [], false, false, 0, 0, x0, x1, x2, x3, x4, x5, false, E, 0, T, A, B, ()) = some (.inl (0, x0, x1, x2, x3, x4, x5, f, E, 0, ())) ∧ (n = true → f = true) := by
    intro E
    show ∃ f, F17_c1 C19 C50 C51 C52 C53 C17_c0 _ = _ ∧ _
    simp only [F17_c1, cond_false, cond_true, h19, Option.bind_some, ha, hb]
    cases n with
    | true => exact ⟨true, rfl, fun _ => rfl⟩
    | false =>
      cases wa with
      | true => exact ⟨true, rfl, fun h => by cases h⟩
      | false => exact ⟨wb, rfl, fun h => by cases h⟩
  have hc2 : ∀ (E : Bool), ∃ f, C17_c2 (false, true, e, sz, x0, x1, x2, x3, x4, x5, x6, x7, x8, 0, false, [], [], false, [], [], false, false, 0, 0, x0, x1, x2, x3, x4, x5, false, E, 0, T, A, B, ()) = some (.inl (0, x0, x1, x2, x3, x4, x5, f, E, 0, ())) ∧ (n = true → f = true) := by
    intro E
    obtain ⟨f, h1, h2⟩ := hc E
    refine ⟨f, ?_, h2⟩
    have h50 : C50 (true, e, sz, true, ()) = some (true, ()) := rfl
    show F17_c2 C19 C50 C51 C52 C53 C17_c1 _ = _
    simp only [F17_c2, cond_false]
    cases x7 with
    | true => simp only [cond_true, h50, Option.bind_some, Bool.not_true, h1, Sum.elim_inl]
    | false => simp only [cond_false, h1, Option.bind_some, Sum.elim_inl]
  have hc3 : ∀ (E : Bool), ∃ f, C17_c3 (T, A, B, true, e, sz, x0, x1, x2, x3, x4, x5, x6, x7, x8, 0, false, [], [], false, [], [], false, false, 0, 0, x0, x1, x2, x3, x4, x5, false, E, 0, ()) = some (0, x0, x1, x2, x3, x4, x5, f, E, 0, ()) ∧ (n = true → f = true) := by
    intro E
    obtain ⟨f, h1, h2⟩ := hc2 E
    refine ⟨f, ?_, h2⟩
    show F17_c3 C19 C50 C51 C52 C53 C17_c2 _ = _
    simp only [F17_c3]
    by_cases h : sz > 0
    · rw [decide_eq_true h, decide_eq_false (show ¬ x8 > sz by omega)]
      simp only [cond_true, h1, Option.bind_some, Sum.elim_inl]
    · rw [decide_eq_false h]
      simp only [cond_false, h1, Option.bind_some, Sum.elim_inl]
  cases x7 with
  | true =>
    obtain ⟨f, h1, h2⟩ := hc3 e
    refine ⟨f, 0, ?_, h2⟩
    show F17 C19 C50 C51 C52 C53 C17_c3 _ = _
    simp only [F17, cond_true, h1, Option.bind_some]
  | false =>
    obtain ⟨f, h1, h2⟩ := hc3 false
    refine ⟨f, 0, ?_, h2⟩
    show F17 C19 C50 C51 C52 C53 C17_c3 _ = _
    simp only [F17, cond_false, h1, Option.bind_some]
theorem c3 (x0 : Bool) (x1 x2 : List UInt8) (x3 : Bool) (x4 x5 : List UInt8) (x6 x7 : Bool) (x8 : Int) (x9 : Bool) (x10 : Int) : C3 (x0, x1, x2, x3, x4, x5, x6, x7, x8, x9, x10, ()) = some (true, ()) := by
  show F3 C15 C16 C17 C18 C19 _ = _
  have h15 : C15 () = some (true, ()) := rfl
  obtain ⟨fa, hfa, ba⟩ := c38o x1 x2
  obtain ⟨fb, hfb, bb⟩ := c38o x4 x5
  have h16 : C16 (x0, x1, x2, x3, x4, x5, x6, x7, x8, ()) = some (fa && fb, ()) := by
    show F16 C38 _ = _
    simp only [F16, hfa, hfb, Option.bind_some]
    cases fa <;> rfl
  simp only [F3, h15, Option.bind_some, h16]
  cases hff : (fa && fb) with
  | false => rfl
  | true =>
    obtain ⟨rfl, rfl⟩ : fa = true ∧ fb = true := by simpa using hff
    obtain ⟨l1, l2⟩ := ba rfl
    obtain ⟨l4, l5⟩ := bb rfl
    obtain ⟨n, h19⟩ := c19o x0 x1 x2 x3 x4 x5 x6 x7 x8 l1 l2 l4 l5
    obtain ⟨wa, ha⟩ := c53o x0 x1 x2 l1 l2
    obtain ⟨wb, hb⟩ := c53o x3 x4 x5 l4 l5
    obtain ⟨⟨T, A, B, u⟩, h18⟩ := Option.isSome_iff_exists.1 tab18
    have fin : ¬ (x10 > 0 ∧ x10 < x8) → ((C18 ()).bind fun val_2 => (C17 (val_2.fst, val_2.snd.fst, val_2.snd.snd.fst, true, x9, x10, x0, x1, x2, x3, x4, x5, x6, x7, x8, ())).bind fun val_3 =>
        bif val_3.fst == 0 then bif val_3.snd.fst == x0 && (val_3.snd.snd.fst == x1 && (val_3.snd.snd.snd.fst == x2 && true) && true) then bif val_3.snd.snd.snd.snd.fst == x3 && (val_3.snd.snd.snd.snd.snd.fst == x4 && (val_3.snd.snd.snd.snd.snd.snd.fst == x5 && true) && true) then
          bif x9 then bif val_3.snd.snd.snd.snd.snd.snd.snd.snd.fst == x7 then (C19 (x0, x1, x2, x3, x4, x5, x6, x7, x8, ())).bind fun val => bif !val.fst then some (true, ()) else some (val_3.snd.snd.snd.snd.snd.snd.snd.fst, ()) else some (false, ())
          else bif val_3.snd.snd.snd.snd.snd.snd.snd.snd.fst == false then (C19 (x0, x1, x2, x3, x4, x5, x6, x7, x8, ())).bind fun val => bif !val.fst then some (true, ()) else some (val_3.snd.snd.snd.snd.snd.snd.snd.fst, ()) else some (false, ())
          else some (false, ()) else some (false, ()) else some (false, ())) = some (true, ()) := by
      intro hs
      obtain ⟨f, st, e, hf⟩ := c17 T A B x9 x10 x0 x1 x2 x3 x4 x5 x6 x7 x8 n wa wb hs h19 ha hb
      simp only [h18, Option.bind_some, e, h19, beq_self_eq_true, Bool.and_self, Bool.and_true, cond_true]
      cases x9 <;> cases x7 <;> cases n <;> first | rfl | (rw [hf rfl]; rfl)
    simp only [Bool.not_true, cond_false, cond_true]
    by_cases h1 : x10 > 0
    · rw [decide_eq_true h1]
      by_cases h2 : x10 < x8
      · rw [decide_eq_true h2]; rfl
      · rw [decide_eq_false h2]
        exact fin (fun h => h2 h.2)
    · rw [decide_eq_false h1]
      exact fin (fun h => h1 h.1)
end Go.Proofs.YtiacnhhmkdkpmaaGreatDoorA.W
namespace Go.Proofs.YtiacnhhmkdkpmaaGreatDoorA.PCapsUtf8
open Go Go.Ae Go.Proofs.YtiacnhhmkdkpmaaGreatDoorA.W
theorem pure (x0 : (Ty.pair (.pair .bool (.pair .str .str)) (.pair (.pair .bool (.pair .str .str)) (.pair .bool (.pair .bool (.int .i64))))).den) (b0 : Bd (Ty.pair (.pair .bool (.pair .str .str)) (.pair (.pair .bool (.pair .str .str)) (.pair .bool (.pair .bool (.int .i64))))) x0) (x1 : Ty.bool.den) (b1 : Bd Ty.bool x1) (x2 : (Ty.int .i64).den) (b2 : Bd (Ty.int .i64) x2) :
    C3 (x0.1.1, x0.1.2.1, x0.1.2.2, x0.2.1.1, x0.2.1.2.1, x0.2.1.2.2, x0.2.2.1, x0.2.2.2.1, x0.2.2.2.2, x1, x2, ()) = some (true, ()) := c3 _ _ _ _ _ _ _ _ _ _ _
end Go.Proofs.YtiacnhhmkdkpmaaGreatDoorA.PCapsUtf8
set_option linter.unusedVariables false
set_option maxRecDepth 100000
namespace Go.Proofs.YtiacnhhmkdkpmaaGreatDoor
open Go Go.Ae Go.RowKit
theorem glob {W : World} {p : Prop} (hL : p) (hsh : W.ShapedOpen Tryz.prog) : GI W m0 := by
  obtain ⟨m, hm⟩ := Go.Proofs.cell_of_shapedOpen_int (g := 2) (k := .i64) (t := 3) (zero := #[.int .i64 0]) hsh (of_decide_eq_true (by kernel_rfl)) (by kernel_rfl) (by kernel_rfl) (by kernel_rfl) (by kernel_rfl) (by kernel_rfl)
  refine ⟨⟨m, hm⟩, fun b hb => ⟨?_, fun h => h⟩⟩
  simp only [GlobB, List.mem_cons, List.not_mem_nil, or_false] at hb
  subst hb
  exact lt_of_cell hm
end Go.Proofs.YtiacnhhmkdkpmaaGreatDoor
