/- Contracts of functions that the statement TopMeets reaches, and plain lemmas. No condition. -/
import Derived.Test.YtmngaagojkihbaaGreatY27
import Derived.Test.YtmngaagojkihbaaGreatY02
import Derived.ChangeArms
import Derived.WideShapes
import Derived.ProofKit
namespace Go.Proofs.YtmngaagojkihbaaGreat.FTop
open Go.Proofs.YtmngaagojkihbaaGreatW.PrintWords Go.Proofs.YtmngaagojkihbaaGreatW.PrintLast Go.Proofs.YtmngaagojkihbaaGreatW.PrintMore
set_option linter.unusedVariables false
set_option linter.unusedSimpArgs false
structure PI0 (f : S85) (g : Nat → Bool) (s : S80) (now : Nat) : Prop where
 i : partI s
 srp : Srp s.f0 s.f3
 fit : FitA s.f0 f
 rel : ∀ j ∈ s.f3, j.f1 < (now : Int)
 las : ∀ x ∈ s.f2, x < (now : Int)
 str : ∀ d : Int, (∀ j ∈ s.f3, d < j.f2) ∨ ∃ t0 : Nat, t0 ≤ now ∧ ∃ b n, Str s.f0 s.f2 s.f3 d t0 b n (cnt g t0 now)
 log : ∀ en ∈ s.f4, en.f1 ≠ 6
structure PI1 (f : S85) (g : Nat → Bool) (s : S80) (now : Nat) : Prop where
 i : partI s
 srp : Srp s.f0 s.f3
 fit : FitA s.f0 f
 rel : ∀ j ∈ s.f3, j.f1 ≤ (now : Int)
 las : ∀ x ∈ s.f2, x ≤ (now : Int)
 str : ∀ d : Int, ∃ t0 : Nat, t0 ≤ now ∧ ∃ b n, Str s.f0 s.f2 s.f3 d t0 b n (cnt g t0 now)
 log : ∀ en ∈ s.f4, en.f1 ≠ 6
theorem part_jobs {s : S80} (h : partI s) : jobA s.f0 s.f3 = true ∧ s.f1.length = s.f0.length ∧ s.f2.length = s.f0.length ∧ (∀ n ∈ s.f2, -1 ≤ n) := by
 have h1 := h.1
 unfold partR at h1
 simp only [Bool.and_eq_true, decide_eq_true_eq] at h1
 obtain ⟨⟨⟨h1, h2⟩, h3⟩, h4⟩ := h1
 obtain ⟨-, e, hl⟩ := polR_iff.1 h2
 exact ⟨h3, h1, e, fun n hn => (hl n hn).1⟩
theorem pi01 {f : S85} {g : Nat → Bool} {s : S80} {now : Nat} (h : PI0 f g s now) : PI1 f g s now := by
 refine ⟨h.i, h.srp, h.fit, fun j hj => by have := h.rel j hj; omega, fun x hx => by have := h.las x hx; omega, fun d => ?_, h.log⟩
 rcases h.str d with hn | hs
 ·exact ⟨now, Nat.le_refl _, 0, _, by rw [cnt_self]; exact str_start (part_jobs h.i).1 _ d now h.rel hn⟩
 ·exact hs
theorem note6 {log : List S38} (now k i : Int) (hk : k ≠ 6) (h : ∀ en ∈ log, en.f1 ≠ 6) : ∀ en ∈ noteL log now k i, en.f1 ≠ 6 := by
 unfold noteL
 split
 ·intro en hen
  rcases List.mem_append.1 hen with hen | hen
  ·exact h en hen
  ·rw [List.mem_singleton.1 hen]; exact hk
 ·exact h
theorem pi1_leave {f : S85} {g : Nat → Bool} {s : S80} {now : Nat} (h : PI1 f g s now) (i : Int) : PI1 f g (leaveP s i).1 now := by
 have hp := partI_leave h.i i
 unfold leaveP at hp ⊢
 split
 ·exact h
 ·split
  ·exact h
  ·rename_i h1 h2
   rw [if_neg h1, if_neg h2] at hp
   exact ⟨hp, h.srp, h.fit, h.rel, h.las, h.str, h.log⟩
theorem srp_none {l : List S44} {js : List S182} (h : ∀ j ∈ js, j.f5 = false) : Srp l js := fun j hj k hk hb => by rw [h j hj] at hb; exact absurd hb (by decide)
theorem pi1_add {f : S85} {g : Nat → Bool} {s : S80} {now : Nat} (hf : supR f = true) (h : PI1 f g s now) (t : S44) : PI1 f g (addAP s f t).1 now := by
 have hp := partI_addA h.i f t
 unfold addAP at hp ⊢
 split
 ·rename_i h0
  rw [if_pos h0] at hp
  obtain ⟨e1, e2, e3, e4⟩ := addE_0.1 h0
  obtain ⟨hA, hl1, hl2, hl3⟩ := part_jobs h.i
  have hk := (jobA_iff2.1 hA).2.2.2
  have hnb : ∀ j ∈ s.f3, j.f5 = false := fun j hj => by
   have := firstI_neg hk e3 j hj; simpa using this
  have hT := taskA_snoc (jobA_iff2.1 hA).1 e1 e2
  refine ⟨hp, srp_none hnb, fit_all hT hf e4, h.rel, fun x hx => ?_, fun d => ?_, h.log⟩
  ·rcases List.mem_append.1 hx with hx | hx
   ·exact h.las x hx
   ·rw [List.mem_singleton.1 hx]; omega
  ·obtain ⟨t0, ht0, b, n, hs⟩ := h.str d
   exact ⟨t0, ht0, b, _, str_add hA hl2 t hnb hs⟩
 ·exact h
theorem pi1_change {f : S85} {g : Nat → Bool} {s : S80} {now : Nat} (hf : supR f = true) (h : PI1 f g s now) (i : Int) (t : S44) : PI1 f g (changeP s f i t).1 now := by
 unfold changeP
 split
 ·split
  ·exact pi1_add hf (pi1_leave h i) t
  ·exact h
 ·exact h
theorem pi1_release {f : S85} {g : Nat → Bool} {s : S80} {now : Nat} (h : PI1 f g s now) (h9 : now ≤ 1000000) (i want : Int) : PI1 f g (releaseP s i want now).1 now := by
 have hp := partI_release h.i i want now (by omega) (by omega)
 obtain ⟨hA, hl1, hl2, hl3⟩ := part_jobs h.i
 have hT := (taskA_iff.1 (jobA_iff2.1 hA).1).1
 unfold releaseP at hp ⊢
 split
 ·exact h
 ·rename_i h1
  rw [if_neg h1] at hp
  split
  ·exact h
  ·rename_i h2
   rw [if_neg h2] at hp
   split
   ·rename_i h3
    rw [if_pos h3] at hp
    exact ⟨hp, h.srp, h.fit, h.rel, h.las, h.str, note6 _ _ _ (by decide) h.log⟩
   ·rename_i h3
    rw [if_neg h3] at hp
    split
    ·rename_i h4
     rw [if_pos h4] at hp
     exact ⟨hp, h.srp, h.fit, h.rel, h.las, h.str, note6 _ _ _ (by decide) h.log⟩
    ·rename_i h4
     rw [if_neg h4] at hp
     obtain ⟨k, rfl⟩ := Int.eq_ofNat_of_zero_le (show 0 ≤ i by omega)
     rw [Int.toNat_natCast] at hp h3 ⊢
     have hk : k < s.f0.length := by omega
     have hg : s.f2.getD k 0 = s.f2.getD k (-1) := by rw [List.getD_eq_getElem?_getD, List.getD_eq_getElem?_getD, List.getElem?_eq_getElem (by omega)]; rfl
     rw [hg] at h3
     have hlk : s.f2.getD k (-1) ≤ now := h.las _ (by rw [List.getD_eq_getElem?_getD, List.getElem?_eq_getElem (by omega)]; exact List.getElem_mem _)
     have hj : ∀ j ∈ s.f3 ++ [⟨(k : Int), (now : Int), now + (s.f0.getD k z44).f1, want, 0, false⟩], j ∈ s.f3 ∨ j = ⟨(k : Int), (now : Int), now + (s.f0.getD k z44).f1, want, 0, false⟩ := fun j hj => (List.mem_append.1 hj).imp id (fun h => List.mem_singleton.1 h)
     refine ⟨hp, fun a ha c hc hab hcb hah r hr => ?_, h.fit, fun j hjm => ?_, fun x hx => ?_, fun d => ?_, note6 _ _ _ (by decide) h.log⟩
     ·rcases hj a ha with ha | rfl
      ·rcases hj c hc with hc | rfl
       ·exact h.srp a ha c hc hab hcb hah r hr
       ·cases hcb
      ·cases hab
     ·rcases hj j hjm with hm | rfl
      ·exact h.rel j hm
      ·exact Int.le_refl _
     ·rcases List.mem_or_eq_of_mem_set hx with hx | rfl
      ·exact h.las x hx
      ·exact Int.le_refl _
     ·obtain ⟨t0, ht0, b, n, hs⟩ := h.str d
      obtain ⟨n', hs'⟩ := str_rel hT hl2 hk want ht0 (by simpa using h3) hlk hs
      exact ⟨t0, ht0, b, n', hs'⟩
theorem missL_id {now : Int} {js : List S182} (h : ∀ j ∈ js, now < j.f2) : missL now js = js := by
 unfold missL
 exact List.filter_eq_self.2 (fun j hj => by simpa using h j hj)
theorem missLog_id {now : Int} {js : List S182} (h : ∀ j ∈ js, now < j.f2) (log : List S38) : missLog now log js = log := by
 unfold missLog
 induction js generalizing log with
 | nil => rfl
 | cons j js ih => rw [List.foldl_cons, if_pos (h j (List.mem_cons_self ..))]; exact ih (fun x hx => h x (List.mem_cons_of_mem _ hx)) log
theorem outL_sub {α : Type} (l : List α) (i : Nat) : (outL l i).Sublist l := by
 unfold outL
 have h : (l.take i ++ l.drop (i + 1)).Sublist (l.take i ++ l.drop i) := List.Sublist.append (List.Sublist.refl _) (List.drop_sublist_drop_left _ (by omega))
 rw [List.take_append_drop] at h
 exact h
theorem leaveL_sub (now : Int) : ∀ (n : Nat) (s : List S44 × List Bool × List Int × List S38), (∀ en ∈ s.2.2.2, en.f1 ≠ 6) → (leaveL now n s).1.Sublist s.1 ∧ (leaveL now n s).2.2.1.Sublist s.2.2.1 ∧ ∀ en ∈ (leaveL now n s).2.2.2, en.f1 ≠ 6 := by
 intro n
 induction n with
 | zero => intro s h; exact ⟨List.Sublist.refl _, List.Sublist.refl _, h⟩
 | succ n ih =>
  intro s h
  unfold leaveL
  split
  ·obtain ⟨h1, h2, h3⟩ := ih (outL s.1 n, outL s.2.1 n, outL s.2.2.1 n, noteL s.2.2.2 now 7 n) (note6 _ _ _ (by decide) h)
   exact ⟨h1.trans (outL_sub _ _), h2.trans (outL_sub _ _), h3⟩
  ·exact ih s h
theorem run_keeps {f : S85} {g : Nat → Bool} {s : S80} {now : Nat} (h : PI1 f g s now) {q : Int × List S182 × List S38} (hq : q = if g now = true then runJ s.f0 now s.f4 s.f3 else (-1, s.f3, s.f4)) :
  Srp s.f0 q.2.1 ∧ (∀ j ∈ q.2.1, j.f1 ≤ (now : Int)) ∧ (∀ en ∈ q.2.2, en.f1 ≠ 6) ∧ ∀ d : Int, (∀ j ∈ q.2.1, d < j.f2) ∨ ∃ t0 : Nat, t0 ≤ now ∧ ∃ b n, Str s.f0 s.f2 q.2.1 d t0 b n (cnt g t0 (now + 1)) := by
 obtain ⟨hA, hl1, hl2, hl3⟩ := part_jobs h.i
 by_cases hg : g now = true
 ·rw [if_pos hg] at hq
  by_cases hne : s.f3 = []
  ·have : q = (-1, s.f3, s.f4) := by rw [hq]; unfold runJ; rw [if_pos (by rw [hne]; rfl)]
   rw [this]
   refine ⟨h.srp, h.rel, h.log, fun d => .inl (fun j hj => ?_)⟩
   have hj : j ∈ s.f3 := hj
   rw [hne] at hj; simp at hj
  ·obtain ⟨c, hc, ec, hch⟩ := choose_spec hA hne
   have eg : s.f3.getD c z182 = s.f3[c] := by rw [List.getD_eq_getElem?_getD, List.getElem?_eq_getElem hc, Option.getD_some]
   have et : tickJ s.f0 s.f3 = (runT s.f3 c (overJ s.f0 s.f3[c]) s.f3[c], had1 s.f3[c], overJ s.f0 s.f3[c]) := by
    unfold tickJ
    rw [ec, if_neg (by omega), Int.toNat_natCast, eg]; rfl
   have : q = ((had1 s.f3[c]).f0, runT s.f3 c (overJ s.f0 s.f3[c]) s.f3[c], runLog s.f0 now s.f4 (had1 s.f3[c]) (overJ s.f0 s.f3[c])) := by
    rw [hq]; unfold runJ
    rw [if_neg (fun h0 => hne (List.length_eq_zero_iff.1 h0)), et]
   rw [this]
   refine ⟨?_, fun j hj => ?_, ?_, fun d => ?_⟩
   ·refine srp_run hA h.srp hc _ ?_
    rcases hch with ⟨h1, h2, -⟩ | ⟨h1, -, h3, h4⟩
    ·exact .inl ⟨h1, h2⟩
    ·exact .inr ⟨h1, h3, h4⟩
   ·rcases runT_mem hc hj with ⟨i, hi, -, rfl⟩ | ⟨-, rfl⟩
    ·exact h.rel _ (List.getElem_mem hi)
    ·exact h.rel s.f3[c] (List.getElem_mem hc)
   ·show ∀ en ∈ runLog _ _ _ _ _, en.f1 ≠ 6
    unfold runLog
    split
    ·exact note6 _ _ _ (by split <;> decide) h.log
    ·exact h.log
   ·by_cases hd : ∃ j ∈ s.f3, j.f2 ≤ d
    ·obtain ⟨t0, ht0, b, n, hs⟩ := h.str d
     obtain ⟨b', hs'⟩ := str_run hA h.srp hs hd hc (overJ s.f0 s.f3[c]) hch
     refine .inr ⟨t0, ht0, b', n, ?_⟩
     rw [cnt_succ g ht0, if_pos hg, Int.natCast_add]
     exact hs'
    ·refine .inl (fun j hj => ?_)
     have hd' : ∀ j ∈ s.f3, d < j.f2 := fun j hj => by
      by_cases hh : d < j.f2
      ·exact hh
      ·exact absurd ⟨j, hj, by omega⟩ hd
     rcases runT_mem hc hj with ⟨i, hi, -, rfl⟩ | ⟨-, rfl⟩
     ·exact hd' _ (List.getElem_mem hi)
     ·exact hd' s.f3[c] (List.getElem_mem hc)
 ·rw [if_neg hg] at hq
  rw [hq]
  refine ⟨h.srp, h.rel, h.log, fun d => .inr ?_⟩
  obtain ⟨t0, ht0, b, n, hs⟩ := h.str d
  refine ⟨t0, ht0, b, n, ?_⟩
  rw [cnt_succ g ht0, if_neg hg, Nat.add_zero]
  exact hs
theorem pi1_tick {f : S85} {g : Nat → Bool} {s : S80} {now : Nat} (hS : ∀ a x : Nat, supI f x ≤ cnt g a (a + x)) (h : PI1 f g s now) : PI0 f g (tickP s (g now) now).1 (now + 1) := by
 obtain ⟨hA, hl1, hl2, hl3⟩ := part_jobs h.i
 have hmiss : ∀ j ∈ s.f3, (now : Int) < j.f2 := by
  obtain ⟨t0, ht0, b, n, hs⟩ := h.str now
  exact no_miss hA h.fit hS ht0 hs
 have hpi := partI_tick h.i (g now) now
 generalize hq : (if g now = true then runJ s.f0 now s.f4 s.f3 else (-1, s.f3, s.f4)) = q
 obtain ⟨k1, k2, k3, k4⟩ := run_keeps h hq.symm
 have e : (tickP s (g now) now).1 = ⟨(if q.2.1.length = 0 then leaveL now s.f0.length (s.f0, s.f1, s.f2, q.2.2) else (s.f0, s.f1, s.f2, q.2.2)).1, (if q.2.1.length = 0 then leaveL now s.f0.length (s.f0, s.f1, s.f2, q.2.2) else (s.f0, s.f1, s.f2, q.2.2)).2.1, (if q.2.1.length = 0 then leaveL now s.f0.length (s.f0, s.f1, s.f2, q.2.2) else (s.f0, s.f1, s.f2, q.2.2)).2.2.1, q.2.1, (if q.2.1.length = 0 then leaveL now s.f0.length (s.f0, s.f1, s.f2, q.2.2) else (s.f0, s.f1, s.f2, q.2.2)).2.2.2⟩ := by
  unfold tickP
  dsimp only
  rw [missL_id hmiss, missLog_id hmiss, hq]
 rw [e] at hpi ⊢
 clear e
 by_cases h0 : q.2.1.length = 0
 ·rw [if_pos h0] at hpi ⊢
  have hn := List.length_eq_zero_iff.1 h0
  obtain ⟨s1, s2, s3⟩ := leaveL_sub now s.f0.length (s.f0, s.f1, s.f2, q.2.2) k3
  refine ⟨hpi, ?_, fit_sub s1 (taskA_iff.1 (jobA_iff2.1 hA).1).1 h.fit, ?_, fun x hx => ?_, fun d => .inl ?_, s3⟩
  ·show Srp _ q.2.1
   rw [hn]; exact fun j hj => by simp at hj
  ·show ∀ j ∈ q.2.1, _
   rw [hn]; exact fun j hj => by simp at hj
  ·have := h.las x (s2.subset hx)
   rw [Int.natCast_add]; omega
  ·show ∀ j ∈ q.2.1, _
   rw [hn]; exact fun j hj => by simp at hj
 ·rw [if_neg h0] at hpi ⊢
  refine ⟨hpi, k1, h.fit, fun j hj => ?_, fun x hx => ?_, fun d => ?_, k3⟩
  ·have := k2 j hj
   rw [Int.natCast_add]; omega
  ·have := h.las x hx
   rw [Int.natCast_add]; omega
  ·rcases k4 d with hn | ⟨t0, ht0, b, n, hs⟩
   ·exact .inl hn
   ·exact .inr ⟨t0, by omega, b, n, hs⟩
def lookW (ws : List S153) (u : Int) : Int := match ws.find? (fun x => decide (x.f1 ≤ u ∧ u < x.f1 + x.f2)) with
 | some x => x.f0
 | none => -1
theorem at_look (fr : Int) (ws : List S153) (t : Int) : atI fr ws t = lookW ws (t % fr) := rfl
theorem find_no {ws : List S153} {u : Int} (h : ∀ x ∈ ws, x.f1 + x.f2 ≤ u) : ws.find? (fun x => decide (x.f1 ≤ u ∧ u < x.f1 + x.f2)) = none := by
 rw [List.find?_eq_none]
 intro x hx
 have := h x hx
 simp; omega
theorem look_snoc (ws : List S153) (x : S153) (u : Int) : lookW (ws ++ [x]) u = match ws.find? (fun x => decide (x.f1 ≤ u ∧ u < x.f1 + x.f2)) with
 | some y => y.f0
 | none => if x.f1 ≤ u ∧ u < x.f1 + x.f2 then x.f0 else -1 := by
 unfold lookW
 rw [List.find?_append]
 cases ws.find? (fun x => decide (x.f1 ≤ u ∧ u < x.f1 + x.f2)) with
 | some y => rfl
 | none =>
  rw [Option.none_or]
  by_cases h : x.f1 ≤ u ∧ u < x.f1 + x.f2
  ·rw [List.find?_cons_of_pos (by simpa using h), if_pos h]
  ·rw [List.find?_cons_of_neg (by simpa using h), if_neg h]; rfl
theorem step_look {ws : List S153} {last at_ p : Int} (hw : ∀ x ∈ ws, x.f1 + x.f2 ≤ at_) (hl : last ≠ -1 → ∃ ys x, ws = ys ++ [x] ∧ x.f0 = last ∧ x.f1 + x.f2 = at_ ∧ 1 ≤ x.f2) :
  (∀ u, lookW (ofStep ws last at_ p) u = if u = at_ then p else lookW ws u) ∧ (∀ x ∈ ofStep ws last at_ p, x.f1 + x.f2 ≤ at_ + 1) ∧ (p ≠ -1 → ∃ ys x, ofStep ws last at_ p = ys ++ [x] ∧ x.f0 = p ∧ x.f1 + x.f2 = at_ + 1 ∧ 1 ≤ x.f2) := by
 unfold ofStep
 by_cases h1 : p = -1
 ·rw [if_pos h1]
  refine ⟨fun u => ?_, fun x hx => by have := hw x hx; omega, fun h => absurd h1 h⟩
  split
  ·rename_i hu
   subst hu
   unfold lookW
   rw [find_no hw, h1]
  ·rfl
 ·rw [if_neg h1]
  by_cases h2 : p = last
  ·obtain ⟨ys, x, rfl, e1, e2, e3⟩ := hl (by omega)
   have eD : (ys ++ [x]).getD ((ys ++ [x]).length - 1) z153 = x := by
    rw [List.length_append, List.length_singleton, Nat.add_sub_cancel, List.getD_eq_getElem?_getD, List.getElem?_append_right (Nat.le_refl _), Nat.sub_self]; rfl
   have eS : ∀ v, (ys ++ [x]).set ((ys ++ [x]).length - 1) v = ys ++ [v] := by
    intro v
    rw [List.length_append, List.length_singleton, Nat.add_sub_cancel, List.set_append_right _ _ (Nat.le_refl _), Nat.sub_self]; rfl
   rw [if_pos h2, eD, eS]
   have hys : ∀ y ∈ ys, y.f1 + y.f2 ≤ at_ := fun y hy => hw y (List.mem_append_left _ hy)
   refine ⟨fun u => ?_, fun y hy => ?_, fun _ => ⟨ys, _, rfl, by show x.f0 = p; omega, by show x.f1 + (x.f2 + 1) = _; omega, by show 1 ≤ x.f2 + 1; omega⟩⟩
   ·rw [look_snoc, look_snoc]
    by_cases hu : u = at_
    ·rw [if_pos hu]
     subst hu
     rw [find_no hys]
     dsimp only
     rw [if_pos (by omega)]; omega
    ·rw [if_neg hu]
     cases ys.find? (fun x => decide (x.f1 ≤ u ∧ u < x.f1 + x.f2)) with
     | some y => rfl
     | none =>
      dsimp only
      have : (x.f1 ≤ u ∧ u < x.f1 + (x.f2 + 1)) ↔ (x.f1 ≤ u ∧ u < x.f1 + x.f2) := by omega
      simp only [this]
   ·rcases List.mem_append.1 hy with hy | hy
    ·have := hys y hy; omega
    ·rw [List.mem_singleton.1 hy]; show x.f1 + (x.f2 + 1) ≤ _; omega
  ·rw [if_neg h2]
   refine ⟨fun u => ?_, fun y hy => ?_, fun _ => ⟨ws, _, rfl, rfl, rfl, Int.le_refl _⟩⟩
   ·rw [look_snoc]
    by_cases hu : u = at_
    ·rw [if_pos hu]
     subst hu
     rw [find_no hw]
     dsimp only
     rw [if_pos (by omega)]
    ·rw [if_neg hu]
     unfold lookW
     cases ws.find? (fun x => decide (x.f1 ≤ u ∧ u < x.f1 + x.f2)) with
     | some y => rfl
     | none =>
      dsimp only
      rw [if_neg (by omega)]
   ·rcases List.mem_append.1 hy with hy | hy
    ·have := hw y hy; omega
    ·rw [List.mem_singleton.1 hy]; exact Int.le_refl _
theorem ofGo_look : ∀ (r : List Int) (at_ last : Int) (ws : List S153), (∀ x ∈ ws, x.f1 + x.f2 ≤ at_) → (last ≠ -1 → ∃ ys x, ws = ys ++ [x] ∧ x.f0 = last ∧ x.f1 + x.f2 = at_ ∧ 1 ≤ x.f2) →
  ∀ u : Int, lookW (ofGo r at_ last ws) u = if at_ ≤ u ∧ u < at_ + r.length then r.getD (u - at_).toNat (-1) else lookW ws u := by
 intro r
 induction r with
 | nil => intro at_ last ws _ _ u; rw [if_neg (by rw [List.length_nil]; omega)]; rfl
 | cons p r ih =>
  intro at_ last ws hw hl u
  obtain ⟨h1, h2, h3⟩ := step_look (p := p) hw hl
  show lookW (ofGo r (at_ + 1) p (ofStep ws last at_ p)) u = _
  rw [ih (at_ + 1) p _ h2 h3 u, h1 u, List.length_cons, Int.natCast_add]
  by_cases hu : u = at_
  ·subst hu
   rw [if_neg (by omega), if_pos rfl, if_pos (by omega), Int.sub_self]; rfl
  ·rw [if_neg hu]
   by_cases hr : at_ + 1 ≤ u ∧ u < at_ + 1 + r.length
   ·rw [if_pos hr, if_pos (by omega)]
    have : (u - at_).toNat = (u - (at_ + 1)).toNat + 1 := by omega
    rw [this]; rfl
   ·rw [if_neg hr, if_neg (by omega)]
theorem at_of (o : List Int) (h : 1 ≤ o.length) (t : Nat) : atI o.length (ofT o) t = o.getD (t % o.length) (-1) := by
 rw [at_look]
 unfold ofT
 have e : ((t : Int) % (o.length : Int)) = ((t % o.length : Nat) : Int) := (Int.natCast_emod t o.length).symm
 have hlt := Nat.mod_lt t (show o.length > 0 by omega)
 rw [ofGo_look o 0 (-1) [] (fun x hx => by simp at hx) (fun h => absurd rfl h), e, if_pos (by omega), Int.sub_zero, Int.toNat_natCast]
theorem cnt_shift {g g' : Nat → Bool} {a a' n : Nat} (h : ∀ i, i < n → g (a + i) = g' (a' + i)) : cnt g a (a + n) = cnt g' a' (a' + n) := by
 unfold cnt
 rw [Nat.add_sub_cancel_left, Nat.add_sub_cancel_left]
 congr 1
 exact List.filter_congr (fun i hi => h i (List.mem_range.1 hi))
theorem cnt_congr {g g' : Nat → Bool} {a b : Nat} (h : ∀ k, a ≤ k → k < b → g k = g' k) : cnt g a b = cnt g' a b := by
 unfold cnt
 congr 1
 exact List.filter_congr (fun i hi => by have := List.mem_range.1 hi; exact h _ (by omega) (by omega))
theorem cnt_add (g : Nat → Bool) {a b c : Nat} (h1 : a ≤ b) (h2 : b ≤ c) : cnt g a c = cnt g a b + cnt g b c := by
 obtain ⟨n, rfl⟩ := Nat.exists_eq_add_of_le h2
 clear h2
 induction n with
 | zero => rw [Nat.add_zero, cnt_self, Nat.add_zero]
 | succ n ih =>
  rw [← Nat.add_assoc, cnt_succ g (by omega : a ≤ b + n), cnt_succ g (by omega : b ≤ b + n), ih, Nat.add_assoc]
theorem cnt_le (g : Nat → Bool) (a b : Nat) : cnt g a b ≤ b - a := by
 unfold cnt
 have := List.length_filter_le (fun k => g (a + k)) (List.range (b - a))
 rw [List.length_range] at this
 exact this
def pickB (o : List Int) (p : Nat) (t : Nat) : Bool := decide (o.getD t (-1) = (p : Int))
theorem begGo_out (t : Int) : ∀ (l : List S85) (i : Nat) (ws ws' : List Int), begGo t l i ws = some ws' → i + l.length ≤ ws.length →
  (∀ p, p < i → ws'.getD p 0 = ws.getD p 0) ∧ ∀ p, i ≤ p → p < i + l.length → (t % (l.getD (p - i) z85).f0 = 0 → ws.getD p 0 ≤ 0 ∧ ws'.getD p 0 = (l.getD (p - i) z85).f1) ∧ (t % (l.getD (p - i) z85).f0 ≠ 0 → ws'.getD p 0 = ws.getD p 0) := by
 intro l
 induction l with
 | nil => intro i ws ws' h _; cases h; exact ⟨fun _ _ => rfl, fun p h1 h2 => absurd h2 (by rw [List.length_nil]; omega)⟩
 | cons f r ih =>
  intro i ws ws' h hl
  rw [List.length_cons] at hl
  unfold begGo at h
  by_cases ht : t % f.f0 = 0
  ·rw [if_pos ht] at h
   by_cases hw : 0 < ws.getD i 0
   ·rw [if_pos hw] at h; exact absurd h (by simp)
   ·rw [if_neg hw] at h
    obtain ⟨h1, h2⟩ := ih (i + 1) _ _ h (by rw [List.length_set]; omega)
    refine ⟨fun p hp => ?_, fun p hp hp2 => ?_⟩
    ·rw [h1 p (by omega), getD_setI _ _ _ _ _ (by omega), if_neg (by omega)]
    ·by_cases e : p = i
     ·subst e
      rw [Nat.sub_self]
      show (t % f.f0 = 0 → _ ∧ ws'.getD p 0 = f.f1) ∧ (t % f.f0 ≠ 0 → _)
      exact ⟨fun _ => ⟨by omega, by rw [h1 p (by omega), getD_setI _ _ _ _ _ (by omega), if_pos rfl]⟩, fun hh => absurd ht hh⟩
     ·have e2 : p - i = (p - (i + 1)) + 1 := by omega
      rw [e2, List.getD_cons_succ]
      have := h2 p (by omega) (by rw [List.length_cons] at hp2; omega)
      rw [getD_setI _ _ _ _ _ (by omega), if_neg e] at this
      exact this
  ·rw [if_neg ht] at h
   obtain ⟨h1, h2⟩ := ih (i + 1) _ _ h (by omega)
   refine ⟨fun p hp => h1 p (by omega), fun p hp hp2 => ?_⟩
   by_cases e : p = i
   ·subst e
    rw [Nat.sub_self]
    show (t % f.f0 = 0 → _ ∧ ws'.getD p 0 = f.f1) ∧ (t % f.f0 ≠ 0 → _)
    exact ⟨fun hh => absurd hh ht, fun _ => h1 p (by omega)⟩
   ·have e2 : p - i = (p - (i + 1)) + 1 := by omega
    rw [e2, List.getD_cons_succ]
    exact h2 p (by omega) (by rw [List.length_cons] at hp2; omega)
theorem decW_at {ws : List Int} {x : Int} (h0 : -1 ≤ x) (h1 : x < ws.length) (p : Nat) : (decW ws x).getD p 0 = ws.getD p 0 - (if x = (p : Int) then 1 else 0) := by
 unfold decW
 by_cases h : x = -1
 ·rw [if_pos h, if_neg (by omega)]; omega
 ·rw [if_neg h, getD_setI _ _ _ _ _ (by omega)]
  by_cases e : x = (p : Int)
  ·rw [if_pos e, if_pos (by omega)]
   have : x.toNat = p := by omega
   rw [this]
  ·rw [if_neg e, if_neg (by omega)]; omega
theorem mod_between {t k P : Nat} (h0 : k * P ≤ t) (h1 : t < k * P + P) (h : t % P = 0) : t = k * P := by
 obtain ⟨r, rfl⟩ := Nat.exists_eq_add_of_le h0
 rw [Nat.mul_comm, Nat.mul_add_mod, Nat.mod_eq_of_lt (by omega)] at h
 omega
theorem lay_budget {l : List S85} {p : Nat} (hp : p < l.length) {P B : Nat} (hP : 1 ≤ P) (e0 : (l.getD p z85).f0 = P) (e1 : (l.getD p z85).f1 = B) : ∀ (n t : Nat) (ws out o : List Int), layGo l n t ws out = some o → ws.length = l.length → out.length = t →
  (∀ k, k * P + P < t → B ≤ cnt (pickB out p) (k * P) (k * P + P)) → (∀ k, k * P < t → t ≤ k * P + P → (B : Int) ≤ cnt (pickB out p) (k * P) t + ws.getD p 0) →
  (t + n) % P = 0 → ∀ k, k * P + P ≤ t + n → B ≤ cnt (pickB o p) (k * P) (k * P + P) := by
 intro n
 induction n with
 | zero =>
  intro t ws out o h hw ho j1 j2 hm k hk
  cases hb : begGo t l 0 ws with
  | none => rw [layGo_none 0 hb] at h; exact absurd h (by simp)
  | some ws1 =>
   rw [layGo_end hb, Option.some.injEq] at h
   subst h
   obtain ⟨-, h2⟩ := begGo_out t l 0 ws ws1 hb (by omega)
   have h3 := (h2 p (by omega) (by omega)).1
   rw [Nat.sub_zero, e0, ← Int.natCast_emod] at h3
   have h4 := (h3 (by rw [Nat.add_zero] at hm; rw [hm]; rfl)).1
   rw [Nat.add_zero] at hk
   rcases Nat.lt_or_eq_of_le hk with hk | hk
   ·exact j1 k hk
   ·have := j2 k (by omega) (by omega)
    rw [hk]; omega
 | succ n ih =>
  intro t ws out o h hw ho j1 j2 hm k hk
  cases hb : begGo t l 0 ws with
  | none => rw [layGo_none _ hb] at h; exact absurd h (by simp)
  | some ws1 =>
   rw [layGo_some n hb] at h
   have hl1 := begGo_len _ _ _ _ _ hb
   obtain ⟨x1, x2⟩ := nextGo_range t l 0 ws1 (-1) 0 (by omega) (by omega)
   generalize nextGo t l 0 ws1 (-1) 0 = x at h x1 x2
   obtain ⟨-, h2⟩ := begGo_out t l 0 ws ws1 hb (by omega)
   obtain ⟨h3, h4⟩ := h2 p (by omega) (by omega)
   rw [Nat.sub_zero, e0, ← Int.natCast_emod] at h3 h4
   rw [e1] at h3
   have hd := decW_at (ws := ws1) x1 (by omega) p
   have hold : ∀ a b, b ≤ t → cnt (pickB (out ++ [x]) p) a b = cnt (pickB out p) a b := fun a b hbt => cnt_congr (fun k _ hk => by
    unfold pickB; rw [getD_app _ _ _ _ (by omega)])
   have hnew : pickB (out ++ [x]) p t = decide (x = (p : Int)) := by
    unfold pickB
    rw [List.getD_eq_getElem?_getD, List.getElem?_append_right (by omega), ho, Nat.sub_self]; rfl
   have hcs : ∀ a, a ≤ t → (cnt (pickB (out ++ [x]) p) a (t + 1) : Int) = cnt (pickB out p) a t + (if x = (p : Int) then 1 else 0) := fun a ha => by
    rw [cnt_succ _ ha, hold _ _ (Nat.le_refl _), hnew]
    by_cases e : x = (p : Int)
    ·rw [if_pos (by simpa using e), if_pos e]; rfl
    ·rw [if_neg (by simpa using e), if_neg e]; rfl
   have ec : ((t : Nat) : Int) + 1 = ((t + 1 : Nat) : Int) := by omega
   rw [ec] at h
   refine ih (t + 1) _ _ o h (by rw [decW_len]; omega) (by rw [List.length_append, List.length_singleton]; omega) (fun k hk => ?_) (fun k hk hk2 => ?_) (by rw [← hm]; congr 1; omega) k (by omega)
   ·rw [hold _ _ (by omega)]
    rcases Nat.lt_or_eq_of_le (show k * P + P ≤ t by omega) with hk | hk
    ·exact j1 k hk
    ·have hz : t % P = 0 := by rw [← hk, Nat.add_mod_right, Nat.mul_mod_left]
     have h5 := (h3 (by rw [hz]; rfl)).1
     have := j2 k (by omega) (by omega)
     rw [hk]; omega
   ·rw [hcs _ (by omega), hd]
    by_cases hz : t % P = 0
    ·have e := mod_between (show k * P ≤ t by omega) (by omega) hz
     have h5 := (h3 (by rw [hz]; rfl)).2
     rw [← e, cnt_self, h5]
     omega
    ·have h5 := h4 (by omega)
     rw [h5]
     have hne : k * P ≠ t := fun e => hz (by rw [← e, Nat.mul_mod_left])
     have := j2 k (by omega) (by omega)
     omega
theorem cnt_win {g : Nat → Bool} {P B : Nat} (hB : 1 ≤ B) (hP : B ≤ P) (h : ∀ k, B ≤ cnt g (k * P) (k * P + P)) {f : S85} (e0 : f.f0 = P) (e1 : f.f1 = B) (a x : Nat) : supI f x ≤ cnt g a (a + x) := by
 have idle : ∀ k b c, k * P ≤ b → b ≤ c → c ≤ k * P + P → c - b ≤ cnt g b c + (P - B) := fun k b c h1 h2 h3 => by
  have hk := h k
  rw [cnt_add g (show k * P ≤ b from h1) (show b ≤ k * P + P by omega), cnt_add g h2 h3] at hk
  have := cnt_le g (k * P) b
  have := cnt_le g c (k * P + P)
  omega
 have full : ∀ m n, n * B ≤ cnt g (m * P) ((m + n) * P) := fun m n => by
  induction n with
  | zero => omega
  | succ n ih =>
   have e : (m + (n + 1)) * P = (m + n) * P + P := by rw [← Nat.add_assoc, Nat.add_mul, Nat.one_mul]
   rw [e, cnt_add g (b := (m + n) * P) (Nat.mul_le_mul_right _ (by omega)) (by omega), Nat.add_mul, Nat.one_mul]
   have := h (m + n)
   omega
 by_cases hx : (x : Int) < f.f0 - f.f1
 ·unfold supI; rw [if_pos hx]; omega
 ·have hxd : P - B ≤ x := by omega
  obtain ⟨y, rfl⟩ := Nat.exists_eq_add_of_le hxd
  have hq : (((P - B + y : Nat) : Int) - (f.f0 - f.f1)) / f.f0 = ((y / P : Nat) : Int) := by
   rw [e0, e1, Int.natCast_ediv]; congr 1; omega
  rw [supI_of hx hq, e0, e1]
  have hy := Nat.div_add_mod y P
  have hy2 := Nat.mod_lt y (show P > 0 by omega)
  rw [Nat.mul_comm] at hy
  generalize y / P = q at hy
  generalize y % P = rem at hy hy2
  have ha := Nat.div_add_mod a P
  have ha2 := Nat.mod_lt a (show P > 0 by omega)
  rw [Nat.mul_comm] at ha
  generalize a / P = k at ha
  generalize a % P = u at ha ha2
  have eqB : (q : Int) * (B : Int) = ((q * B : Nat) : Int) := (Int.natCast_mul q B).symm
  have eqP : (q : Int) * (P : Int) = ((q * P : Nat) : Int) := (Int.natCast_mul q P).symm
  rw [eqB, eqP]
  by_cases hin : a + (P - B + y) < k * P + P
  ·have h1 := idle k a (a + (P - B + y)) (by omega) (by omega) (by omega)
   have hq0 : q = 0 := by
    by_cases hh : q = 0
    ·exact hh
    ·have := Nat.le_mul_of_pos_left P (show 0 < q by omega)
     omega
   subst hq0
   rw [Nat.zero_mul, Nat.zero_mul]
   unfold mx
   split <;> omega
  ·obtain ⟨z, hz⟩ := Nat.exists_eq_add_of_le (show k * P + P ≤ a + (P - B + y) by omega)
   have hz1 := Nat.div_add_mod z P
   have hz2 := Nat.mod_lt z (show P > 0 by omega)
   rw [Nat.mul_comm] at hz1
   generalize z / P = n at hz1
   generalize z % P = r2 at hz1 hz2
   have em : (k + 1) * P = k * P + P := by rw [Nat.add_mul, Nat.one_mul]
   have en : (k + 1 + n) * P = k * P + P + n * P := by rw [Nat.add_mul, em]
   have i1 := idle k a (k * P + P) (by omega) (by omega) (by omega)
   have i2 := full (k + 1) n
   have i3 := idle (k + 1 + n) ((k + 1 + n) * P) (a + (P - B + y)) (by omega) (by rw [en]; omega) (by rw [en]; omega)
   rw [em] at i2
   rw [en] at i2 i3
   have ee : cnt g a (a + (P - B + y)) = cnt g a (k * P + P) + (cnt g (k * P + P) (k * P + P + n * P) + cnt g (k * P + P + n * P) (a + (P - B + y))) := by
    rw [cnt_add g (b := k * P + P) (by omega) (by omega), cnt_add g (a := k * P + P) (b := k * P + P + n * P) (by omega) (by omega)]
   rw [ee]
   have l1 : n < q + 2 := Nat.lt_of_mul_lt_mul_right (a := P) (by rw [Nat.add_mul]; omega)
   have l2 : q < n + 2 := Nat.lt_of_mul_lt_mul_right (a := P) (by rw [Nat.add_mul]; omega)
   rcases (by omega : q = n + 1 ∨ q = n ∨ n = q + 1) with rfl | rfl | rfl
   ·rw [Nat.add_mul, Nat.one_mul] at hy
    rw [Nat.add_mul, Nat.one_mul, Nat.add_mul, Nat.one_mul]
    generalize n * P = nP at *
    generalize n * B = nB at *
    unfold mx
    split <;> omega
   ·generalize q * P = nP at *
    generalize q * B = nB at *
    unfold mx
    split <;> omega
   ·rw [Nat.add_mul, Nat.one_mul] at hz1 i2 i3 ⊢
    rw [Nat.add_mul, Nat.one_mul] at i2
    generalize q * P = nP at *
    generalize q * B = nB at *
    unfold mx
    split <;> omega
theorem frG_dvd : ∀ (l : List S85) (a fr : Int), 1 ≤ a → (∀ f ∈ l, supR f = true) → frG a l = some fr → a ∣ fr ∧ ∀ f ∈ l, f.f0 ∣ fr := by
 intro l
 induction l with
 | nil => intro a fr _ _ h; cases h; exact ⟨Int.dvd_refl _, fun f hf => by simp at hf⟩
 | cons f r ih =>
  intro a fr ha hs h
  have hf := supR_iff.1 (hs f (List.mem_cons_self ..))
  unfold frG at h
  split at h
  ·exact absurd h (by simp)
  ·obtain ⟨d1, d2⟩ := dvd_lcmI ha (show 1 ≤ f.f0 by omega)
   obtain ⟨h1, h2⟩ := ih _ fr (lcmI_bd ha (by omega)).1 (fun g hg => hs g (List.mem_cons_of_mem _ hg)) h
   refine ⟨Int.dvd_trans d1 h1, fun g hg => ?_⟩
   rcases List.mem_cons.1 hg with rfl | hg
   ·exact Int.dvd_trans d2 h1
   ·exact h2 g hg
theorem table_gives {l : List S85} (hs : ∀ f ∈ l, supR f = true) (hm : (makeI l).2.2 = 0) {p : Nat} (hp : p < l.length) (a x : Nat) :
  supI (l.getD p z85) x ≤ cnt (fun t => decide (atI (makeI l).1 (makeI l).2.1 (t : Int) = (p : Int))) a (a + x) := by
 have hl0 : (layI l).2 = 0 := by
  by_cases h : (layI l).2 = 0
  ·exact h
  ·unfold makeI at hm; rw [if_neg h] at hm; exact absurd hm h
 obtain ⟨o1, o2, o3⟩ := layI_out l hs hl0
 have ho : ∃ fr o, frG 1 l = some fr ∧ layGo l fr.toNat 0 (List.replicate l.length 0) [] = some o ∧ (layI l).1 = o := by
  unfold layI at hl0 ⊢
  cases h1 : frG 1 l with
  | none => rw [h1] at hl0; exact absurd hl0 (show ¬ (5 : Int) = 0 by decide)
  | some fr =>
   rw [h1] at hl0
   dsimp only at hl0 ⊢
   cases h2 : layGo l fr.toNat 0 (List.replicate l.length 0) [] with
   | none => rw [h2] at hl0; exact absurd hl0 (show ¬ (7 : Int) = 0 by decide)
   | some o => exact ⟨fr, o, rfl, h2, rfl⟩
 obtain ⟨fr, o, h1, h2, h3⟩ := ho
 have em : makeI l = (((layI l).1.length : Int), ofT (layI l).1, 0) := by unfold makeI; rw [if_pos hl0]
 rw [em, h3]
 rw [h3] at o1 o2 o3
 dsimp only
 have hg : l.getD p z85 ∈ l := by rw [List.getD_eq_getElem?_getD, List.getElem?_eq_getElem hp, Option.getD_some]; exact List.getElem_mem hp
 have hf := supR_iff.1 (hs _ hg)
 obtain ⟨d1, d2⟩ := frG_dvd l 1 fr (by omega) hs h1
 obtain ⟨b1, b2⟩ := frG_bd l 1 fr (by omega) (by omega) hs h1
 have hd := d2 _ hg
 have hlen := (layGo_out l _ _ _ _ o h2 (fun x hx => by simp at hx)).1
 rw [List.length_nil, Nat.zero_add] at hlen
 obtain ⟨P, eP⟩ := Int.eq_ofNat_of_zero_le (show 0 ≤ (l.getD p z85).f0 by omega)
 obtain ⟨B, eB⟩ := Int.eq_ofNat_of_zero_le (show 0 ≤ (l.getD p z85).f1 by omega)
 have hdn : P ∣ o.length := by
  rw [eP] at hd
  rw [hlen]
  have e : fr = ((fr.toNat : Nat) : Int) := by omega
  rw [e] at hd
  exact Int.natCast_dvd_natCast.1 hd
 have hbud := lay_budget hp (show 1 ≤ P by omega) eP eB fr.toNat 0 _ _ o h2 (by simp) rfl (fun k hk => absurd hk (by omega)) (fun k hk => absurd hk (by omega)) (by rw [Nat.zero_add, ← hlen]; exact Nat.mod_eq_zero_of_dvd hdn)
 rw [Nat.zero_add, ← hlen] at hbud
 obtain ⟨m, hmP⟩ := hdn
 rw [Nat.mul_comm] at hmP
 have hm1 : 1 ≤ m := by
  by_cases h0 : m = 0
  ·subst h0; omega
  ·omega
 refine cnt_win (show 1 ≤ B by omega) (by omega) (fun k => ?_) eP eB a x
 have hkm := Nat.mod_lt k (show m > 0 by omega)
 have hle : k % m * P + P ≤ m * P := by
  have := Nat.mul_le_mul_right P (show k % m + 1 ≤ m by omega)
  rw [Nat.add_mul, Nat.one_mul] at this
  exact this
 have hb := hbud (k % m) (by omega)
 have he : cnt (fun t => decide (atI o.length (ofT o) (t : Int) = (p : Int))) (k * P) (k * P + P) = cnt (pickB o p) (k % m * P) (k % m * P + P) := by
  refine cnt_shift (fun i hi => ?_)
  show decide (atI o.length (ofT o) ((k * P + i : Nat) : Int) = (p : Int)) = _
  rw [at_of o o1]
  unfold pickB
  have e : (k * P + i) % o.length = k % m * P + i := by
   rw [hmP]
   have hk := Nat.div_add_mod k m
   have e2 : k * P + i = m * P * (k / m) + (k % m * P + i) := by
    rw [← Nat.add_assoc, Nat.mul_assoc, Nat.mul_comm P, ← Nat.mul_assoc, ← Nat.add_mul, hk]
   rw [e2, Nat.mul_add_mod, Nat.mod_eq_of_lt (by omega)]
  rw [e]
 rw [he]
 exact hb
def gW (fr : Int) (ws : List S153) (p : Nat) (t : Nat) : Bool := decide (atI fr ws (t : Int) = (p : Int))
structure KI (PI : S85 → (Nat → Bool) → S80 → Nat → Prop) (fr : Int) (ws : List S153) (l : List S85) (s : S66) (now : Nat) : Prop where
 e0 : s.f0 = fr
 e1 : s.f1 = ws
 e2 : s.f2 = l
 e5 : s.f5 = now
 el : s.f3.length = l.length
 ps : ∀ p, p < l.length → PI (l.getD p z85) (gW fr ws p) (s.f3.getD p z80) now
theorem ki01 {fr : Int} {ws : List S153} {l : List S85} {s : S66} {now : Nat} (h : KI PI0 fr ws l s now) : KI PI1 fr ws l s now :=
 ⟨h.e0, h.e1, h.e2, h.e5, h.el, fun p hp => pi01 (h.ps p hp)⟩
theorem ki_on {fr : Int} {ws : List S153} {l : List S85} {s : S66} {now : Nat} (h : KI PI1 fr ws l s now) {G : S80 → S85 → S46 → Int → S80 × Int} (c : S46) (h0 : 0 ≤ c.f0) (h1 : c.f0 < s.f3.length)
  (hG : ∀ (p : Nat) (x : S80), p < l.length → PI1 (l.getD p z85) (gW fr ws p) x now → PI1 (l.getD p z85) (gW fr ws p) (G x (l.getD p z85) c now).1 now) : KI PI1 fr ws l (onS G s c).1 now := by
 obtain ⟨i, hi⟩ := Int.eq_ofNat_of_zero_le h0
 have hil : i < s.f3.length := by omega
 refine ⟨h.e0, h.e1, h.e2, h.e5, ?_, fun p hp => ?_⟩
 ·show (s.f3.set _ _).length = _
  rw [List.length_set]; exact h.el
 ·show PI1 _ _ ((s.f3.set c.f0.toNat (G (s.f3.getD c.f0.toNat z80) (s.f2.getD c.f0.toNat z85) c s.f5).1).getD p z80) now
  rw [gset, hi, Int.toNat_natCast, h.e2, h.e5]
  by_cases e : p = i
  ·subst e
   rw [if_pos ⟨rfl, hil⟩]
   exact hG p _ hp (h.ps p hp)
  ·rw [if_neg (fun hh => e hh.1)]
   exact h.ps p hp
theorem ki_lines {fr : Int} {ws : List S153} {l : List S85} {s : S66} {now : Nat} (h : KI PI1 fr ws l s now) (q : List S135) : KI PI1 fr ws l (linesP s q) now := ⟨h.e0, h.e1, h.e2, h.e5, h.el, h.ps⟩
theorem getD_sup {l : List S85} (hs : ∀ f ∈ l, supR f = true) {p : Nat} (hp : p < l.length) : supR (l.getD p z85) = true := by
 rw [List.getD_eq_getElem?_getD, List.getElem?_eq_getElem hp, Option.getD_some]
 exact hs _ (List.getElem_mem hp)
theorem ki_do {fr : Int} {ws : List S153} {l : List S85} {s : S66} {now : Nat} (hs : ∀ f ∈ l, supR f = true) (h9 : now ≤ 1000000) (h : KI PI1 fr ws l s now) (c : S46) : KI PI1 fr ws l (doK s c).1 now := by
 unfold doK
 split
 ·rename_i hc
  split
  ·exact ki_on h c hc.1 hc.2 (fun p x hp hx => pi1_release hx h9 _ _)
  ·split
   ·exact ki_on h c hc.1 hc.2 (fun p x hp hx => pi1_add (getD_sup hs hp) hx _)
   ·split
    ·exact ki_on h c hc.1 hc.2 (fun p x hp hx => pi1_leave hx _)
    ·split
     ·exact ki_on h c hc.1 hc.2 (fun p x hp hx => pi1_change (getD_sup hs hp) hx _ _)
     ·split
      ·exact ki_lines h _
      ·split
       ·exact ki_lines h _
       ·exact h
 ·exact h
theorem ki_asks {fr : Int} {ws : List S153} {l : List S85} {q : S66 × List S36} {now : Nat} (hs : ∀ f ∈ l, supR f = true) (h9 : now ≤ 1000000) (h : KI PI1 fr ws l q.1 now) (at_ : Int) (asl : List S46) : ∀ k, KI PI1 fr ws l (asksN at_ asl q k).1 now := by
 intro k
 induction k with
 | zero => exact h
 | succ k ih => exact ki_do hs h9 ih _
theorem ki_tick {fr : Int} {ws : List S153} {l : List S85} {s : S66} {now : Nat} (hS : ∀ p, p < l.length → ∀ a x : Nat, supI (l.getD p z85) x ≤ cnt (gW fr ws p) a (a + x)) (h : KI PI1 fr ws l s now) : KI PI0 fr ws l (tickK s).1 (now + 1) := by
 refine ⟨h.e0, h.e1, h.e2, ?_, ?_, fun p hp => ?_⟩
 ·show s.f5 + 1 = _
  rw [h.e5]; omega
 ·show (tickPs _ _ _).length = _
  rw [tickPs_len]; exact h.el
 ·have hp2 : p < s.f3.length := by rw [h.el]; exact hp
  have e : (tickPs (atI s.f0 s.f1 s.f5) s.f5 s.f3).getD p z80 = (tickP (s.f3.getD p z80) (gW fr ws p now) now).1 := by
   unfold tickPs gW
   rw [h.e0, h.e1, h.e5, List.getD_eq_getElem?_getD, List.getElem?_mapIdx, List.getElem?_eq_getElem hp2, Option.map_some, Option.getD_some, List.getD_eq_getElem?_getD, List.getElem?_eq_getElem hp2, Option.getD_some]
   have eb : ((p : Int) == atI fr ws (now : Int)) = decide (atI fr ws (now : Int) = (p : Int)) := by
    by_cases hh : atI fr ws (now : Int) = (p : Int)
    ·rw [hh]; simp
    ·rw [decide_eq_false hh]; simpa using fun e => hh e.symm
   rw [eb]
  show PI0 _ _ ((tickPs (atI s.f0 s.f1 s.f5) s.f5 s.f3).getD p z80) _
  rw [e]
  exact pi1_tick (hS p hp) (h.ps p hp)
theorem ki_steps {fr : Int} {ws : List S153} {l : List S85} {q : S66 × List S36} (hs : ∀ f ∈ l, supR f = true) (hS : ∀ p, p < l.length → ∀ a x : Nat, supI (l.getD p z85) x ≤ cnt (gW fr ws p) a (a + x)) (h : KI PI0 fr ws l q.1 0) (scr : List (List S46)) :
  ∀ i, i ≤ 1000000 → KI PI0 fr ws l (stepsN scr q i).1 i := by
 intro i
 induction i with
 | zero => intro _; exact h
 | succ i ih =>
  intro hi
  exact ki_tick hS (ki_asks hs (by omega) (ki01 (ih (by omega))) _ _ _)
theorem log_at (s : S66) (vs : List S36) : ∀ n, n ≤ vs.length → ∀ q, q < n → ((logN s vs n).getD q z36).f2 = (s.f3.getD q z80).f4 := by
 intro n
 induction n with
 | zero => intro _ q hq; omega
 | succ n ih =>
  intro hn q hq
  unfold logN
  rw [gset, logN_len]
  by_cases e : q = n
  ·subst e
   rw [if_pos ⟨rfl, by omega⟩]
  ·rw [if_neg (fun hh => e hh.1)]
   exact ih (by omega) q (by omega)
theorem bootE_all : ∀ {ps : List S87}, bootE ps = 0 → ∀ p ∈ ps, (bootP p).2 = 0 := by
 intro ps
 induction ps with
 | nil => intro _ p hp; simp at hp
 | cons a r ih =>
  intro h p hp
  unfold bootE at h
  split at h
  ·rename_i ha
   rcases List.mem_cons.1 hp with rfl | hp
   ·exact ha
   ·exact ih h p hp
  ·rename_i ha
   exact absurd h ha
theorem boot_fit {p : S87} (h : (bootP p).2 = 0) : fitE p.f1 p.f0 = 0 ∧ (bootP p).1 = newP p.f1 := by
 unfold bootP at h ⊢
 split
 ·rename_i hf; exact ⟨hf, rfl⟩
 ·rename_i hf; rw [if_neg hf] at h; exact absurd h hf
theorem pi0_new {f : S85} {g : Nat → Bool} {l : List S44} (hl : taskA l = true) (hf : supR f = true) (h : fitE l f = 0) : PI0 f g (newP l) 0 := by
 refine ⟨partI_new hl, fun j hj => by simp [newP] at hj, fit_all hl hf h, fun j hj => by simp [newP] at hj, fun x hx => ?_, fun d => .inl (fun j hj => by simp [newP] at hj), fun en hen => by simp [newP] at hen⟩
 have hx : x ∈ List.replicate l.length (-1 : Int) := hx
 have := (List.mem_replicate.1 hx).2
 omega
theorem meets_all (b : List Int) (l : List S41) : fewP l → b.length ≤ 500 → ∀ v ∈ (playK b (scrL l)).1, ∀ en ∈ v.f2, en.f1 ≠ 6 := by
 intro hfew _ v hv en hen
 unfold playK at hv
 split at hv
 ·split at hv
  ·rename_i hb
   split at hv
   ·generalize (decI b).1.1 = ps at hb hv
    generalize (decI b).1.2 = qs at hb hv
    have hv : v ∈ playS (bootK ps qs).1 (scrL l) := hv
    unfold bootK at hb hv
    split at hb
    ·rename_i hi
     rw [if_pos hi] at hv
     split at hb
     ·rename_i hm
      rw [if_pos hm] at hv
      split at hb
      ·rename_i he
       rw [if_pos he] at hv
       have hall : ∀ p ∈ ps, supR p.f0 = true ∧ taskA p.f1 = true := by
        unfold imgR at hi
        simp only [Bool.and_eq_true, List.all_eq_true] at hi
        intro p hp
        have := hi.1.1 p hp
        simpa [partOk] using this
       have hsup : ∀ f ∈ faces ps, supR f = true := fun f hf => by
        obtain ⟨p, hp, rfl⟩ := List.mem_map.1 hf
        exact (hall p hp).1
       have hlf : (faces ps).length = ps.length := List.length_map ..
       have hk0 : KI PI0 (makeI (faces ps)).1 (makeI (faces ps)).2.1 (faces ps) (⟨(makeI (faces ps)).1, (makeI (faces ps)).2.1, faces ps, boots ps, (openL qs).1, 0⟩ : S66) 0 := by
        refine ⟨rfl, rfl, rfl, rfl, by rw [hlf]; exact List.length_map .., fun p hp => ?_⟩
        rw [hlf] at hp
        have hmem := List.getElem_mem hp
        obtain ⟨h1, h2⟩ := boot_fit (bootE_all he _ hmem)
        have e1 : (faces ps).getD p z85 = ps[p].f0 := by
         unfold faces
         rw [List.getD_eq_getElem?_getD, List.getElem?_map, List.getElem?_eq_getElem hp]; rfl
        have e2 : (boots ps).getD p z80 = newP ps[p].f1 := by
         unfold boots
         rw [List.getD_eq_getElem?_getD, List.getElem?_map, List.getElem?_eq_getElem hp]; exact h2
        show PI0 _ _ ((boots ps).getD p z80) 0
        rw [e1, e2]
        exact pi0_new (hall _ hmem).2 (hall _ hmem).1 h1
       have hst := fun vs => ki_steps (q := ((⟨(makeI (faces ps)).1, (makeI (faces ps)).2.1, faces ps, boots ps, (openL qs).1, 0⟩ : S66), vs)) hsup (fun p hp a x => table_gives hsup hm hp a x) hk0 (scrL l) (scrL l).length (by
        have : (scrL l).length = l.length := List.length_map ..
        have := hfew.1
        omega)
       unfold playS at hv
       have hlen := stepsN_len (scrL l) ((⟨(makeI (faces ps)).1, (makeI (faces ps)).2.1, faces ps, boots ps, (openL qs).1, 0⟩ : S66), List.replicate (boots ps).length z36) (scrL l).length
       have hst := hst (List.replicate (boots ps).length z36)
       dsimp only at hv hlen
       generalize stepsN (scrL l) ((⟨(makeI (faces ps)).1, (makeI (faces ps)).2.1, faces ps, boots ps, (openL qs).1, 0⟩ : S66), List.replicate (boots ps).length z36) (scrL l).length = q at hv hlen hst
       rw [List.length_replicate] at hlen
       obtain ⟨k, hk, rfl⟩ := List.mem_iff_getElem.1 hv
       rw [logN_len, hlen.2] at hk
       have e := log_at q.1 q.2 (boots ps).length (by omega) k hk
       rw [List.getD_eq_getElem?_getD, List.getElem?_eq_getElem (by rw [logN_len]; omega), Option.getD_some] at e
       rw [e] at hen
       have hkl : k < (faces ps).length := by
        have : (boots ps).length = ps.length := List.length_map ..
        omega
       exact (hst.ps k hkl).log en hen
      ·rename_i he; exact absurd hb he
     ·rename_i hm; exact absurd hb hm
    ·exact absurd hb (show ¬ (1 : Int) = 0 by decide)
   ·simp at hv
  ·simp at hv
 ·simp at hv
end Go.Proofs.YtmngaagojkihbaaGreat.FTop
namespace Go.Proofs.YtmngaagojkihbaaGreatX
open Go.RowKit Go.Proofs.YtmngaagojkihbaaGreatW.PrintWords Go.Proofs.YtmngaagojkihbaaGreatW.PrintLast Go.Proofs.YtmngaagojkihbaaGreatW.PrintMore
set_option linter.unusedVariables false
set_option linter.unusedSimpArgs false
def Lifts {α : Type} (P : Program) (d : Kd α) (t : TypeId) (good : α → Prop) : Prop :=
  ∀ (H : Type) (enc : TypeId × Value → H) (w : World) (base : Nat) (spare : Nat → Bool) (held : Bool) (fuel : Nat) (cs : List Value) (x : DataW H × List MemPlace),
    DataW.trod enc P w base spare held fuel t cs = some x → ∃ a : α, d.K w a cs ∧ good a
theorem lift_int {P : Program} {t : TypeId} {k : IntKind} (hu : P.underlying t = some (.int k)) : Lifts P (Kd.int k) t (fun n => (Lit.int k n).wf = true) := by
  intro H enc w base spare held fuel cs x h
  obtain ⟨n, hc, _, hw⟩ := DataW.trod_int hu h
  exact ⟨n, hc, hw⟩
theorem cells_get {w : World} {base : Nat} {a : Addr} {n : Nat} {cs : List Value} (h : w.cells? base a n = some cs) : cs.length = n ∧ ∀ i u, cs[i]? = some u → w.cell? (a.add i) = some u := by
  unfold World.cells? at h
  split at h
  · have hl := mapM_some_length h
    refine ⟨by simpa using hl, fun i u hi => ?_⟩
    have hlt : i < n := by
      have := (List.getElem?_eq_some_iff.1 hi).1
      simp at hl
      omega
    have := mapM_some_get h i i (by simp [hlt])
    rw [this, hi]
  · cases h
theorem lift_slice {α : Type} {P : Program} {d : Kd α} {t e : TypeId} {good : α → Prop} (hu : P.underlying t = some (.slice e)) (hsz : P.cellsOf e = d.sz) (hd : Lifts P d e good) :
    Lifts P (Kd.slice e d) t (fun l => l.length ≤ 9223372036854775807 ∧ ∀ x ∈ l, good x) := by
  intro H enc w base spare held fuel cs x h
  rcases DataW.trod_slice hu h with ⟨rfl, _⟩ | ⟨a, len, cap, elems, rest, n, _, rfl, _, hb, hl, hm, hel, hat, _⟩
  · exact ⟨[], ⟨none, 0, rfl, Nat.le_refl _, Kd.C_nil d w⟩, by simp, by simp⟩
  · have hone : ∀ i : Fin len, ∃ p : α × List Value, d.K w p.1 p.2 ∧ good p.1 ∧ p.2.length = d.sz ∧ ∀ j u, p.2[j]? = some u → w.cell? (a.add (i.1 * d.sz + j)) = some u := by
      intro ⟨i, hi⟩
      have h1 := hat i hi
      have h2 : elems[i]? = some elems[i] := List.getElem?_eq_getElem (by omega)
      rw [h2] at h1
      obtain ⟨cs', h3, h4⟩ := Option.bind_eq_some_iff.1 h1
      obtain ⟨b, h5, h6⟩ := hd H enc w base spare held n cs' _ h4
      obtain ⟨h7, h8⟩ := cells_get h3
      refine ⟨(b, cs'), h5, h6, by rw [h7]; exact hsz, fun j u hj => ?_⟩
      have h9 := h8 j u hj
      rw [hsz] at h9
      have ha : (a.add (i * d.sz)).add j = a.add (i * d.sz + j) := by
        unfold Addr.add
        by_cases h1 : i * d.sz = 0 <;> by_cases h2 : j = 0 <;> simp [h1, h2, Nat.add_assoc]
      rw [← ha]
      exact h9
    let f : Fin len → α × List Value := fun i => Classical.choose (hone i)
    have hf : ∀ i, d.K w (f i).1 (f i).2 ∧ good (f i).1 ∧ (f i).2.length = d.sz ∧ ∀ j u, (f i).2[j]? = some u → w.cell? (a.add (i.1 * d.sz + j)) = some u := fun i => Classical.choose_spec (hone i)
    refine ⟨List.ofFn (fun i => (f i).1), ⟨some a, cap, by rw [List.length_ofFn], by rw [List.length_ofFn]; exact hl, rfl, ?_, fun _ => ⟨a, rfl, ?_⟩⟩, ?_, ?_⟩
    · rw [List.length_ofFn]; unfold maxLen at hm; omega
    · intro j p hp
      rw [List.getElem?_ofFn] at hp
      split at hp
      · rename_i hj
        injection hp with hp
        subst hp
        obtain ⟨h1, _, h3, h4⟩ := hf ⟨j, hj⟩
        exact ⟨_, h3, h1, h4⟩
      · cases hp
    · rw [List.length_ofFn]; unfold maxLen at hm; omega
    · intro y hy
      rw [List.mem_ofFn] at hy
      obtain ⟨i, rfl⟩ := hy
      exact (hf i).2.1
def LiftsAt {α : Type} (P : Program) (d : Kd α) (fs : List Field) (o : Nat) (good : α → Prop) : Prop :=
  ∀ (H : Type) (enc : TypeId × Value → H) (w : World) (base : Nat) (spare : Nat → Bool) (held : Bool) (fuel : Nat) (cs : List Value),
    (∀ f ∈ fs, ∃ x, DataW.trod enc P w base spare held fuel f.type ((cs.drop f.offset).take (P.cellsOf f.type)) = some x) → ∃ a : α, d.K w a ((cs.drop o).take d.sz) ∧ good a
theorem lift_last {α : Type} {P : Program} {d : Kd α} {f : Field} {o : Nat} {good : α → Prop} (ho : f.offset = o) (hsz : P.cellsOf f.type = d.sz) (hd : Lifts P d f.type good) : LiftsAt P d [f] o good := by
  intro H enc w base spare held fuel cs h
  obtain ⟨x, hx⟩ := h f (by simp)
  rw [ho, hsz] at hx
  exact hd H enc w base spare held fuel _ x hx
theorem lift_cons {α β : Type} {P : Program} {d : Kd α} {d' : Kd β} {f : Field} {fs : List Field} {o o' : Nat} {good : α → Prop} {good' : β → Prop} (ho : f.offset = o) (hsz : P.cellsOf f.type = d.sz) (hd : Lifts P d f.type good)
    (ho' : o + d.sz = o') (hd' : LiftsAt P d' fs o' good') : LiftsAt P (Kd.pair d d') (f :: fs) o (fun p => good p.1 ∧ good' p.2) := by
  intro H enc w base spare held fuel cs h
  obtain ⟨x, hx⟩ := h f (by simp)
  rw [ho, hsz] at hx
  obtain ⟨a, ha, ga⟩ := hd H enc w base spare held fuel _ x hx
  obtain ⟨b, hb, gb⟩ := hd' H enc w base spare held fuel cs (fun g hg => h g (by simp [hg]))
  refine ⟨(a, b), ⟨_, _, ?_, ha, hb⟩, ga, gb⟩
  show (cs.drop o).take (d.sz + d'.sz) = _
  rw [List.take_add, List.drop_drop, ho']
theorem lift_struct {α : Type} {P : Program} {d : Kd α} {t : TypeId} {fs : Array Field} {good : α → Prop} (hu : P.underlying t = some (.struct fs)) (hC : P.cellsOf t = d.sz) (hd : LiftsAt P d fs.toList 0 good) : Lifts P d t good := by
  intro H enc w base spare held fuel cs x h
  obtain ⟨xs, n, _, _, hl, hxs, hat⟩ := DataW.trod_struct hu h
  obtain ⟨a, ha, ga⟩ := hd H enc w base spare held n cs (fun f hf => by
    obtain ⟨i, hi⟩ := List.getElem?_of_mem hf
    have hi' : fs[i]? = some f := by simpa using hi
    have h1 := hat i f hi'
    have hlt : i < xs.length := by
      have := (Array.getElem?_eq_some_iff.1 hi').1
      omega
    rw [List.getElem?_eq_getElem hlt] at h1
    exact ⟨_, h1⟩)
  refine ⟨a, ?_, ga⟩
  have : (cs.drop 0).take d.sz = cs := by rw [List.drop_zero, List.take_of_length_le (by omega)]
  rw [this] at ha
  exact ha
theorem lift_iso {α β : Type} {P : Program} {d : Kd α} {t : TypeId} {good : α → Prop} (f : β → α) (g : α → β) (hfg : ∀ x, f (g x) = x) (hd : Lifts P d t good) : Lifts P (Kd.iso d f) t (fun y => good (f y)) := by
  intro H enc w base spare held fuel cs x h
  obtain ⟨a, ha, ga⟩ := hd H enc w base spare held fuel cs x h
  refine ⟨g a, ?_, ?_⟩
  · show d.K w (f (g a)) cs
    rw [hfg]
    exact ha
  · show good (f (g a))
    rw [hfg]
    exact ga
end Go.Proofs.YtmngaagojkihbaaGreatX
