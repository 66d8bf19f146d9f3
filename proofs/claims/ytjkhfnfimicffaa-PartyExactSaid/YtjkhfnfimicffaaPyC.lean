/- What the maps of keys and of waiters hold, plainly. -/
import Derived.Test.YtjkhfnfimicffaaPyA
set_option linter.unusedSimpArgs false
set_option linter.unusedVariables false
set_option linter.unusedSectionVars false
namespace Go.Proofs.Ytjkhfnfimicffaa
namespace Py
def kfOf (fs : List Fl) (k : Ky) : Option Int := (find k fs).map Fl.id
def wfOf (fs : List Fl) (x : Int) : Option Int := (wh x fs).map Fl.id
section
variable {fs : List Fl}
theorem wf_iff (ho : (fs.flatMap Fl.who).Nodup) {y i : Int} : wfOf fs y = some i ↔ ∃ f ∈ fs, f.id = i ∧ y ∈ f.who := by
  unfold wfOf
  constructor
  · intro h
    obtain ⟨f, hf, rfl⟩ := Option.map_eq_some_iff.1 h
    exact ⟨f, (wh_some hf).1, rfl, (wh_some hf).2⟩
  · rintro ⟨f, hf, rfl, hy⟩
    rw [wh_of ho hf hy]; rfl
theorem kf_iff (hk : (fs.map Fl.key).Nodup) {k : Ky} {i : Int} : kfOf fs k = some i ↔ ∃ f ∈ fs, f.id = i ∧ f.key = k := by
  unfold kfOf
  constructor
  · intro h
    obtain ⟨f, hf, rfl⟩ := Option.map_eq_some_iff.1 h
    exact ⟨f, (find_some hf).1, rfl, (find_some hf).2⟩
  · rintro ⟨f, hf, rfl, rfl⟩
    rw [find_of hk hf]; rfl
theorem opt_ext {a b : Option Int} (h : ∀ i, a = some i ↔ b = some i) : a = b := by
  cases a with
  | none =>
    cases b with
    | none => rfl
    | some j => exact absurd ((h j).2 rfl) (by simp)
  | some i => rw [(h i).1 rfl]
end
section
variable {p : P} (h : Good p)
include h
theorem kf_upd {i : Int} {w : List Int} : kfOf (upd i w p.fs) = kfOf p.fs := by
  funext k
  refine opt_ext fun j => ?_
  rw [kf_iff (by rw [key_upd]; exact h.keys), kf_iff h.keys]
  constructor
  · rintro ⟨f, hf, rfl, rfl⟩
    obtain ⟨g, hg, rfl⟩ := mem_upd hf
    refine ⟨g, hg, ?_⟩
    split <;> exact ⟨rfl, rfl⟩
  · rintro ⟨f, hf, rfl, rfl⟩
    refine ⟨_, List.mem_map.2 ⟨f, hf, rfl⟩, ?_⟩
    split <;> exact ⟨rfl, rfl⟩
theorem wf_add {f : Fl} (hf : f ∈ p.fs) {x : Int} (hx : ∀ g ∈ p.fs, x ∉ g.who) (h' : Good { p with fs := upd f.id (f.who ++ [x]) p.fs }) :
    wfOf (upd f.id (f.who ++ [x]) p.fs) = fun y => if y = x then some f.id else wfOf p.fs y := by
  funext y
  refine opt_ext fun j => ?_
  rw [wf_iff h'.one]
  by_cases hy : y = x
  · subst hy
    rw [if_pos rfl]
    constructor
    · rintro ⟨g, hg, rfl, hyg⟩
      obtain ⟨c, hc, rfl⟩ := mem_upd hg
      by_cases hci : c.id = f.id
      · rw [if_pos hci, hci]
      · rw [if_neg hci] at hyg
        exact absurd hyg (hx c hc)
    · intro e
      injection e with e
      subst e
      refine ⟨{ f with who := f.who ++ [y] }, List.mem_map.2 ⟨f, hf, if_pos rfl⟩, rfl, by simp⟩
  · rw [if_neg hy, wf_iff h.one]
    constructor
    · rintro ⟨g, hg, rfl, hyg⟩
      obtain ⟨c, hc, rfl⟩ := mem_upd hg
      by_cases hci : c.id = f.id
      · rw [if_pos hci] at hyg ⊢
        have : c = f := up_same h.up hc hf hci
        subst this
        refine ⟨c, hc, rfl, ?_⟩
        have := hyg
        simp [hy] at this
        exact this
      · rw [if_neg hci] at hyg ⊢
        exact ⟨c, hc, rfl, hyg⟩
    · rintro ⟨c, hc, rfl, hyc⟩
      refine ⟨_, List.mem_map.2 ⟨c, hc, rfl⟩, ?_⟩
      by_cases hci : c.id = f.id
      · rw [if_pos hci]
        have : c = f := up_same h.up hc hf hci
        subst this
        exact ⟨rfl, List.mem_append.2 (.inl hyc)⟩
      · rw [if_neg hci]
        exact ⟨rfl, hyc⟩
theorem wf_less {f : Fl} (hf : f ∈ p.fs) {x : Int} (hx : x ∈ f.who) (h' : Good { p with fs := upd f.id (f.who.filter fun y => y ≠ x) p.fs }) :
    wfOf (upd f.id (f.who.filter fun y => y ≠ x) p.fs) = fun y => if y = x then none else wfOf p.fs y := by
  funext y
  refine opt_ext fun j => ?_
  rw [wf_iff h'.one]
  by_cases hy : y = x
  · subst hy
    rw [if_pos rfl]
    constructor
    · rintro ⟨g, hg, rfl, hyg⟩
      obtain ⟨c, hc, rfl⟩ := mem_upd hg
      by_cases hci : c.id = f.id
      · rw [if_pos hci] at hyg
        simp at hyg
      · rw [if_neg hci] at hyg
        rw [who_same h.one hc hf hyg hx] at hci
        exact absurd rfl hci
    · intro e; cases e
  · rw [if_neg hy, wf_iff h.one]
    constructor
    · rintro ⟨g, hg, rfl, hyg⟩
      obtain ⟨c, hc, rfl⟩ := mem_upd hg
      by_cases hci : c.id = f.id
      · rw [if_pos hci] at hyg ⊢
        have : c = f := up_same h.up hc hf hci
        subst this
        exact ⟨c, hc, rfl, (List.mem_filter.1 hyg).1⟩
      · rw [if_neg hci] at hyg ⊢
        exact ⟨c, hc, rfl, hyg⟩
    · rintro ⟨c, hc, rfl, hyc⟩
      refine ⟨_, List.mem_map.2 ⟨c, hc, rfl⟩, ?_⟩
      by_cases hci : c.id = f.id
      · rw [if_pos hci]
        have : c = f := up_same h.up hc hf hci
        subst this
        exact ⟨rfl, List.mem_filter.2 ⟨hyc, by simpa using hy⟩⟩
      · rw [if_neg hci]
        exact ⟨rfl, hyc⟩
theorem wf_del {f : Fl} (hf : f ∈ p.fs) : wfOf (del f.id p.fs) = fun y => if y ∈ f.who then none else wfOf p.fs y := by
  funext y
  refine opt_ext fun j => ?_
  rw [wf_iff (h.del_ f.id).one]
  by_cases hy : y ∈ f.who
  · rw [if_pos hy]
    constructor
    · rintro ⟨g, hg, rfl, hyg⟩
      have hg := mem_del.1 hg
      rw [who_same h.one hg.1 hf hyg hy] at hg
      exact absurd rfl hg.2
    · intro e; cases e
  · rw [if_neg hy, wf_iff h.one]
    constructor
    · rintro ⟨g, hg, rfl, hyg⟩
      exact ⟨g, (mem_del.1 hg).1, rfl, hyg⟩
    · rintro ⟨g, hg, rfl, hyg⟩
      refine ⟨g, mem_del.2 ⟨hg, fun e => ?_⟩, rfl, hyg⟩
      rw [up_same h.up hg hf e] at hyg
      exact hy hyg
theorem kf_del {f : Fl} (hf : f ∈ p.fs) : kfOf (del f.id p.fs) = fun k => if k = f.key then none else kfOf p.fs k := by
  funext k
  refine opt_ext fun j => ?_
  rw [kf_iff (h.del_ f.id).keys]
  by_cases hk : k = f.key
  · subst hk
    rw [if_pos rfl]
    constructor
    · rintro ⟨g, hg, rfl, hkg⟩
      have hg := mem_del.1 hg
      rw [key_same h.keys hg.1 hf hkg] at hg
      exact absurd rfl hg.2
    · intro e; cases e
  · rw [if_neg hk, kf_iff h.keys]
    constructor
    · rintro ⟨g, hg, rfl, hkg⟩
      exact ⟨g, (mem_del.1 hg).1, rfl, hkg⟩
    · rintro ⟨g, hg, rfl, hkg⟩
      refine ⟨g, mem_del.2 ⟨hg, fun e => ?_⟩, rfl, hkg⟩
      rw [up_same h.up hg hf e] at hkg
      exact hk hkg.symm
theorem kf_app {k : Ky} {i : Int} {w : List Int} (hk : ∀ g ∈ p.fs, g.key ≠ k) : kfOf (p.fs ++ [⟨i, k, w⟩]) = fun c => if c = k then some i else kfOf p.fs c := by
  funext c
  have hn : ((p.fs ++ [(⟨i, k, w⟩ : Fl)]).map Fl.key).Nodup := by
    rw [List.map_append, List.nodup_append]
    refine ⟨h.keys, by simp, fun a ha b hb => ?_⟩
    obtain ⟨g, hg, rfl⟩ := List.mem_map.1 ha
    simp at hb
    rw [hb]
    exact hk g hg
  refine opt_ext fun j => ?_
  rw [kf_iff hn]
  by_cases hc : c = k
  · subst hc
    rw [if_pos rfl]
    constructor
    · rintro ⟨g, hg, rfl, hkg⟩
      rcases List.mem_append.1 hg with hg | hg
      · exact absurd hkg (hk g hg)
      · rw [List.mem_singleton.1 hg]
    · intro e
      injection e with e
      exact ⟨_, List.mem_append.2 (.inr (List.mem_singleton.2 rfl)), e, rfl⟩
  · rw [if_neg hc, kf_iff h.keys]
    constructor
    · rintro ⟨g, hg, rfl, hkg⟩
      rcases List.mem_append.1 hg with hg | hg
      · exact ⟨g, hg, rfl, hkg⟩
      · rw [List.mem_singleton.1 hg] at hkg
        exact absurd hkg.symm hc
    · rintro ⟨g, hg, rfl, hkg⟩
      exact ⟨g, List.mem_append.2 (.inl hg), rfl, hkg⟩
theorem wf_app {k : Ky} {i x : Int} (hx : ∀ g ∈ p.fs, x ∉ g.who) : wfOf (p.fs ++ [⟨i, k, [x]⟩]) = fun y => if y = x then some i else wfOf p.fs y := by
  funext y
  have hn : ((p.fs ++ [(⟨i, k, [x]⟩ : Fl)]).flatMap Fl.who).Nodup := by
    rw [List.flatMap_append, List.nodup_append]
    refine ⟨h.one, by simp, fun a ha b hb e => ?_⟩
    obtain ⟨g, hg, hag⟩ := List.mem_flatMap.1 ha
    simp at hb
    exact hx g hg (by rw [← hb, ← e]; exact hag)
  refine opt_ext fun j => ?_
  rw [wf_iff hn]
  by_cases hy : y = x
  · subst hy
    rw [if_pos rfl]
    constructor
    · rintro ⟨g, hg, rfl, hyg⟩
      rcases List.mem_append.1 hg with hg | hg
      · exact absurd hyg (hx g hg)
      · rw [List.mem_singleton.1 hg]
    · intro e
      injection e with e
      exact ⟨_, List.mem_append.2 (.inr (List.mem_singleton.2 rfl)), e, by simp⟩
  · rw [if_neg hy, wf_iff h.one]
    constructor
    · rintro ⟨g, hg, rfl, hyg⟩
      rcases List.mem_append.1 hg with hg | hg
      · exact ⟨g, hg, rfl, hyg⟩
      · rw [List.mem_singleton.1 hg] at hyg
        simp at hyg
        exact absurd hyg hy
    · rintro ⟨g, hg, rfl, hyg⟩
      exact ⟨g, List.mem_append.2 (.inl hg), rfl, hyg⟩
end
end Py
end Go.Proofs.Ytjkhfnfimicffaa
