/- Places of flights in their row, plainly. -/
import Derived.Test.YtjkhfnfimicffaaPyC
set_option linter.unusedSimpArgs false
set_option linter.unusedVariables false
set_option linter.unusedSectionVars false
namespace Go.Proofs.Ytjkhfnfimicffaa
namespace Py
def plI (o : Option Nat) : Int := match o with
  | none => -1
  | some k => (k : Int)
def pWh (x : Int) (fs : List Fl) : Option Nat := fs.findIdx? fun f => f.who.contains x
def pKey (k : Ky) (fs : List Fl) : Option Nat := fs.findIdx? fun f => f.key = k
def pAt (i : Int) (fs : List Fl) : Option Nat := fs.findIdx? fun f => f.id = i
theorem idx_none {q : Fl → Bool} {fs : List Fl} (h : ∀ j (hj : j < fs.length), q fs[j] = false) : fs.findIdx? q = none := by
  rw [List.findIdx?_eq_none_iff]
  intro f hf
  obtain ⟨j, hj, rfl⟩ := List.getElem_of_mem hf
  exact h j hj
theorem idx_some {q : Fl → Bool} {fs : List Fl} {i : Nat} (hi : i < fs.length) (hq : q fs[i] = true) (h : ∀ j (hj : j < fs.length), j < i → q fs[j] = false) : fs.findIdx? q = some i := by
  rw [List.findIdx?_eq_some_iff_getElem]
  exact ⟨hi, hq, fun j hj => by rw [h j (by omega) hj]; exact Bool.false_ne_true⟩
theorem find_idx {q : Fl → Bool} {fs : List Fl} : fs.find? q = (fs.findIdx? q).bind fun i => fs[i]? := by
  cases h : fs.findIdx? q with
  | none =>
    rw [List.findIdx?_eq_none_iff] at h
    rw [Option.bind_none, List.find?_eq_none]
    intro f hf
    rw [h f hf]; exact Bool.false_ne_true
  | some i =>
    rw [List.findIdx?_eq_some_iff_getElem] at h
    obtain ⟨hi, hq, h⟩ := h
    rw [Option.bind_some, List.getElem?_eq_getElem hi, List.find?_eq_some_iff_getElem]
    exact ⟨hq, i, hi, rfl, fun j hj => by simpa using h j hj⟩
theorem idx_lt {q : Fl → Bool} {fs : List Fl} {i : Nat} (h : fs.findIdx? q = some i) : i < fs.length := by
  rw [List.findIdx?_eq_some_iff_getElem] at h
  exact h.1
section
variable {fs : List Fl}
theorem wh_idx {x : Int} : wh x fs = (pWh x fs).bind fun i => fs[i]? := find_idx
theorem key_idx {k : Ky} : find k fs = (pKey k fs).bind fun i => fs[i]? := find_idx
theorem at_idx {i : Int} : at_ i fs = (pAt i fs).bind fun i => fs[i]? := find_idx
theorem id_ne (hu : (fs.map Fl.id).Pairwise (· < ·)) {i j : Nat} (hi : i < fs.length) (hj : j < fs.length) (h : i ≠ j) : fs[i].id ≠ fs[j].id := by
  have hp := List.pairwise_iff_getElem.1 hu
  intro e
  rcases Nat.lt_or_gt_of_ne h with h1 | h1
  · have := hp i j (by simpa using hi) (by simpa using hj) h1
    simp only [List.getElem_map] at this
    omega
  · have := hp j i (by simpa using hj) (by simpa using hi) h1
    simp only [List.getElem_map] at this
    omega
theorem upd_set (hu : (fs.map Fl.id).Pairwise (· < ·)) {i : Nat} (hi : i < fs.length) (w : List Int) : upd fs[i].id w fs = fs.set i { fs[i] with who := w } := by
  unfold upd
  refine List.ext_getElem (by simp) fun j h1 h2 => ?_
  rw [List.getElem_map, List.getElem_set]
  have hj : j < fs.length := by simpa using h1
  by_cases hij : i = j
  · subst hij
    rw [if_pos rfl, if_pos rfl]
  · rw [if_neg (id_ne hu hj hi fun e => hij e.symm), if_neg hij]
theorem del_erase (hu : (fs.map Fl.id).Pairwise (· < ·)) {i : Nat} (hi : i < fs.length) : del fs[i].id fs = fs.take i ++ fs.drop (i + 1) := by
  unfold del
  have e : fs = fs.take i ++ fs[i] :: fs.drop (i + 1) := by rw [← List.drop_eq_getElem_cons hi, List.take_append_drop]
  have h1 : ∀ f ∈ fs.take i, f.id ≠ fs[i].id := fun f hf => by
    obtain ⟨j, hj, rfl⟩ := List.getElem_of_mem hf
    rw [List.length_take] at hj
    rw [List.getElem_take]
    exact id_ne hu (by omega) hi (by omega)
  have h2 : ∀ f ∈ fs.drop (i + 1), f.id ≠ fs[i].id := fun f hf => by
    obtain ⟨j, hj, rfl⟩ := List.getElem_of_mem hf
    rw [List.length_drop] at hj
    rw [List.getElem_drop]
    exact id_ne hu (by omega) hi (by omega)
  generalize fs[i] = g at *
  conv => lhs; rw [e]
  rw [List.filter_append, List.filter_cons_of_neg (by simp), List.filter_eq_self.2 fun f hf => by simpa using h1 f hf, List.filter_eq_self.2 fun f hf => by simpa using h2 f hf]
end
end Py
end Go.Proofs.Ytjkhfnfimicffaa
