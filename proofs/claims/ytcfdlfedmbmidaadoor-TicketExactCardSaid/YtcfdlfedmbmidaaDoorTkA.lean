/- Tickets, and what is known of tags, plainly. -/
import Derived.Test.YtcfdlfedmbmidaaDoorNamed
set_option linter.unusedSimpArgs false
set_option linter.unusedVariables false
set_option linter.unusedSectionVars false
namespace Go.Proofs.YtcfdlfedmbmidaaDoor
open Nmd (Nm Up)
namespace Tk
structure T where
  repo : List UInt8
  tag : List UInt8
  found : Bool
  dig : List UInt8
  typ : List UInt8
  size : Int
  at_ : Int
deriving DecidableEq
/-- a repository and a tag, as one name -/
def pair (r t : List UInt8) : Nm := (r.flatMap fun b => [1, b]) ++ 0 :: t
def nm (x : T) : Nm := pair x.repo x.tag
theorem pair_lt {r r' t t' : List UInt8} : pair r t < pair r' t' ↔ r < r' ∨ (r = r' ∧ t < t') := by
  unfold pair
  induction r generalizing r' with
  | nil =>
    cases r' with
    | nil => simp [List.cons_lt_cons_iff]
    | cons c r' => simp [List.cons_lt_cons_iff]
  | cons b r ih =>
    cases r' with
    | nil => simp [List.cons_lt_cons_iff]
    | cons c r' =>
      rw [List.flatMap_cons, List.flatMap_cons, List.append_assoc, List.append_assoc]
      show (1 :: b :: (r.flatMap (fun b => [1, b]) ++ 0 :: t) : List UInt8) < 1 :: c :: (r'.flatMap (fun b => [1, b]) ++ 0 :: t') ↔ _
      rw [List.cons_lt_cons_iff, List.cons_lt_cons_iff, List.cons_lt_cons_iff, ih, List.cons.injEq]
      constructor
      · rintro (h | ⟨_, h | ⟨rfl, h | ⟨rfl, h⟩⟩⟩)
        · exact absurd h (by decide)
        · exact .inl (.inl h)
        · exact .inl (.inr ⟨rfl, h⟩)
        · exact .inr ⟨⟨rfl, rfl⟩, h⟩
      · rintro ((h | ⟨rfl, h⟩) | ⟨⟨rfl, rfl⟩, h⟩)
        · exact .inr ⟨rfl, .inl h⟩
        · exact .inr ⟨rfl, .inr ⟨rfl, .inl h⟩⟩
        · exact .inr ⟨rfl, .inr ⟨rfl, .inr ⟨rfl, h⟩⟩⟩
theorem pair_inj {r r' t t' : List UInt8} : pair r t = pair r' t' ↔ r = r' ∧ t = t' := by
  unfold pair
  induction r generalizing r' with
  | nil =>
    cases r' with
    | nil => simp
    | cons c r' => simp
  | cons b r ih =>
    cases r' with
    | nil => simp
    | cons c r' =>
      rw [List.flatMap_cons, List.flatMap_cons, List.append_assoc, List.append_assoc]
      show (1 :: b :: (r.flatMap (fun b => [1, b]) ++ 0 :: t) : List UInt8) = 1 :: c :: (r'.flatMap (fun b => [1, b]) ++ 0 :: t') ↔ _
      rw [List.cons.injEq, List.cons.injEq, ih, List.cons.injEq]
      constructor
      · rintro ⟨_, rfl, rfl, rfl⟩; exact ⟨⟨rfl, rfl⟩, rfl⟩
      · rintro ⟨⟨rfl, rfl⟩, rfl⟩; exact ⟨rfl, rfl, rfl, rfl⟩
/-- how two names compare -/
def cmpB (a b : List UInt8) : Int := if a < b then -1 else if b < a then 1 else 0
def cmpN (a b : Nm) : Int := cmpB a b
def byTag (x y : T) : Int := if cmpB x.repo y.repo ≠ 0 then cmpB x.repo y.repo else cmpB x.tag y.tag
theorem cmpB_zero {a b : List UInt8} : cmpB a b = 0 ↔ a = b := by
  unfold cmpB
  constructor
  · intro h
    by_cases h1 : a < b
    · rw [if_pos h1] at h; cases h
    · rw [if_neg h1] at h
      by_cases h2 : b < a
      · rw [if_pos h2] at h; cases h
      · exact List.le_antisymm (List.not_lt.1 h2) (List.not_lt.1 h1)
  · rintro rfl
    rw [if_neg (List.lt_irrefl a), if_neg (List.lt_irrefl a)]
theorem cmpB_neg {a b : List UInt8} : cmpB a b < 0 ↔ a < b := by
  unfold cmpB
  constructor
  · intro h
    by_cases h1 : a < b
    · exact h1
    · rw [if_neg h1] at h
      by_cases h2 : b < a
      · rw [if_pos h2] at h; omega
      · rw [if_neg h2] at h; omega
  · intro h; rw [if_pos h]; omega
theorem byTag_zero {x y : T} : byTag x y = 0 ↔ nm x = nm y := by
  unfold byTag nm
  rw [pair_inj]
  by_cases h : cmpB x.repo y.repo = 0
  · rw [if_neg (by simp [h]), cmpB_zero]
    exact ⟨fun h1 => ⟨cmpB_zero.1 h, h1⟩, fun h1 => h1.2⟩
  · rw [if_pos h]
    exact ⟨fun h1 => absurd h1 h, fun h1 => absurd (cmpB_zero.2 h1.1) h⟩
theorem byTag_neg {x y : T} : byTag x y < 0 ↔ nm x < nm y := by
  unfold byTag nm
  rw [pair_lt]
  by_cases h : cmpB x.repo y.repo = 0
  · rw [if_neg (by simp [h]), cmpB_neg]
    have := cmpB_zero.1 h
    exact ⟨fun h1 => .inr ⟨this, h1⟩, fun h1 => h1.elim (fun h2 => absurd h2 (by rw [this]; exact List.lt_irrefl _)) fun h2 => h2.2⟩
  · rw [if_pos h, cmpB_neg]
    exact ⟨.inl, fun h1 => h1.elim id fun h2 => absurd (cmpB_zero.2 h2.1) h⟩
/-- the first of the oldest -/
def older (o : Option T) (y : T) : Option T := match o with
  | none => some y
  | some z => if y.at_ < z.at_ then some y else some z
def oldest (l : List T) : Option T := l.foldl older none
structure P where
  l : List T
  most : Int
def P.get (p : P) (n : Nm) : Option T := Nmd.get nm n p.l
def P.drop (p : P) (n : Nm) : Bool × P := ((p.get n).isSome, { p with l := Nmd.del nm n p.l })
def P.put (p : P) (x : T) : Option T × P :=
  match p.get (nm x) with
  | some _ => (none, { p with l := Nmd.upd nm x p.l })
  | none =>
    if (p.l.length : Int) < p.most then (none, { p with l := Nmd.ins nm x p.l })
    else match oldest p.l with
      | none => (none, { p with l := Nmd.ins nm x p.l })
      | some g => (some g, { p with l := Nmd.ins nm x (Nmd.del nm (nm g) p.l) })
structure Good (p : P) : Prop where
  up : Up nm p.l
  most : (p.l.length : Int) ≤ p.most
  pos : 1 ≤ p.most
theorem older_mem {o : Option T} {y z : T} (h : older o y = some z) : z = y ∨ o = some z := by
  unfold older at h
  cases o with
  | none => injection h with h; exact .inl h.symm
  | some u =>
    dsimp only at h
    split at h
    · injection h with h; exact .inl h.symm
    · exact .inr h
theorem foldl_older {l : List T} {o : Option T} {z : T} (h : l.foldl older o = some z) : z ∈ l ∨ o = some z := by
  induction l generalizing o with
  | nil => exact .inr h
  | cons y l ih =>
    rw [List.foldl_cons] at h
    rcases ih h with h1 | h1
    · exact .inl (List.mem_cons_of_mem _ h1)
    · rcases older_mem h1 with rfl | h2
      · exact .inl List.mem_cons_self
      · exact .inr h2
theorem oldest_mem {l : List T} {z : T} (h : oldest l = some z) : z ∈ l := (foldl_older h).elim id fun h1 => by cases h1
theorem get_self {l : List T} (h : Up nm l) {x : T} (hx : x ∈ l) : Nmd.get nm (nm x) l = some x := by
  cases h1 : Nmd.get nm (nm x) l with
  | none => exact absurd rfl (Nmd.get_none h1 x hx)
  | some y => rw [h.same y (Nmd.get_mem h1).1 x hx (Nmd.get_mem h1).2]
theorem Good.put {p : P} (h : Good p) (x : T) : Good (p.put x).2 := by
  unfold P.put
  cases hg : p.get (nm x) with
  | some y => exact ⟨h.up.upd x, by show ((Nmd.upd nm x p.l).length : Int) ≤ p.most; rw [Nmd.length_upd]; exact h.most, h.pos⟩
  | none =>
    have hn := Nmd.get_none hg
    dsimp only
    split
    · rename_i hl
      exact ⟨h.up.ins hn, by show ((Nmd.ins nm x p.l).length : Int) ≤ p.most; rw [Nmd.length_ins]; omega, h.pos⟩
    · rename_i hl
      cases ho : oldest p.l with
      | none =>
        exfalso
        cases hl2 : p.l with
        | nil => rw [hl2] at hl; have := h.pos; simp at hl; omega
        | cons y l =>
          rw [hl2] at ho
          unfold oldest at ho
          have : ∀ (l : List T) (z : T), l.foldl older (some z) ≠ none := fun l => by
            induction l with
            | nil => intro z e; cases e
            | cons y l ih =>
              intro z
              rw [List.foldl_cons]
              unfold older
              dsimp only
              split
              · exact ih _
              · exact ih _
          exact this l y ho
      | some g =>
        have hg1 := oldest_mem ho
        have hd := Nmd.length_del h.up (get_self h.up hg1)
        refine ⟨(h.up.del _).ins fun y hy => hn y (Nmd.mem_del.1 hy).1, ?_, h.pos⟩
        show ((Nmd.ins nm x (Nmd.del nm (nm g) p.l)).length : Int) ≤ p.most
        rw [Nmd.length_ins, hd]
        exact h.most
theorem Good.drop {p : P} (h : Good p) (n : Nm) : Good (p.drop n).2 :=
  ⟨h.up.del n, by show ((Nmd.del nm n p.l).length : Int) ≤ p.most; have := List.length_filter_le (fun y => !(nm y == n)) p.l; have := h.most; unfold Nmd.del; omega, h.pos⟩
end Tk
end Go.Proofs.YtcfdlfedmbmidaaDoor
