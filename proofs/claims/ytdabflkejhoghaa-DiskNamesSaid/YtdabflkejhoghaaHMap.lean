/- A map of files, as a list by rising names. -/
import Derived.Maps.OwnSet
import Derived.Maps.RangeWalk
import Derived.RowKit
import Derived.Test.YtdabflkejhoghaaHDko
namespace Go.Proofs.Ytdabflkejhoghaa.Hand
open Go Go.RowKit
set_option linter.unusedVariables false
/-- An element of a map reads as itself. -/
def heldR (v : Value) : Option (DataW Value × List MemPlace) := some (.held v, [])
/-- A file, and the value that stands for it. -/
abbrev G := F × Value
def gname (g : G) : List UInt8 := g.1.name
def ent (g : G) : Lit × DataW Value := (.string g.1.name, .held g.2)
def entsD (gs : List G) : DataW Value := .map (gs.map ent)
theorem insert_ents (g : G) : ∀ gs : List G, DataW.insert (ent g) (gs.map ent) = (insBy gname g gs).map ent
  | [] => rfl
  | y :: r => by
    simp only [List.map_cons, DataW.insert, insBy]
    have : (ent g).1.before (ent y).1 = bytesBefore (gname g) (gname y) := rfl
    rw [this]
    split
    · rfl
    · simp [insert_ents g r]
theorem del_filter (k : List UInt8) (gs : List G) : (gs.map ent).filter (fun p => !p.1.sameKey (.string k)) = (delBy gname k gs).map ent := by
  unfold delBy
  rw [List.filter_map]
  rfl
theorem put_ents (g : G) (gs : List G) : (entsD gs).put (.string g.1.name) (.held g.2) = entsD (putBy gname g gs) := by
  show DataW.map (DataW.insert (ent g) ((gs.map ent).filter fun p => !p.1.sameKey (.string g.1.name))) = _
  rw [del_filter, insert_ents]
  rfl
theorem put_ents' (g : G) (gs : List G) (k : List UInt8) (v : Value) (hk : k = g.1.name) (hv : v = g.2) : (entsD gs).put (.string k) (.held v) = entsD (putBy gname g gs) := by
  subst hk hv; exact put_ents g gs
theorem del_ents (k : List UInt8) (gs : List G) : (entsD gs).del (.string k) = entsD (delBy gname k gs) := by
  show DataW.map ((gs.map ent).filter fun p => !p.1.sameKey (.string k)) = _
  rw [del_filter]
  rfl
theorem has_ents (k : List UInt8) (gs : List G) : Maps.has (entsD gs) (.string k) = (lookBy gname k gs).isSome := by
  show (gs.map ent).any _ = (gs.find? _).isSome
  rw [List.any_map, Bool.eq_iff_iff, List.find?_isSome, List.any_eq_true]
  rfl
theorem atKey_ents (k : List UInt8) (gs : List G) (zd : DataW Value) : (entsD gs).atKey (.string k) zd = match lookBy gname k gs with | some g => .held g.2 | none => zd := by
  have e : (gs.map ent).find? (fun p => p.1.sameKey (.string k)) = (lookBy gname k gs).map ent := by rw [List.find?_map]; rfl
  unfold entsD DataW.atKey
  simp only [e]
  cases lookBy gname k gs <;> rfl
theorem size_ents (gs : List G) : Maps.size (entsD gs) = gs.length := by simp [entsD, Maps.size_eq]
/-- the bound on a map's entries, made sharp -/
theorem ownsMap_sharp {w : World} {P : Program} {k : TypeId} {R : Value → Option (DataW Value × List MemPlace)} {b n : Nat} {D : DataW Value} (h : w.ownsMap P k R b n D) : w.ownsMap P k R b (Maps.size D) D := by
  obtain ⟨es, clock, hb, F, hs, rfl⟩ := h
  exact ⟨es, clock, hb, F, by simp [Maps.size, length_sorted], rfl⟩
theorem ownsMap_ents {w : World} {P : Program} {k : TypeId} {b n : Nat} {gs : List G} (h : w.ownsMap P k heldR b n (entsD gs)) : w.ownsMap P k heldR b gs.length (entsD gs) := by
  have := ownsMap_sharp h
  rwa [size_ents] at this
end Go.Proofs.Ytdabflkejhoghaa.Hand
