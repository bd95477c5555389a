-- V44.lean: strings.Split, by what is known of its calls; the facts of a table that names a variable. Own work.
import Derived.Test.YtjhbfeeaehaniaaDoorV43
import Derived.Shelf.Strings.Split
import Derived.Shelf.Vars
namespace Go.Proofs.YtjhbfeeaehaniaaDoor.V
open Go Go.RowKit Go.Shelf Go.Proofs

section
variable {P : Program} {T : Tab} {ρ : Ren} {w : World} {S : Nat → Prop}
def splL (s p : List UInt8) : List (List TC) := (Lib.split s p).map fun x => [TC.s x]
theorem own_strs {e : TypeId} (hct : (T e).cts = [.str]) (g : Nat) (xs : List ByteArray) (hl : xs.length ≤ maxLen) (h : Blk w g (xs.map Value.string) e) :
    OwnC T w (.slice e) (.slice (some ⟨g, 0, none⟩) xs.length xs.length) (.l (xs.map fun x => [TC.s x.data.toList])) [g] := by
  have h8 : (T e).cts.length = 1 := by rw [hct]; rfl
  have h0 := OwnC.slice (T := T) (w := w) e g (xs.map fun x => [TC.s x.data.toList]) xs.length (xs.map Value.string) (fun _ => []) (by simp) hl (fun x hx => by
    obtain ⟨j, -, rfl⟩ := List.mem_map.1 hx
    rw [h8]; rfl) h (by rw [h8, Nat.mul_one]; simp) (fun u hu => by
    obtain ⟨j, -, rfl⟩ := List.mem_map.1 hu
    rfl) (fun k hk => by
    rw [List.length_map, h8, Nat.mul_one] at hk
    rw [h8, Nat.mod_one, Nat.div_one, hct]
    have e1 : (xs.map Value.string).getD k undef = .string xs[k] := by
      rw [List.getD_eq_getElem?_getD, List.getElem?_map, List.getElem?_eq_getElem hk]; rfl
    have e2 : nth ((xs.map fun x => [TC.s x.data.toList]).getD k []) 0 = TC.s xs[k].data.toList := by
      rw [List.getD_eq_getElem?_getD, List.getElem?_map, List.getElem?_eq_getElem hk]; rfl
    rw [e1, e2]
    exact OwnC.flat .str _ _ rfl (RepC.str xs[k].data.toList))
  rw [List.length_map] at h0
  have e0 : (g :: (List.range (xs.length * (T e).cts.length)).flatMap fun _ => ([] : List Nat)) = [g] := by simp
  rw [e0] at h0
  exact h0
theorem split_told (L : Lays.n146 P ρ) (hi9 : (P.info? (ρ.t 9)).map (fun i => (i.zero, i.size, i.bytes)) = some (some (.string ByteArray.empty), 1, 16)) (hct : (T (ρ.t 9)).cts = [.str]) (hg : isGl T (ρ.g 1)) (hG : intGl T w)
    {s p : List UInt8} (hs : s.length < 4294967281) (h1 : 1 ≤ p.length) :
    Calls P (ρ.f 146) #[.string ⟨s.toArray⟩, .string ⟨p.toArray⟩] w fun e w' => ∃ v, e = .returned v ∧ PlainRes T w S [(false, [⟨.slice (ρ.t 9), .own true, .l (splL s p)⟩])] v w' := by
  obtain ⟨m, hm⟩ := hG _ hg
  have hz : (⟨s.toArray⟩ : ByteArray).size = s.length := rfl
  have hp : (⟨p.toArray⟩ : ByteArray).size = p.length := rfl
  refine (Any.strings_Split L hi9 ⟨s.toArray⟩ ⟨p.toArray⟩ m w (by rw [hz]; exact hs) hm (by rw [hp]; exact h1)).mono ?_
  rintro e w' ⟨rfl, rfl⟩
  have hlen := Lib.splitB_all ⟨p.toArray⟩ (by rw [hp]; exact h1) 0 _ ⟨s.toArray⟩ rfl
  have hle := Lib.countB_le ⟨p.toArray⟩ (by rw [hp]; exact h1) _ ⟨s.toArray⟩ (Nat.le_refl _)
  rw [hz] at hle
  have hd := Lib.splitB_data ⟨p.toArray⟩ 0 (Lib.countB ⟨s.toArray⟩ ⟨p.toArray⟩) ⟨s.toArray⟩
  have hx : splL s p = (Lib.splitB ⟨p.toArray⟩ 0 (Lib.countB ⟨s.toArray⟩ ⟨p.toArray⟩) ⟨s.toArray⟩).map fun x => [TC.s x.data.toList] := by
    unfold splL Lib.split
    rw [show (fun x : ByteArray => [TC.s x.data.toList]) = (fun l => [TC.s l]) ∘ (fun x : ByteArray => x.data.toList) from rfl, ← List.map_map, hd]
  rw [hx, ← hlen]
  exact ⟨_, rfl, plain_own (own_strs hct _ _ (by rw [hlen]; unfold maxLen; omega) (Blk.alloc w _ _)) (by simp) (fun b hb => by
    rw [List.mem_singleton.1 hb]
    exact ⟨Nat.le_refl _, (Blk.alloc w _ _).lt⟩) ((Below.refl _ _).alloc (Nat.le_refl _) _)⟩
end

theorem Tr.yk {ρ : Type} {c : Prop} {d : Decidable c} {v : ρ} {b : Tr ρ} (h' : ¬c → b.val = some v) : (Tr.br c d (.ok v) b).val = some v := by
  rw [Tr.val_br]
  split
  · rfl
  · rename_i h; exact h' h

theorem gl_ok {P : Program} {T : Tab} {w : World} {g0 : Nat} {t : TypeId} {zero : Array Value} (hk : (T (fnBase + 600000)).kind = .meth (10 + g0)) (h : w.ShapedOpen P) (hg : g0 < P.globals.size)
    (h0 : ((begin P (fun _ _ => 0) default).world.heap[g0]?).bind Obj.row? = some (zero, t)) (hz : zero.size = 1)
    (hb : P.buildable t = true) (hc : P.cellTypes P.depth t = some [t]) (hu : P.underlying t = some (.int .i64)) : intGl T w := fun g k => by
  have : g = g0 := by
    have := hk.symm.trans k
    injection this with h
    omega
  subst this
  exact cell_of_shapedOpen_int h hg h0 hz hb hc hu
end Go.Proofs.YtjhbfeeaehaniaaDoor.V
