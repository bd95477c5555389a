import Derived.Test.YthhmamgpcojooaaDoorV40
import Derived.Shelf.SlicesE.Clone
namespace Go.Proofs.YthhmamgpcojooaaDoor.V
open Go Go.RowKit Go.Shelf

section
variable {P : Program} {ρ : Ren} {T : Tab} {S : Nat → Prop}

theorem plain_slice {w w' : World} {e : TypeId} {deep : Bool} {xs : List (List TC)} {v : Value} {fq : List Nat} (h : CellRel T w' (fun b => b < w'.heap.size ∧ (S b ∨ w.heap.size ≤ b) ∧ b ∉ fq) ⟨.slice e, .own deep, .l xs⟩ v fq) (hn : fq.Nodup) (hf : ∀ b, b ∈ fq → w.heap.size ≤ b ∧ b < w'.heap.size) (hb : Below w.heap.size w w') :
    PlainRes T w S [(false, [⟨.slice e, .own deep, .l xs⟩])] v w' := by
  have hc : CellsRel T w' (fun b => b < w'.heap.size ∧ (S b ∨ w.heap.size ≤ b) ∧ b ∉ fq) [⟨.slice e, .own deep, .l xs⟩] [v] (fq ++ []) := .cons (fp := fq) (fp' := []) h .nil
  rw [List.append_nil] at hc
  refine ⟨fq, ⟨⟨[v], rfl, hc, fun _ => rfl⟩, fun x hx => ?_⟩, hn, hf, hb⟩
  rw [List.mem_singleton.1 hx]; rfl
theorem Chg.belowN {a b : World} {gs : List Nat} {n : Nat} (h : Chg a b gs) (hg : ∀ g, g ∈ gs → n ≤ g) (hn : n ≤ a.heap.size) : Below n a b :=
  ⟨h.os, h.tape, h.output, h.size, fun k hk => h.block k (Nat.lt_of_lt_of_le hk hn) fun hm => absurd (hg k hm) (Nat.not_le.2 hk)⟩

set_option maxHeartbeats 4000000 in
set_option maxRecDepth 100000 in
theorem clone_told (L : SlLaysE0.n41 P ρ) (hT : TabOk P T) (hoe : (T (ρ.t 23)).kind.isOther = false) {zs : List Cell} (hz : zeroCells (T (ρ.t 23)).cts = some zs) (hne : 0 < (T (ρ.t 23)).cts.length) {deep : Bool} (hm : deep = true → anyMem (T (ρ.t 23)).cts = false)
    {w : World} {u : Value} {A : List (List TC)} (hS : ∀ b, S b → b < w.heap.size) (h : RepC T w S (.slice (ρ.t 23)) u (.l A)) (hroom : roomFor (T (ρ.t 23)) A.length) :
    Calls P (ρ.f 41) #[u] w fun e w' => ∃ v, e = .returned v ∧ PlainRes T w S [(false, [⟨.slice (ρ.t 23), .own deep, .l A⟩])] v w' := by
  generalize hc : TC.l A = c at h
  cases h with
  | nil e =>
    cases hc
    refine (AnyE.slices_Clone_nil L 0 0 w).mono ?_
    rintro e w' ⟨rfl, rfl⟩
    refine ⟨_, rfl, plain_slice (fq := []) ?_ .nil (fun _ h => by cases h) (Below.refl _ _)⟩
    cases deep
    · exact OwnT.nil _
    · exact OwnC.nil _
  | slice e ad xs cap us p1 p2 p3 p4 =>
    cases hc
    obtain ⟨ie, hie⟩ := hT (ρ.t 23) hoe
    have hrep : RepC T w S (.slice (ρ.t 23)) (.slice (some ad) A.length cap) (.l A) := .slice _ ad A cap us p1 p2 p3 p4
    have hch1 : Chg w (w.alloc (.cells #[] (ρ.t 23))) [] := Chg.alloc w _ _
    have hrep1 : RepC T (w.alloc (.cells #[] (ρ.t 23))) S (.slice (ρ.t 23)) (.slice (some ad) A.length cap) (.l A) := hrep.mono (fun _ h => h) fun a v hs hv => hch1.cell hv (by simp)
    obtain ⟨news, s1, s2, s3⟩ := src_slice (P := P) (T := T) (w := w.alloc (.cells #[] (ρ.t 23))) (S := S) (tx := ρ.t 22) (e := ρ.t 23) L.t22 (d := ⟨.slice (ρ.t 23), .sh, .l A⟩) (fq := []) ⟨hrep1, rfl⟩ rfl rfl (by simp)
    have hblk : Blk (w.alloc (.cells #[] (ρ.t 23))) w.heap.size [] (ρ.t 23) := Blk.alloc w [] (ρ.t 23)
    have hrow : CellRel T (w.alloc (.cells #[] (ρ.t 23))) S ⟨.slice (ρ.t 23), .own deep, .l []⟩ (.slice (some ⟨w.heap.size, 0, none⟩) 0 0) [w.heap.size] := by
      cases deep
      · exact OwnT.slice _ w.heap.size [] 0 [] (Nat.le_refl _) (Nat.zero_le _) (fun _ h => by cases h) hblk (by simp) (fun _ h => by cases h) (fun k hk => by simp at hk)
      · have h0 : OwnC T (w.alloc (.cells #[] (ρ.t 23))) (.slice (ρ.t 23)) (.slice (some ⟨w.heap.size, 0, none⟩) ([] : List (List TC)).length 0) (.l []) (w.heap.size :: (List.range (([] : List (List TC)).length * (T (ρ.t 23)).cts.length)).flatMap fun _ => []) :=
          OwnC.slice _ w.heap.size [] 0 [] (fun _ => []) (Nat.le_refl _) (Nat.zero_le _) (fun _ h => by cases h) hblk (by simp) (fun _ h => by cases h) (fun k hk => by simp at hk)
        have e0 : (w.heap.size :: (List.range (([] : List (List TC)).length * (T (ρ.t 23)).cts.length)).flatMap fun _ => ([] : List Nat)) = [w.heap.size] := by simp
        rw [e0] at h0
        exact h0
    obtain ⟨v', w2, N, fq', hrun, hch2, hN, hNn, hfq', hfqn, hrel⟩ := app_core (P := P) (T := T) (w := w.alloc (.cells #[] (ρ.t 23))) (t := ρ.t 22) (tx := ρ.t 22) (ty := ρ.t 22) (deep := deep) hT L.t22 hoe hie hz hne s1 hrow s2 (rowCells_gone (by simp)) (rowCells_ct _ _ _) (fun h => rowCells_flat (hm h)) (fun _ => rfl)
      (by show roomFor _ (([] : List (List TC)).length + A.length); rw [List.length_nil, Nat.zero_add]; exact hroom) (fun b hb hm => by rw [List.mem_singleton.1 hm] at hb; exact absurd (hS _ hb) (Nat.lt_irrefl _)) (fun _ h => by cases h) (by simp) .nil
    rw [rowCells_raw _ hne s3, List.nil_append] at hrel
    have hsz : (w.alloc (.cells #[] (ρ.t 23))).heap.size = w.heap.size + 1 := size_alloc _ _
    have hbel : Below w.heap.size w w2 := (hch1.mono (gs' := [w.heap.size]) (fun _ h => by cases h) |>.trans hch2).belowN (fun g hg => by rw [List.mem_singleton.1 hg]; exact Nat.le_refl _) (Nat.le_refl _)
    have hnew : ∀ b, b ∈ fq' → w.heap.size ≤ b ∧ b < w2.heap.size := fun b hb => by
      rcases hfq' b hb with hb | hb
      · rw [List.append_nil] at hb
        rw [List.mem_singleton.1 hb]
        have := hch2.size
        exact ⟨Nat.le_refl _, by omega⟩
      · have := hN b hb
        exact ⟨by omega, this.2⟩
    have fin : PlainRes T w S [(false, [⟨.slice (ρ.t 23), .own deep, .l A⟩])] v' w2 :=
      plain_slice (hrel _ fun b hb => ⟨Nat.lt_of_lt_of_le (hS b hb) hbel.size, .inl hb, fun hm => absurd (hnew b hm).1 (Nat.not_le.2 (hS b hb))⟩) hfqn hnew hbel
    have mixed := L.mixed; have t4 := L.t4; have a4 := L.a4; have z4 := L.z4; have v4 := L.v4; have t22 := L.t22; have a22 := L.a22; have z22 := L.z22; have v22 := L.v22
    have q22 : ∀ (w : World) (a : Option Addr) (n c n' c' : Nat), (Go.binOp .eql (ρ.t 22) (.slice a n c) (.slice none n' c')).run P w = .ok (.bool a.isNone) w := fun w a n c n' c' => Lib.run_eql_slice_nil w _ _ a n c n' c' L.t22
    have u22 : ∀ w, Sem.run P (underlying (ρ.t 22)) w = .ok (TypeDesc.slice (ρ.t 23)) w := run_underlying t22
    have z23 : ∀ w, (Go.sizeOf (ρ.t 23)).run P w = .ok (T (ρ.t 23)).cts.length w := sizeOf_run hT hoe
    obtain ⟨_, _, FG⟩ := L.f41
    clear p1 p2 p3 p4 hrep hrep1 s1 s2 s3 hrow hrel hblk
    go_enter FG, SlBodyN.n41_ntmps ρ
    go_wp2_with (at_builtin; refine wpList_append_at rfl _ _ (ρ.t 22) (ρ.t 22) rfl rfl rfl hrun ?_)
    go_ret
    exact ⟨_, rfl, fin⟩
end
end Go.Proofs.YthhmamgpcojooaaDoor.V
