/- Texts joined: G9, G7, G8 -/
import Derived.Test.YticlacjpgjkhcaaGreatDoorQn12
import Derived.Test.YticlacjpgjkhcaaGreatDoorQn8
import Derived.Test.YticlacjpgjkhcaaGreatDoorQn10

/- The space: a key of any kind is taken away. -/
namespace Go.Proofs.YticlacjpgjkhcaaGreatDoor
open Go.ChangeShapes Go.WideShapes Go.ChangeAt Go.RowKit

set_option maxRecDepth 100000 in
set_option maxHeartbeats 8000000 in
theorem Del19G (bS bM : Nat) (l : MapT.Ents) (k : ByteArray) (k0 t0 : ByteArray) (kd u0 : Int) (E3 E4 E5 E6 : Option Addr) (xn3 xc3 xn4 xc4 xn5 xc5 xn6 xc6 : Nat) (hf : MapT.find k l = some (.agg #[.string k0, .int .i64 kd, .string t0, .slice E3 xn3 xc3, .slice E4 xn4 xc4, .slice E5 xn5 xc5, .slice E6 xn6 xc6, .int .i64 u0])) (w : World) (m0 : Int) (hsz : ∀ X, Below w.heap.size w X → Calls Tryz.prog 50 #[.agg #[.string k0, .int .i64 kd, .string t0, .slice E3 xn3 xc3, .slice E4 xn4 xc4, .slice E5 xn5 xc5, .slice E6 xn6 xc6, .int .i64 u0]] X fun e w' => e = .returned (.int .i64 m0) ∧ Below X.heap.size X w') (h : SP w bS bM l) : Calls Tryz.prog 28 #[.pointer (some ⟨bS, 0, none⟩), .string k] w fun e w' => e = .returned (.bool true) ∧ SP w' bS bM (MapT.del k l) ∧ Kp w.heap.size (fun i => i ≠ bS ∧ i ≠ bM) w w' := by
  have hlt := Lib.hid h.lt
  have hr : (if true = true then Value.tuple #[(MapT.find k l).getD (.agg #[.string ⟨#[]⟩, .int .i64 0, .string ⟨#[]⟩, .slice none 0 0, .slice none 0 0, .slice none 0 0, .slice none 0 0, .int .i64 0]), .bool (MapT.find k l).isSome] else (MapT.find k l).getD (.agg #[.string ⟨#[]⟩, .int .i64 0, .string ⟨#[]⟩, .slice none 0 0, .slice none 0 0, .slice none 0 0, .slice none 0 0, .int .i64 0])) = .tuple #[.agg #[.string k0, .int .i64 kd, .string t0, .slice E3 xn3 xc3, .slice E4 xn4 xc4, .slice E5 xn5 xc5, .slice E6 xn6 xc6, .int .i64 u0], .bool true] := by rw [hf]; rfl
  have HR := Lib.hid hr
  obtain ⟨hs1, hs2⟩ := h.cell
  obtain ⟨⟨mem, hmem⟩, hMB, hne⟩ := h
  have S1 := Lib.hid hmem
  have M1 := Lib.hid hMB
  clear hmem hMB hf hr
  have w2b := Lib.hid (show Below w.heap.size w (w.alloc (.cells #[.string k0, .int .i64 kd, .string t0, .slice E3 xn3 xc3, .slice E4 xn4 xc4, .slice E5 xn5 xc5, .slice E6 xn6 xc6, .int .i64 u0] 66)) from alloc_old)
  have w2n := Lib.hid (show (w.alloc (.cells #[.string k0, .int .i64 kd, .string t0, .slice E3 xn3 xc3, .slice E4 xn4 xc4, .slice E5 xn5 xc5, .slice E6 xn6 xc6, .int .i64 u0] 66)).heap[w.heap.size]? = some (.cells #[.string k0, .int .i64 kd, .string t0, .slice E3 xn3 xc3, .slice E4 xn4 xc4, .slice E5 xn5 xc5, .slice E6 xn6 xc6, .int .i64 u0] 66) from heap_alloc_new w _)
  go_enter Tryz.func28, Tryz.ntmps28
  go_wp2_with (first | (at_lookup; refine MapT.at_look _ rfl _ _ true rfl Tryz.underlying55 Tryz.underlying9 bM l rfl M1.out k rfl _ (zero33 _) _ HR.out ?_))
  change Code.wp _ _ _ _ (w.alloc (.cells #[.string k0, .int .i64 kd, .string t0, .slice E3 xn3 xc3, .slice E4 xn4 xc4, .slice E5 xn5 xc5, .slice E6 xn6 xc6, .int .i64 u0] 66))
  generalize (w.alloc (.cells #[.string k0, .int .i64 kd, .string t0, .slice E3 xn3 xc3, .slice E4 xn4 xc4, .slice E5 xn5 xc5, .slice E6 xn6 xc6, .int .i64 u0] 66)) = w2 at w2b w2n ⊢
  have BW := Lib.hid w2b
  have Q2 := Lib.hid (show Kp w.heap.size (fun i => i ≠ bS ∧ i ≠ bM) w w2 from .of BW.out)
  have S2 := Lib.hid (blk_below S1.out BW.out)
  have M2 := Lib.hid (M1.out.below BW.out)
  have w2n := Lib.hid w2n
  clear w2b
  obtain ⟨cm2, cf2⟩ := mem53 S2.out
  obtain ⟨⟨g0, g1, g2, g3, g4, g5, g6, g7⟩, _, gz⟩ := cells8 w2n.out
  have Z7 := Lib.hid (hsz w2.drew BW.out.drew)
  go_region_with ((go_at_call 50; (with_reducible refine (Z7.out).mono ?_); rintro e w3 ⟨rfl, h5⟩; have B3 : Below w2.heap.size w2 w3 := belT (Below.refl w2.heap.size w2).drew h5; clear h5; obtain ⟨cm3, cf3⟩ := mem53 (blk_below S2.out B3)))
  all_goals (
    change Exit.then _ _ _ _ (w3.setCell ⟨bS, 1, none⟩ (.int .i64 (IntKind.i64.wrap (mem - m0))))
    have S4 := Lib.hid (set53 (blk_below S2.out B3) (.int .i64 (IntKind.i64.wrap (mem - m0))))
    have M4 := Lib.hid ((M2.out.below B3).kept (Below.heap_setCell w3 ⟨bS, 1, none⟩ (.int .i64 (IntKind.i64.wrap (mem - m0))) bM (Ne.symm hne)))
    have Q4 := Lib.hid (((Q2.out.trans (.of (B3.mono Q2.out.size))).setCell (p := ⟨bS, 1, none⟩) (by simp) (.int .i64 (IntKind.i64.wrap (mem - m0)))))
    clear cm2 cf2 cm3 cf3 g0 g1 g2 g3 g4 g5 g6 g7 gz Z7 B3
    generalize w3.setCell ⟨bS, 1, none⟩ (.int .i64 (IntKind.i64.wrap (mem - m0))) = w4 at S4 M4 Q4 ⊢
    have cM4 := cell53 S4.out
    obtain ⟨w5, hrun, r1, r2, r3⟩ := MapT.run_delete Tryz.underlying55 Tryz.underlying9 M4.out k #[55, 9] rfl 0
    have S5 := Lib.hid ((grown_block r2 (lt_blk S4.out) hne).trans S4.out)
    have Q5 := Lib.hid (Q4.out.grown r2 Q4.out.size (fun k hk _ hS => hS.2 (Option.some.inj hk).symm))
    go_wp2
    go_ret
    exact ⟨by simp, ⟨⟨_, S5.out⟩, r1, hne⟩, Q5.out⟩)
end Go.Proofs.YticlacjpgjkhcaaGreatDoor

/- A space as data, effects as data; a law's do over them. -/
namespace Go.Proofs.YticlacjpgjkhcaaGreatDoor
open Go.ChangeShapes Go.WideShapes Go.ChangeAt Go.RowKit

section data
variable {α : Type}
def findD (k : ByteArray) : List (ByteArray × α) → Option α
  | [] => none
  | (x, v) :: r => if x = k then some v else findD k r
def putD (k : ByteArray) (u : α) : List (ByteArray × α) → List (ByteArray × α)
  | [] => [(k, u)]
  | (x, v) :: r => if x = k then (x, u) :: r else (x, v) :: putD k u r
def delD (k : ByteArray) : List (ByteArray × α) → List (ByteArray × α)
  | [] => []
  | (x, v) :: r => if x = k then r else (x, v) :: delD k r
/-- Effects as data: a value is put, or a key is taken. -/
def applyD : List (ByteArray × Option α) → List (ByteArray × α) → List (ByteArray × α)
  | [], D => D
  | (k, none) :: r, D => applyD r (delD k D)
  | (k, some x) :: r, D => applyD r (putD k x D)
def MayD (ok : ByteArray → α → Prop) : List (ByteArray × Option α) → List (ByteArray × α) → Prop
  | [], _ => True
  | (k, none) :: r, D => (∃ y, findD k D = some y) ∧ MayD ok r (delD k D)
  | (k, some x) :: r, D => ok k x ∧ D.length < 4096 ∧ MayD ok r (putD k x D)
theorem findD_mem {k : ByteArray} {x : α} : ∀ {D : List (ByteArray × α)}, findD k D = some x → (k, x) ∈ D := by
  intro D
  induction D with
  | nil => intro h; cases h
  | cons p r ih =>
    obtain ⟨y, v⟩ := p
    intro h
    by_cases hy : y = k
    · subst hy
      simp [findD] at h
      subst h
      exact List.mem_cons_self
    · simp [findD, hy] at h
      exact List.mem_cons_of_mem _ (ih h)
theorem mem_putD {k : ByteArray} {u : α} {p : ByteArray × α} : ∀ {D : List (ByteArray × α)}, p ∈ putD k u D → p ∈ D ∨ p = (k, u) := by
  intro D
  induction D with
  | nil => intro h; simp [putD] at h; exact .inr h
  | cons q r ih =>
    obtain ⟨y, v⟩ := q
    intro h
    by_cases hy : y = k
    · subst hy
      simp [putD] at h
      rcases h with h | h
      · exact .inr h
      · exact .inl (List.mem_cons_of_mem _ h)
    · simp [putD, hy] at h
      rcases h with rfl | h
      · exact .inl List.mem_cons_self
      · exact (ih h).imp (List.mem_cons_of_mem _) id
theorem mem_delD {k : ByteArray} {p : ByteArray × α} : ∀ {D : List (ByteArray × α)}, p ∈ delD k D → p ∈ D := by
  intro D
  induction D with
  | nil => intro h; exact h
  | cons q r ih =>
    obtain ⟨y, v⟩ := q
    intro h
    by_cases hy : y = k
    · subst hy
      simp [delD] at h
      exact List.mem_cons_of_mem _ h
    · simp [delD, hy] at h
      rcases h with rfl | h
      · exact List.mem_cons_self
      · exact List.mem_cons_of_mem _ (ih h)
end data

/-- An entry of the space's map, and what it is as data. -/
def EntG {α : Type} (K : Kd α) (w : World) (p : ByteArray × α) (q : ByteArray × Value) : Prop := q.1 = p.1 ∧ ∃ A3 A4 A5 A6 an3 ac3 an4 ac4 an5 ac5 an6 ac6, q.2 = .agg #[.string p.1, .int .i64 K.kd, .string ⟨#[]⟩, .slice A3 an3 ac3, .slice A4 an4 ac4, .slice A5 an5 ac5, .slice A6 an6 ac6, .int .i64 0] ∧ K.V w p.2 (.slice A3 an3 ac3) (.slice A4 an4 ac4) (.slice A5 an5 ac5) (.slice A6 an6 ac6)
def AllE {α : Type} (K : Kd α) (w : World) : List (ByteArray × α) → MapT.Ents → Prop
  | [], [] => True
  | p :: D, q :: l => EntG K w p q ∧ AllE K w D l
  | [], _ :: _ => False
  | _ :: _, [] => False
section laws
variable {α : Type} (K : Kd α)
theorem AllE.len {w : World} : ∀ {D : List (ByteArray × α)} {l : MapT.Ents}, AllE K w D l → l.length = D.length
  | [], [], _ => rfl
  | _ :: _, _ :: _, h => by rw [List.length_cons, List.length_cons, AllE.len h.2]
  | [], _ :: _, h => h.elim
  | _ :: _, [], h => h.elim
theorem AllE.kept {w w' : World} {bS bM : Nat} {l0 : MapT.Ents} (hS : SP w bS bM l0) (hK : ∀ i, i < w.heap.size → i ≠ bS ∧ i ≠ bM → w'.heap[i]? = w.heap[i]?) : ∀ {D : List (ByteArray × α)} {l : MapT.Ents}, AllE K w D l → AllE K w' D l
  | [], [], _ => trivial
  | _ :: _, _ :: _, h => by
    obtain ⟨⟨h1, A3, A4, A5, A6, an3, ac3, an4, ac4, an5, ac5, an6, ac6, h2, h3⟩, h4⟩ := h
    exact ⟨⟨h1, A3, A4, A5, A6, an3, ac3, an4, ac4, an5, ac5, an6, ac6, h2, K.kept h3 (fun g hg => hK g (K.own_ne h3 hS g hg).1 (K.own_ne h3 hS g hg).2)⟩, AllE.kept hS hK h4⟩
  | [], _ :: _, h => h.elim
  | _ :: _, [], h => h.elim
theorem AllE.kept2 {w w' : World} (hK : ∀ (x : α) (a b d e : Value), K.V w x a b d e → ∀ g, Own a b d e g → w'.heap[g]? = w.heap[g]?) : ∀ {D : List (ByteArray × α)} {l : MapT.Ents}, AllE K w D l → AllE K w' D l
  | [], [], _ => trivial
  | _ :: _, _ :: _, h => by
    obtain ⟨⟨h1, A3, A4, A5, A6, an3, ac3, an4, ac4, an5, ac5, an6, ac6, h2, h3⟩, h4⟩ := h
    exact ⟨⟨h1, A3, A4, A5, A6, an3, ac3, an4, ac4, an5, ac5, an6, ac6, h2, K.kept h3 (hK _ _ _ _ _ h3)⟩, AllE.kept2 hK h4⟩
  | [], _ :: _, h => h.elim
  | _ :: _, [], h => h.elim
theorem AllE.find_none {w : World} {k : ByteArray} : ∀ {D : List (ByteArray × α)} {l : MapT.Ents}, AllE K w D l → findD k D = none → MapT.find k l = none
  | [], [], _, _ => rfl
  | (x, v) :: D, (y, u) :: l, h, hf => by
    obtain ⟨⟨h1, _⟩, h4⟩ := h
    have h1 : y = x := h1
    subst h1
    by_cases hy : y = k
    · simp [findD, hy] at hf
    · simp [findD, hy] at hf
      simp [MapT.find, hy, AllE.find_none h4 hf]
  | [], _ :: _, h, _ => h.elim
  | _ :: _, [], h, _ => h.elim
theorem AllE.find_some {w : World} {k : ByteArray} {x : α} : ∀ {D : List (ByteArray × α)} {l : MapT.Ents}, AllE K w D l → findD k D = some x → ∃ A3 A4 A5 A6 an3 ac3 an4 ac4 an5 ac5 an6 ac6, MapT.find k l = some (.agg #[.string k, .int .i64 K.kd, .string ⟨#[]⟩, .slice A3 an3 ac3, .slice A4 an4 ac4, .slice A5 an5 ac5, .slice A6 an6 ac6, .int .i64 0]) ∧ K.V w x (.slice A3 an3 ac3) (.slice A4 an4 ac4) (.slice A5 an5 ac5) (.slice A6 an6 ac6)
  | [], [], _, hf => by cases hf
  | (z, v) :: D, (y, u) :: l, h, hf => by
    obtain ⟨⟨h1, h2⟩, h4⟩ := h
    have h1 : y = z := h1
    subst h1
    by_cases hy : y = k
    · subst hy
      simp [findD] at hf
      subst hf
      obtain ⟨A3, A4, A5, A6, an3, ac3, an4, ac4, an5, ac5, an6, ac6, h2, h3⟩ := h2
      exact ⟨A3, A4, A5, A6, an3, ac3, an4, ac4, an5, ac5, an6, ac6, by simp [MapT.find]; exact h2, h3⟩
    · simp [findD, hy] at hf
      simp only [MapT.find, hy, if_false]
      exact AllE.find_some h4 hf
  | [], _ :: _, h, _ => h.elim
  | _ :: _, [], h, _ => h.elim
theorem AllE.put {w : World} {k : ByteArray} {x : α} (A3 A4 A5 A6 : Option Addr) (an3 ac3 an4 ac4 an5 ac5 an6 ac6 : Nat) (hV : K.V w x (.slice A3 an3 ac3) (.slice A4 an4 ac4) (.slice A5 an5 ac5) (.slice A6 an6 ac6)) : ∀ {D : List (ByteArray × α)} {l : MapT.Ents}, AllE K w D l → AllE K w (putD k x D) (MapT.put k (.agg #[.string k, .int .i64 K.kd, .string ⟨#[]⟩, .slice A3 an3 ac3, .slice A4 an4 ac4, .slice A5 an5 ac5, .slice A6 an6 ac6, .int .i64 0]) l)
  | [], [], _ => ⟨⟨rfl, A3, A4, A5, A6, an3, ac3, an4, ac4, an5, ac5, an6, ac6, rfl, hV⟩, trivial⟩
  | (z, v) :: D, (y, u) :: l, h => by
    obtain ⟨⟨h1, h2⟩, h4⟩ := h
    have h1 : y = z := h1
    subst h1
    by_cases hy : y = k
    · subst hy
      simp only [putD, MapT.put, if_true]
      exact ⟨⟨rfl, A3, A4, A5, A6, an3, ac3, an4, ac4, an5, ac5, an6, ac6, rfl, hV⟩, h4⟩
    · simp only [putD, MapT.put, hy, if_false]
      exact ⟨⟨rfl, h2⟩, AllE.put A3 A4 A5 A6 an3 ac3 an4 ac4 an5 ac5 an6 ac6 hV h4⟩
  | [], _ :: _, h => h.elim
  | _ :: _, [], h => h.elim
theorem AllE.del {w : World} {k : ByteArray} : ∀ {D : List (ByteArray × α)} {l : MapT.Ents}, AllE K w D l → AllE K w (delD k D) (MapT.del k l)
  | [], [], _ => trivial
  | (z, v) :: D, (y, u) :: l, h => by
    obtain ⟨⟨h1, h2⟩, h4⟩ := h
    have h1 : y = z := h1
    subst h1
    by_cases hy : y = k
    · subst hy
      simp only [delD, MapT.del, if_true]
      exact h4
    · simp only [delD, MapT.del, hy, if_false]
      exact ⟨⟨rfl, h2⟩, AllE.del h4⟩
  | [], _ :: _, h => h.elim
  | _ :: _, [], h => h.elim
end laws
/-- The space as data. -/
def SPG {α : Type} (K : Kd α) (ok : ByteArray → α → Prop) (w : World) (bS bM : Nat) (D : List (ByteArray × α)) : Prop := (∃ l, SP w bS bM l ∧ AllE K w D l) ∧ ∀ p ∈ D, ok p.1 p.2
section laws2
variable {α : Type} (K : Kd α) (ok : ByteArray → α → Prop)
theorem SPG.lt {w : World} {bS bM : Nat} {D : List (ByteArray × α)} (h : SPG K ok w bS bM D) : bS < w.heap.size ∧ bM < w.heap.size ∧ bS ≠ bM := by
  obtain ⟨⟨l, h1, _⟩, _⟩ := h
  exact ⟨h1.lt.1, h1.lt.2, h1.2.2⟩
theorem SPG.kept {w w' : World} {bS bM : Nat} {D : List (ByteArray × α)} (h : SPG K ok w bS bM D) (hb : ∀ i, i < w.heap.size → w'.heap[i]? = w.heap[i]?) : SPG K ok w' bS bM D := by
  obtain ⟨⟨l, h1, h2⟩, h3⟩ := h
  exact ⟨⟨l, h1.kept (hb _ h1.lt.1) (hb _ h1.lt.2), AllE.kept K h1 (fun i hi _ => hb i hi) h2⟩, h3⟩
theorem SPG.below {w w' : World} {bS bM : Nat} {D : List (ByteArray × α)} (h : SPG K ok w bS bM D) (hb : Below w.heap.size w w') : SPG K ok w' bS bM D := SPG.kept K ok h (fun i hi => hb.block i hi)
theorem SPG.ne {w : World} {bS bM : Nat} {D : List (ByteArray × α)} (h : SPG K ok w bS bM D) {b : Nat} {cs : Array Value} {t : TypeId} (hb : w.heap[b]? = some (.cells cs t)) (ht : t ≠ 57) : b ≠ bS ∧ b ≠ bM := by
  obtain ⟨⟨l, ⟨⟨mem, h1⟩, ⟨es, c, h2, _⟩, _⟩, _⟩, _⟩ := h
  refine ⟨fun e => ?_, fun e => ?_⟩
  · subst e; rw [h1] at hb; cases hb; exact ht rfl
  · subst e; rw [h2] at hb; cases hb
end laws2
/-- An effect's cells. -/
def EC {α : Type} (K : Kd α) (c : Nat) (w : World) : ByteArray × Option α → List Value → Prop
  | (k, none), cs => cs = [.string k, .int .i64 0, .string ⟨#[]⟩, .slice none 0 0, .slice none 0 0, .slice none 0 0, .slice none 0 0, .int .i64 0]
  | (k, some x), cs => ∃ A3 A4 A5 A6 an3 ac3 an4 ac4 an5 ac5 an6 ac6, cs = [.string k, .int .i64 K.kd, .string ⟨#[]⟩, .slice A3 an3 ac3, .slice A4 an4 ac4, .slice A5 an5 ac5, .slice A6 an6 ac6, .int .i64 0] ∧ K.V w x (.slice A3 an3 ac3) (.slice A4 an4 ac4) (.slice A5 an5 ac5) (.slice A6 an6 ac6) ∧ ∀ g, Own (.slice A3 an3 ac3) (.slice A4 an4 ac4) (.slice A5 an5 ac5) (.slice A6 an6 ac6) g → c ≤ g
def ALC {α : Type} (K : Kd α) (c : Nat) (w : World) : List (ByteArray × Option α) → List (List Value) → Prop
  | [], [] => True
  | p :: D, q :: l => EC K c w p q ∧ ALC K c w D l
  | [], _ :: _ => False
  | _ :: _, [] => False
/-- Effects in memory as data. -/
def EL {α : Type} (K : Kd α) (des : List (ByteArray × Option α)) (c : Nat) (w : World) (v : Value) : Prop := ∃ css, EFC w c v css ∧ ALC K c w des css
section laws3
variable {α : Type} (K : Kd α)
theorem ALC.len {c : Nat} {w : World} : ∀ {D : List (ByteArray × Option α)} {l : List (List Value)}, ALC K c w D l → l.length = D.length
  | [], [], _ => rfl
  | _ :: _, _ :: _, h => by rw [List.length_cons, List.length_cons, ALC.len h.2]
  | [], _ :: _, h => h.elim
  | _ :: _, [], h => h.elim
theorem EC.kept {c : Nat} {w w' : World} (hb : ∀ (x : α) (a b d e : Value), K.V w x a b d e → (∀ g, Own a b d e g → c ≤ g) → ∀ g, Own a b d e g → w'.heap[g]? = w.heap[g]?) : ∀ {p : ByteArray × Option α} {cs : List Value}, EC K c w p cs → EC K c w' p cs
  | (k, none), cs, h => h
  | (k, some x), cs, h => by
    obtain ⟨A3, A4, A5, A6, an3, ac3, an4, ac4, an5, ac5, an6, ac6, h1, h2, h3⟩ := h
    exact ⟨A3, A4, A5, A6, an3, ac3, an4, ac4, an5, ac5, an6, ac6, h1, K.kept h2 (hb _ _ _ _ _ h2 h3), h3⟩
theorem ALC.kept {c : Nat} {w w' : World} (hb : ∀ (x : α) (a b d e : Value), K.V w x a b d e → (∀ g, Own a b d e g → c ≤ g) → ∀ g, Own a b d e g → w'.heap[g]? = w.heap[g]?) : ∀ {D : List (ByteArray × Option α)} {l : List (List Value)}, ALC K c w D l → ALC K c w' D l
  | [], [], _ => trivial
  | _ :: _, _ :: _, h => ⟨EC.kept K hb h.1, ALC.kept hb h.2⟩
  | [], _ :: _, h => h.elim
  | _ :: _, [], h => h.elim
theorem EC.mono {c d : Nat} {w : World} (hd : d ≤ c) : ∀ {p : ByteArray × Option α} {cs : List Value}, EC K c w p cs → EC K d w p cs
  | (k, none), cs, h => h
  | (k, some x), cs, h => by
    obtain ⟨A3, A4, A5, A6, an3, ac3, an4, ac4, an5, ac5, an6, ac6, h1, h2, h3⟩ := h
    exact ⟨A3, A4, A5, A6, an3, ac3, an4, ac4, an5, ac5, an6, ac6, h1, h2, fun g hg => Nat.le_trans hd (h3 g hg)⟩
theorem ALC.mono {c d : Nat} {w : World} (hd : d ≤ c) : ∀ {D : List (ByteArray × Option α)} {l : List (List Value)}, ALC K c w D l → ALC K d w D l
  | [], [], _ => trivial
  | _ :: _, _ :: _, h => ⟨EC.mono K hd h.1, ALC.mono hd h.2⟩
  | [], _ :: _, h => h.elim
  | _ :: _, [], h => h.elim
theorem ALC.get {c : Nat} {w : World} : ∀ {D : List (ByteArray × Option α)} {l : List (List Value)}, ALC K c w D l → ∀ (i : Nat) (p : ByteArray × Option α), D[i]? = some p → ∃ cs, l[i]? = some cs ∧ EC K c w p cs
  | [], [], _, i, p, h => by simp at h
  | q :: D, cs :: l, h, i, p, hi => by
    cases i with
    | zero => simp at hi; subst hi; exact ⟨cs, rfl, h.1⟩
    | succ i => exact ALC.get h.2 i p (by simpa using hi)
  | [], _ :: _, h, _, _, _ => h.elim
  | _ :: _, [], h, _, _, _ => h.elim
theorem ALC.append {c : Nat} {w : World} {p : ByteArray × Option α} {cs : List Value} (hp : EC K c w p cs) : ∀ {D : List (ByteArray × Option α)} {l : List (List Value)}, ALC K c w D l → ALC K c w (D ++ [p]) (l ++ [cs])
  | [], [], _ => ⟨hp, trivial⟩
  | _ :: _, _ :: _, h => ⟨h.1, ALC.append hp h.2⟩
  | [], _ :: _, h => h.elim
  | _ :: _, [], h => h.elim
theorem EC.len {c : Nat} {w : World} : ∀ {p : ByteArray × Option α} {cs : List Value}, EC K c w p cs → cs.length = 8
  | (k, none), cs, h => by have h : cs = _ := h; rw [h]; rfl
  | (k, some x), cs, h => by
    obtain ⟨A3, A4, A5, A6, an3, ac3, an4, ac4, an5, ac5, an6, ac6, h1, _⟩ := h
    rw [h1]; rfl
theorem EL.keep (des : List (ByteArray × Option α)) : RKeep (EL K des) := by
  refine ⟨fun c w w' v h _ hb => ?_, fun c d w v h hd => ?_⟩
  · obtain ⟨css, h1, h2⟩ := h
    refine ⟨css, h1.kept (fun g hg => ?_), ALC.kept K (fun x a b d e hV hc g hg => hb g (hc g hg) (K.lt hV hg)) h2⟩
    obtain ⟨hc, cur, hh⟩ := h1.own g hg
    exact hb g hc (lt_blk hh)
  · obtain ⟨css, h1, h2⟩ := h
    exact ⟨css, h1.mono hd, ALC.mono K hd h2⟩
theorem EL.nil (c : Nat) (w : World) : EL K [] c w (.slice none 0 0) := ⟨[], EFC.nil w c, trivial⟩
end laws3
theorem flat8 {α : Type} (K : Kd α) {c : Nat} {w : World} : ∀ {D : List (ByteArray × Option α)} {l : List (List Value)}, ALC K c w D l → ∀ (i : Nat) (cs : List Value), l[i]? = some cs → ∀ (j : Nat) (v : Value), cs[j]? = some v → l.flatten[i * 8 + j]? = some v
  | [], [], _, i, cs, h, _, _, _ => by simp at h
  | q :: D, cs0 :: l, h, i, cs, hi, j, v, hj => by
    have h8 := EC.len K h.1
    cases i with
    | zero =>
      simp at hi; subst hi
      rw [List.flatten_cons, Nat.zero_mul, Nat.zero_add, List.getElem?_append_left (by have := (List.getElem?_eq_some_iff.1 hj).1; omega)]
      exact hj
    | succ i =>
      rw [List.flatten_cons, List.getElem?_append_right (by rw [h8]; omega), h8, show (i + 1) * 8 + j - 8 = i * 8 + j by omega]
      exact flat8 K h.2 i cs (by simpa using hi) j v hj
  | [], _ :: _, h, _, _, _, _, _, _ => h.elim
  | _ :: _, [], h, _, _, _, _, _, _ => h.elim
theorem EFC.cell {w : World} {c : Nat} {g n cap : Nat} {es : List (List Value)} (h : EFC w c (.slice (some ⟨g, 0, none⟩) n cap) es) (i : Nat) (v : Value) (hi : es.flatten[i]? = some v) : w.cell? ⟨g, i, none⟩ = some v := by
  have hc := World.ownsRow.cells h (g := g) rfl i v hi
  rw [Addr.add_lit, Nat.zero_add] at hc
  exact hc
/-- The space's Put of data. -/
theorem PutD {α : Type} (K : Kd α) (ok : ByteArray → α → Prop) (hO : KdOk K ok) (bS bM : Nat) (D : List (ByteArray × α)) (k : ByteArray) (x : α) (A3 A4 A5 A6 : Option Addr) (an3 ac3 an4 ac4 an5 ac5 an6 ac6 : Nat) (hk : ok k x) (w : World) (h : SPG K ok w bS bM D) (hlen : D.length < 4096) (hV : K.V w x (.slice A3 an3 ac3) (.slice A4 an4 ac4) (.slice A5 an5 ac5) (.slice A6 an6 ac6)) : Calls Tryz.prog 29 #[.pointer (some ⟨bS, 0, none⟩), .agg #[.string k, .int .i64 K.kd, .string ⟨#[]⟩, .slice A3 an3 ac3, .slice A4 an4 ac4, .slice A5 an5 ac5, .slice A6 an6 ac6, .int .i64 0]] w fun e w' => e = .returned (.int .i64 0) ∧ SPG K ok w' bS bM (putD k x D) ∧ Kp w.heap.size (fun i => i ≠ bS ∧ i ≠ bM) w w' := by
  obtain ⟨⟨l, hS, hA⟩, hall⟩ := h
  have hall2 : ∀ p ∈ putD k x D, ok p.1 p.2 := fun p hp => by
    rcases mem_putD hp with h | rfl
    · exact hall p h
    · exact hk
  cases hf : findD k D with
  | none =>
    refine (Put10_newG K ok hO bS bM l k x A3 A4 A5 A6 an3 ac3 an4 ac4 an5 ac5 an6 ac6 hk w hS (AllE.find_none K hA hf) (by rw [AllE.len K hA]; exact hlen) hV).mono ?_
    rintro e w' ⟨Y3, Y4, Y5, Y6, yn3, yc3, yn4, yc4, yn5, yc5, yn6, yc6, rfl, h1, h2, _, h4⟩
    exact ⟨rfl, ⟨⟨_, h1, AllE.put K Y3 Y4 Y5 Y6 yn3 yc3 yn4 yc4 yn5 yc5 yn6 yc6 h2 (AllE.kept K hS (fun i hi hn => h4.block i hi hn) hA)⟩, hall2⟩, h4⟩
  | some y =>
    obtain ⟨E3, E4, E5, E6, xn3, xc3, xn4, xc4, xn5, xc5, xn6, xc6, hf2, hV2⟩ := AllE.find_some K hA hf
    have hky := hall _ (findD_mem hf)
    refine (Put10_oldG K ok hO bS bM l k x A3 A4 A5 A6 an3 ac3 an4 ac4 an5 ac5 an6 ac6 hk w hS k ⟨#[]⟩ K.kd 0 E3 E4 E5 E6 xn3 xc3 xn4 xc4 xn5 xc5 xn6 xc6 hf2 (hO.sz k y) (fun X hX => hO.size k y E3 E4 E5 E6 xn3 xc3 xn4 xc4 xn5 xc5 xn6 xc6 X hky (K.below hV2 hX)) hV).mono ?_
    rintro e w' ⟨Y3, Y4, Y5, Y6, yn3, yc3, yn4, yc4, yn5, yc5, yn6, yc6, rfl, h1, h2, _, h4⟩
    exact ⟨rfl, ⟨⟨_, h1, AllE.put K Y3 Y4 Y5 Y6 yn3 yc3 yn4 yc4 yn5 yc5 yn6 yc6 h2 (AllE.kept K hS (fun i hi hn => h4.block i hi hn) hA)⟩, hall2⟩, h4⟩
end Go.Proofs.YticlacjpgjkhcaaGreatDoor

/- A law's do: a command's effects, as data, applied to the space as data. -/
namespace Go.Proofs.YticlacjpgjkhcaaGreatDoor
open Go.ChangeShapes Go.WideShapes Go.ChangeAt Go.RowKit

/-- The space's Del of data. -/
theorem DelD {α : Type} (K : Kd α) (ok : ByteArray → α → Prop) (hO : KdOk K ok) (bS bM : Nat) (D : List (ByteArray × α)) (k : ByteArray) (y : α) (hf : findD k D = some y) (w : World) (h : SPG K ok w bS bM D) : Calls Tryz.prog 28 #[.pointer (some ⟨bS, 0, none⟩), .string k] w fun e w' => e = .returned (.bool true) ∧ SPG K ok w' bS bM (delD k D) ∧ Kp w.heap.size (fun i => i ≠ bS ∧ i ≠ bM) w w' := by
  obtain ⟨⟨l, hS, hA⟩, hall⟩ := h
  obtain ⟨E3, E4, E5, E6, xn3, xc3, xn4, xc4, xn5, xc5, xn6, xc6, hf2, hV2⟩ := AllE.find_some K hA hf
  have hky := hall _ (findD_mem hf)
  refine (Del19G bS bM l k k ⟨#[]⟩ K.kd 0 E3 E4 E5 E6 xn3 xc3 xn4 xc4 xn5 xc5 xn6 xc6 hf2 w (hO.sz k y) (fun X hX => hO.size k y E3 E4 E5 E6 xn3 xc3 xn4 xc4 xn5 xc5 xn6 xc6 X hky (K.below hV2 hX)) hS).mono ?_
  rintro e w' ⟨rfl, h1, h4⟩
  exact ⟨rfl, ⟨⟨_, h1, AllE.del K (AllE.kept K hS (fun i hi hn => h4.block i hi hn) hA)⟩, fun p hp => hall p (mem_delD hp)⟩, h4⟩
set_option maxRecDepth 100000 in
set_option maxHeartbeats 8000000 in
theorem do_okG {α : Type} (K : Kd α) (ok : ByteArray → α → Prop) (hO : KdOk K ok) (bS bM : Nat) (D : List (ByteArray × α)) (vA : Value) (k n : Int) (s : ByteArray) (R : Nat → World → Value → Prop) (hR : RKeep R) (des : List (ByteArray × Option α)) (hm : MayD ok des D) (w : World) (hS : SPG K ok w bS bM D)
    (hD : ∀ X, Below w.heap.size w X → Calls Tryz.prog 31 #[.pointer (some ⟨bS, 0, none⟩), .int .i64 1, vA] X fun e w' => ∃ A m c A' n' c', e = .returned (.tuple #[.agg #[.int .i64 k, .int .i64 n, .string s, .slice A m c], .slice A' n' c', .bool true]) ∧ R X.heap.size w' (.slice A m c) ∧ EL K des X.heap.size w' (.slice A' n' c') ∧ Below X.heap.size X w') :
    Calls Tryz.prog 23 #[.pointer (some ⟨bS, 0, none⟩), vA] w fun e w' => ∃ A m c, e = .returned (.agg #[.int .i64 k, .int .i64 n, .string s, .slice A m c]) ∧ R w.heap.size w' (.slice A m c) ∧ SPG K ok w' bS bM (applyD des D) ∧ Kp w.heap.size (fun i => i ≠ bS ∧ i ≠ bM) w w' := by
  have A1 := Lib.hid (alloc_old (w := w) (o := .cells #[.int .i64 0, .int .i64 0, .string ⟨#[]⟩, .slice none 0 0] 29))
  have hr := Lib.hid (heap_alloc_new w (.cells #[.int .i64 0, .int .i64 0, .string ⟨#[]⟩, .slice none 0 0] 29))
  have DO := Lib.hid (hD _ A1.out)
  have HS := Lib.hid hS
  have HM := Lib.hid hm
  obtain ⟨hl1, hl2, hne⟩ := SPG.lt K ok hS
  obtain ⟨kd, hkd⟩ : ∃ kd, K.kd = kd := ⟨_, rfl⟩
  have hz0 : ¬ kd = 0 := hkd ▸ K.nz.1
  have hz1 : (kd == 0) = false := by rw [beq_eq_false_iff_ne]; exact hz0
  clear hS hD hm
  go_enter Tryz.func23, Tryz.ntmps23
  go_wp2_with (first | (go_at_call 31; (with_reducible refine (DO.out).mono ?_); rintro e w5 ⟨A, m, c, A', n', c', rfl, hRR, hE, hb5⟩; have B5 := Lib.hid (A1.out.trans (hb5.mono (Below.size A1.out))); have R5 := Lib.hid (blk_below hr.out hb5); have HR := Lib.hid hRR; have HE := Lib.hid hE; clear hRR hE hb5; refine Hid.out ?_))
  refine Lib.hid ?_
  have B6 := Lib.hid (show Below w.heap.size w (w5.alloc (.cells #[.int .i64 k, .int .i64 n, .string s, .slice A m c] 29)) from B5.out.trans (alloc_old.mono (Below.size B5.out)))
  have o6 := Lib.hid (heap_alloc_new w5 (.cells #[.int .i64 k, .int .i64 n, .string s, .slice A m c] 29))
  have R6 := Lib.hid (blk_below R5.out (alloc_old (o := .cells #[.int .i64 k, .int .i64 n, .string s, .slice A m c] 29)))
  have HE6 := Lib.hid ((EL.keep K des).kept _ _ (w5.alloc (.cells #[.int .i64 k, .int .i64 n, .string s, .slice A m c] 29)) _ HE.out (by simp) (fun i _ hi => alloc_old.block i hi))
  have hs5 := Below.size B5.out
  have hs6 := lt_blk R5.out
  have hz : w5.heap.size < (w5.alloc (.cells #[.int .i64 k, .int .i64 n, .string s, .slice A m c] 29)).heap.size := by simp
  go_wp2_with fail
  have B56 := Lib.hid (show Below w5.heap.size w5 (w5.alloc (.cells #[.int .i64 k, .int .i64 n, .string s, .slice A m c] 29)) from alloc_old)
  generalize (w5.alloc (.cells #[.int .i64 k, .int .i64 n, .string s, .slice A m c] 29)) = w6 at B6 o6 R6 HE6 hz B56 ⊢
  obtain ⟨css, hEF, hAL⟩ := HE6.out
  have hlen := ALC.len K hAL
  obtain ⟨hn, hg⟩ := hEF.form
  rw [hlen] at hn
  subst hn
  have EF6 := Lib.hid hEF
  have AL6 := Lib.hid hAL
  have S6 := Lib.hid (SPG.below K ok HS.out B6.out)
  have hz1w : (w.alloc (.cells #[.int .i64 0, .int .i64 0, .string ⟨#[]⟩, .slice none 0 0] 29)).heap.size = w.heap.size + 1 := by simp
  have hmx : des.length ≤ maxLen := by
    have := hEF
    unfold EFC World.ownsRow at this
    obtain ⟨_, ⟨_, h0⟩ | ⟨g, cap', cur, _, _, _, h3, h4, _⟩⟩ := this
    · omega
    · omega
  have hl9 : des.length ≤ 9223372036854775807 := by unfold maxLen at hmx; omega
  clear hEF hAL hmx
  go_loopw [8] (fun iv wr => ∃ (i : Nat) (D2 : List (ByteArray × α)), i ≤ des.length ∧ iv = .int .i64 i ∧ Hid (SPG K ok wr bS bM D2 ∧ MayD ok (des.drop i) D2 ∧ applyD (des.drop i) D2 = applyD des D ∧ Kp w6.heap.size (fun i => i ≠ bS ∧ i ≠ bM) w6 wr)) (fun iv _ => des.length - (intOf iv).toNat)
  case atStart => exact ⟨0, D, Nat.zero_le _, rfl, Lib.hid ⟨S6.out, HM.out, rfl, Kp.refl _ _ _⟩⟩
  case round =>
    obtain ⟨i, D2, hi, rfl, HQ⟩ := hrel
    by_cases hlt2 : i < des.length
    · have q0 : (i : Int) < (des.length : Int) := by omega
      obtain ⟨g, rfl, hgc, hgl⟩ := hg (by intro e; rw [e] at hlen; simp at hlen; omega)
      have hdrop : des.drop i = des[i] :: des.drop (i + 1) := List.drop_eq_getElem_cons hlt2
      obtain ⟨e0, he0⟩ : ∃ e0, des[i]? = some e0 := ⟨des[i], List.getElem?_eq_getElem hlt2⟩
      have hei : des[i] = e0 := by have := List.getElem?_eq_getElem hlt2; rw [he0] at this; exact (Option.some.inj this).symm
      have hQ := HQ.out
      rw [hdrop, hei] at hQ
      obtain ⟨hSP, hmm, hap, hKp⟩ := hQ
      have hEr : EFC wr (w.alloc (.cells #[.int .i64 0, .int .i64 0, .string ⟨#[]⟩, .slice none 0 0] 29)).heap.size (.slice (some ⟨g, 0, none⟩) des.length c') css := EF6.out.kept (fun g9 hg9 => by cases hg9; exact hKp.block g hgl ⟨by omega, by omega⟩)
      have hAr : ALC K (w.alloc (.cells #[.int .i64 0, .int .i64 0, .string ⟨#[]⟩, .slice none 0 0] 29)).heap.size wr des css := ALC.kept K (fun x a b d e hV hc g hg => hKp.block g (K.lt hV hg) (K.own_ne hV S6.out.1.choose_spec.1 g hg).2) AL6.out
      obtain ⟨cs0, hcs, hEC⟩ := ALC.get K hAr i e0 he0
      have hcells := fun j v hj => hEr.cell (i * 8 + j) v (flat8 K hAr i cs0 hcs j v hj)
      obtain ⟨k9, x9⟩ := e0
      cases x9 with
      | some x9 =>
        obtain ⟨hok, hl4, hmr⟩ := hmm
        obtain ⟨A3, A4, A5, A6, an3, ac3, an4, ac4, an5, ac5, an6, ac6, rfl, hV9, _⟩ := hEC
        have PP := PutD K ok hO bS bM D2 k9 x9 A3 A4 A5 A6 an3 ac3 an4 ac4 an5 ac5 an6 ac6 hok wr hSP hl4 hV9
        rw [hkd] at PP hcells
        have x0 := hcells 0 _ rfl
        have x1 := hcells 1 _ rfl
        have x2 := hcells 2 _ rfl
        have x3 := hcells 3 _ rfl
        have x4 := hcells 4 _ rfl
        have x5 := hcells 5 _ rfl
        have x6 := hcells 6 _ rfl
        have x7 := hcells 7 _ rfl
        simp only [Nat.add_zero] at x0
        have PP := Lib.hid PP
        have HMR := Lib.hid hmr
        have HAP := Lib.hid hap
        have HKP := Lib.hid hKp
        clear hcells hEr hAr hSP hmr hap hKp he0 hei hdrop HQ hV9 hok hl4 hcs
        go_wp2_with (first | (go_at_call 29; (with_reducible refine (PP.out).mono ?_); rintro e w8 ⟨rfl, hSP8, hK8⟩; have HS8 := Lib.hid hSP8; have HK8 := Lib.hid hK8; clear hSP8 hK8))
        refine ⟨⟨i + 1, _, by omega, by go_num, Lib.hid ⟨HS8.out, HMR.out, HAP.out, HKP.out.trans (HK8.out.mono HKP.out.size (fun _ h => h))⟩⟩, by simp [intOf]; omega⟩
      | none =>
        obtain ⟨⟨y, hy⟩, hmr⟩ := hmm
        have hEC : cs0 = _ := hEC
        subst hEC
        have x0 := hcells 0 _ rfl
        have x1 := hcells 1 _ rfl
        have x2 := hcells 2 _ rfl
        simp only [Nat.add_zero] at x0
        have PP := Lib.hid (DelD K ok hO bS bM D2 k9 y hy wr hSP)
        have HMR := Lib.hid hmr
        have HAP := Lib.hid hap
        have HKP := Lib.hid hKp
        clear hcells hEr hAr hSP hmr hap hKp he0 hei hdrop HQ hcs hy
        go_wp2_with (first | (go_at_call 28; (with_reducible refine (PP.out).mono ?_); rintro e w8 ⟨rfl, hSP8, hK8⟩; have HS8 := Lib.hid hSP8; have HK8 := Lib.hid hK8; clear hSP8 hK8))
        refine ⟨⟨i + 1, _, by omega, by go_num, Lib.hid ⟨HS8.out, HMR.out, HAP.out, HKP.out.trans (HK8.out.mono HKP.out.size (fun _ h => h))⟩⟩, by simp [intOf]; omega⟩
    · have hie : i = des.length := by omega
      subst hie
      have q0 : ¬ (des.length : Int) < (des.length : Int) := by omega
      have hQ := HQ.out
      rw [List.drop_length] at hQ
      obtain ⟨hSP, _, hap, hKp⟩ := hQ
      have hlW : w5.heap.size ≠ bS ∧ w5.heap.size ≠ bM ∧ w.heap.size ≠ bS ∧ w.heap.size ≠ bM := by omega
      have o8 := Lib.hid ((hKp.block w5.heap.size (lt_blk o6.out) ⟨hlW.1, hlW.2.1⟩).trans o6.out)
      have R8 := Lib.hid ((hKp.block w.heap.size (lt_blk R6.out) ⟨hlW.2.2.1, hlW.2.2.2⟩).trans R6.out)
      have HSP := Lib.hid hSP
      have HAP := Lib.hid hap
      have HKP := Lib.hid hKp
      clear hSP hap hKp HQ hi hlt2
      obtain ⟨⟨d0, d1, d2, d3⟩, _⟩ := cells4 o8.out
      obtain ⟨⟨c0, c1, c2, c3⟩, ⟨f0, f1, f2, f3⟩⟩ := cells4 R8.out
      go_wp2
      have hR5 := HR.out
      rw [hz1w] at hR5
      have hsz : w5.heap.size ≤ (((((wr.setCell ⟨w.heap.size, 0, none⟩ (.int .i64 k)).setCell ⟨w.heap.size, 1, none⟩ (.int .i64 n)).setCell ⟨w.heap.size, 2, none⟩ (.string s)).setCell ⟨w.heap.size, 3, none⟩ (.slice A m c))).heap.size := Nat.le_trans (Below.size B56.out) (Nat.le_trans HKP.out.size (by simp [World.setCell]))
      have hR9 := hR.mono _ w.heap.size _ _ (hR.kept _ _ (((((wr.setCell ⟨w.heap.size, 0, none⟩ (.int .i64 k)).setCell ⟨w.heap.size, 1, none⟩ (.int .i64 n)).setCell ⟨w.heap.size, 2, none⟩ (.string s)).setCell ⟨w.heap.size, 3, none⟩ (.slice A m c))) _ hR5 hsz (fun i h1 h2 => (far4 _ _ _ _ (by omega)).trans ((HKP.out.block i (Nat.lt_of_lt_of_le h2 (Below.size B56.out)) ⟨by omega, by omega⟩).trans (B56.out.block i h2)))) (by omega)
      have hl2 : D2 = applyD des D := HAP.out
      subst hl2
      have hS9 : SPG K ok ((((wr.setCell ⟨w.heap.size, 0, none⟩ (.int .i64 k)).setCell ⟨w.heap.size, 1, none⟩ (.int .i64 n)).setCell ⟨w.heap.size, 2, none⟩ (.string s)).setCell ⟨w.heap.size, 3, none⟩ (.slice A m c)) bS bM (applyD des D) := by
        obtain ⟨⟨l, h1, h2⟩, h3⟩ := HSP.out
        refine ⟨⟨l, h1.kept (far4 _ _ _ _ (by omega)) (far4 _ _ _ _ (by omega)), AllE.kept2 K (fun x a b d e hV g hg => far4 _ _ _ _ (fun e => ?_)) h2⟩, h3⟩
        obtain ⟨cs, t, h4, _, _, _, _, h5⟩ := K.typ hV hg
        rw [e] at h4
        have := R8.out
        rw [h4] at this
        cases this
        exact h5 rfl
      exact bodyPost_ret (v := .agg #[.int .i64 k, .int .i64 n, .string s, .slice A m c]) (by simp [results, Tryz.results23, go_sem, c0, c1, c2, c3]) rfl ⟨A, m, c, rfl, hR9, hS9, ((((((Kp.of B6.out).trans (HKP.out.mono (Below.size B6.out) (fun _ h => h))).setCell (p := ⟨w.heap.size, 0, none⟩) (by simp) _).setCell (p := ⟨w.heap.size, 1, none⟩) (by simp) _).setCell (p := ⟨w.heap.size, 2, none⟩) (by simp) _).setCell (p := ⟨w.heap.size, 3, none⟩) (by simp) _)⟩
end Go.Proofs.YticlacjpgjkhcaaGreatDoor
