/- A command at a space that a law holds, its effects applied. -/
import Derived.Test.YtllaeocclpaiaaaGreatDoorSt37
namespace Go.Proofs.YtllaeocclpaiaaaGreatDoor
open Go.ChangeShapes Go.WideShapes Go.ChangeAt Go.RowKit

/-- A law's world: the space, and that nothing that was there has turned. -/
structure LW (W0 w : World) (bS bM : Nat) (l : MapT.Ents) : Prop where
  sp : SP w bS bM l
  below : Below W0.heap.size W0 w
  hS : W0.heap.size ≤ bS
  hM : W0.heap.size ≤ bM
theorem LW.step {W0 w w' : World} {bS bM : Nat} {l l' : MapT.Ents} (h : LW W0 w bS bM l) (hs : SP w' bS bM l') (hK : Kp w.heap.size (fun i => i ≠ bS ∧ i ≠ bM) w w') : LW W0 w' bS bM l' :=
  ⟨hs, h.below.trans (hK.below (fun k hk => ⟨Nat.lt_of_lt_of_le hk (Below.size h.below), by have := h.hS; omega, by have := h.hM; omega⟩)), h.hS, h.hM⟩
theorem LW.old {W0 w w' : World} {bS bM : Nat} {l : MapT.Ents} (h : LW W0 w bS bM l) (hb : Below w.heap.size w w') : LW W0 w' bS bM l := h.step (h.sp.below hb) (.of hb)
theorem SSl.lit (X : World) (xs : List ByteArray) (hn : xs.length ≤ 1000) : SSl (X.alloc (.cells (xs.map Value.string).toArray 9)) (.slice (some ⟨X.heap.size, 0, none⟩) xs.length xs.length) xs := by
  refine ⟨_, _, rfl, Nat.le_refl _, by unfold maxLen; omega, fun _ => ⟨X.heap.size, 0, rfl, by simp, fun i s hs => ?_⟩⟩
  rw [cell_of_row _ X.heap.size _ _ 9 (0, 0) (heap_alloc_new X _), Nat.zero_add]
  simp [hs]
theorem do_lit (W0 : World) (RAW NAME : ByteArray) (F : FuncId) (bS bM : Nat) (l : MapT.Ents) (xs : List ByteArray) (k n : Int) (s : ByteArray) (es : List Ent) (hF : CmdOk W0 F bS bM l 1 xs k n s R0 es) (hes : es.length ≤ 100000) (hm : MayApply es l) (hn : xs.length ≤ 1000)
    (hf : MapT.find NAME flT = some (.func (.func F) #[] #[])) (hx : xs[0]? = some RAW) (hent : ∀ (args : Array Value) (w : World), (callFunc F args).run Tryz.prog w = .ok (.enter F args) w) (hfit : ∀ v X, SSl X v xs → Calls Tryz.prog 39 #[v] X fun e w' => e = .returned (.int .i64 0) ∧ Below X.heap.size X w') (hup : ∀ X, Calls Tryz.prog 40 #[.string RAW] X fun e w' => e = .returned (.string NAME) ∧ Below X.heap.size X w') (X : World) (hL : LW W0 X bS bM l) :
    Calls Tryz.prog 6 #[.pointer (some ⟨bS, 0, none⟩), .slice (some ⟨X.heap.size, 0, none⟩) xs.length xs.length] (X.alloc (.cells (xs.map Value.string).toArray 9)) fun e w' => e = .returned (.agg #[.int .i64 k, .int .i64 n, .string s, .slice none 0 0]) ∧ LW W0 w' bS bM (applyE es l) ∧ Kp X.heap.size (fun i => i ≠ bS ∧ i ≠ bM) X w' := by
  have hb : Below X.heap.size X (X.alloc (.cells (xs.map Value.string).toArray 9)) := alloc_old
  refine (do_ok W0 RAW NAME F bS bM l xs _ k n s R0 es hF R0.keep hes hm _ (hL.below.trans (hb.mono (Below.size hL.below))) (hL.sp.below hb) (SSl.lit X xs hn) hf hx hent (hfit _) hup).mono ?_
  rintro e w' ⟨A, m, c, rfl, hR, hS, hK⟩
  cases hR
  have hK2 : Kp X.heap.size (fun i => i ≠ bS ∧ i ≠ bM) X w' := (Kp.of hb).trans (hK.mono (Below.size hb) (fun _ h => h))
  exact ⟨rfl, hL.step hS hK2, hK2⟩
theorem do_litF (W0 : World) (RAW NAME : ByteArray) (F : FuncId) (bS bM : Nat) (l : MapT.Ents) (xs : List ByteArray) (n : Int) (hF : CmdFail W0 F bS bM l 1 xs n) (hn : xs.length ≤ 1000)
    (hf : MapT.find NAME flT = some (.func (.func F) #[] #[])) (hx : xs[0]? = some RAW) (hent : ∀ (args : Array Value) (w : World), (callFunc F args).run Tryz.prog w = .ok (.enter F args) w) (hfit : ∀ v X, SSl X v xs → Calls Tryz.prog 39 #[v] X fun e w' => e = .returned (.int .i64 0) ∧ Below X.heap.size X w') (hup : ∀ X, Calls Tryz.prog 40 #[.string RAW] X fun e w' => e = .returned (.string NAME) ∧ Below X.heap.size X w') (X : World) (hL : LW W0 X bS bM l) :
    Calls Tryz.prog 6 #[.pointer (some ⟨bS, 0, none⟩), .slice (some ⟨X.heap.size, 0, none⟩) xs.length xs.length] (X.alloc (.cells (xs.map Value.string).toArray 9)) fun e w' => e = .returned (.agg #[.int .i64 2, .int .i64 n, .string ⟨#[]⟩, .slice none 0 0]) ∧ LW W0 w' bS bM l ∧ Kp X.heap.size (fun i => i ≠ bS ∧ i ≠ bM) X w' := by
  have hb : Below X.heap.size X (X.alloc (.cells (xs.map Value.string).toArray 9)) := alloc_old
  refine (do_fail W0 RAW NAME F bS bM l xs _ n hF _ (hL.below.trans (hb.mono (Below.size hL.below))) (hL.sp.below hb) (SSl.lit X xs hn) hf hx hent (hfit _) hup).mono ?_
  rintro e w' ⟨rfl, hB⟩
  have hB2 : Below X.heap.size X w' := hb.trans (hB.mono (Below.size hb))
  exact ⟨rfl, hL.old hB2, .of hB2⟩
theorem find_now (k : ByteArray) (v : Value) (l : MapT.Ents) : MapT.find k (MapT.put k v l) = some v := by rw [find_put, if_pos rfl]
theorem put_put (k : ByteArray) (v u : Value) : ∀ l, MapT.put k u (MapT.put k v l) = MapT.put k u l := by
  intro l
  induction l with
  | nil => simp [MapT.put]
  | cons p r ih =>
    obtain ⟨x, y⟩ := p
    by_cases hx : x = k
    · simp [MapT.put, hx]
    · simp [MapT.put, hx, ih]
theorem del_put_new (k : ByteArray) (v : Value) : MapT.del k (MapT.put k v []) = [] := by simp [MapT.put, MapT.del]
theorem SP.ne37 {X : World} {bS bM b : Nat} {l : MapT.Ents} {cs : Array Value} (h : SP X bS bM l) (hb : X.heap[b]? = some (.cells cs 36)) : b ≠ bS ∧ b ≠ bM := by
  obtain ⟨⟨mem, h1⟩, ⟨es, c, h2, _⟩, _⟩ := h
  refine ⟨fun e => ?_, fun e => ?_⟩
  · subst e; rw [h1] at hb; cases hb
  · subst e; rw [h2] at hb; cases hb
theorem keep37 {X Y : World} {bS bM b : Nat} {l : MapT.Ents} {cs : Array Value} (hK : Kp X.heap.size (fun i => i ≠ bS ∧ i ≠ bM) X Y) (h : SP X bS bM l) (hb : X.heap[b]? = some (.cells cs 36)) : Y.heap[b]? = some (.cells cs 36) :=
  (hK.block b (lt_blk hb) (h.ne37 hb)).trans hb
theorem field_K (k n : Int) (s : ByteArray) (w : World) : (Instr.field 36 (.agg #[.int .i64 k, .int .i64 n, .string s, .slice none 0 0]) 0).run Tryz.prog w = .ok (.int .i64 k) w := by kernel_rfl
theorem field_N (k n : Int) (s : ByteArray) (w : World) : (Instr.field 36 (.agg #[.int .i64 k, .int .i64 n, .string s, .slice none 0 0]) 1).run Tryz.prog w = .ok (.int .i64 n) w := by kernel_rfl
theorem field_S (k n : Int) (s : ByteArray) (w : World) : (Instr.field 36 (.agg #[.int .i64 k, .int .i64 n, .string s, .slice none 0 0]) 2).run Tryz.prog w = .ok (.string s) w := by kernel_rfl
end Go.Proofs.YtllaeocclpaiaaaGreatDoor
