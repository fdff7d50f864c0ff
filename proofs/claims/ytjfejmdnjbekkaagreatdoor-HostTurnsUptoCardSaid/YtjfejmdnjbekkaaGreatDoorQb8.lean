/- Texts joined: St25, CmdT, St7, St11, St12, St27, Ft -/
import Derived.Test.YtjfejmdnjbekkaaGreatDoorQb7
import Derived.KernelRfl
import GoSem.Core.World
import Derived.Test.YtjfejmdnjbekkaaGreatDoorQb1
import Derived.Deep.Cut
import Derived.Test.YtjfejmdnjbekkaaGreatDoorQb4
set_option linter.unusedVariables false
set_option linter.unusedSimpArgs false

/- strings.Do: the commands' functions by name. -/
namespace Go.MapT
open Go.MapKept Go.RowKit
theorem at_insert {P : Program} {t key elem : TypeId} {ops : Array Oper} {rest : List Oper} {o : Oper} {a : Act} {Q : Exit → Act → World → Prop} (w : World) (hg : o.guard = none) (m x v : Operand) (hop : o.op = Op.insert t m x v) (ht : P.underlying t = some (.map key elem)) (hk : P.underlying key = some .string)
    (b : Nat) (l : Ents) (hm : a.eval m = .map (some b)) (h : MB w b l) (k : ByteArray) (u : Value) (hx : a.eval x = .string k) (hv : a.eval v = u)
    (hK : ∀ w', MB w' b (put k u l) → w.grownBy w' (some b) → w'.heap.size = w.heap.size → wpList P ops Q rest (a.put o.dst undef) w') : wpList P ops Q (o :: rest) a w := by
  refine wpList_plain hg fun K' hK' => ?_
  obtain ⟨w', hrun, r1, r2, r3⟩ := run_update ht hk h k u
  unfold Oper.wp
  simp [execOp, hop, hm, hx, hv, hrun, Result.andThen]
  exact hK' _ _ (hK w' r1 r2 r3)
theorem at_insertF {P : Program} {t key elem : TypeId} {ops : Array Oper} {rest : List Oper} {o : Oper} {a : Act} {Q : Exit → Act → World → Prop} (w : World) (hg : o.guard = none) (hd : o.dst = none) (m : Operand) (k : ByteArray) (f : FuncId) (hop : o.op = Op.insert t m (.const (.string k)) (.func f)) (ht : P.underlying t = some (.map key elem)) (hk : P.underlying key = some .string)
    (b : Nat) (l : Ents) (hm : a.eval m = .map (some b)) (h : MB w b l)
    (hK : ∀ w', MB w' b (put k (.func (.func f) #[] #[]) l) → w.grownBy w' (some b) → wpList P ops Q rest a w') : wpList P ops Q (o :: rest) a w :=
  at_insert w hg m _ _ hop ht hk b l hm h k (.func (.func f) #[] #[]) rfl rfl (fun w' h1 h2 _ => by rw [hd]; exact hK w' h1 h2)
end Go.MapT
namespace Go.Proofs.YtjfejmdnjbekkaaGreatDoor
open Go.ChangeShapes Go.WideShapes Go.ChangeAt Go.RowKit

/-- The commands' functions. -/
def flT : MapT.Ents := MapT.put ⟨#[77, 83, 69, 84]⟩ (.func (.func 112) #[] #[]) (MapT.put ⟨#[77, 71, 69, 84]⟩ (.func (.func 111) #[] #[]) (MapT.put ⟨#[83, 69, 84, 82, 65, 78, 71, 69]⟩ (.func (.func 110) #[] #[]) (MapT.put ⟨#[71, 69, 84, 82, 65, 78, 71, 69]⟩ (.func (.func 109) #[] #[]) (MapT.put ⟨#[68, 69, 67, 82, 66, 89]⟩ (.func (.func 108) #[] #[]) (MapT.put ⟨#[73, 78, 67, 82, 66, 89]⟩ (.func (.func 107) #[] #[]) (MapT.put ⟨#[68, 69, 67, 82]⟩ (.func (.func 105) #[] #[]) (MapT.put ⟨#[73, 78, 67, 82]⟩ (.func (.func 102) #[] #[]) (MapT.put ⟨#[83, 84, 82, 76, 69, 78]⟩ (.func (.func 101) #[] #[]) (MapT.put ⟨#[65, 80, 80, 69, 78, 68]⟩ (.func (.func 100) #[] #[]) (MapT.put ⟨#[71, 69, 84, 68, 69, 76]⟩ (.func (.func 99) #[] #[]) (MapT.put ⟨#[71, 69, 84, 83, 69, 84]⟩ (.func (.func 98) #[] #[]) (MapT.put ⟨#[83, 69, 84, 78, 88]⟩ (.func (.func 97) #[] #[]) (MapT.put ⟨#[83, 69, 84]⟩ (.func (.func 96) #[] #[]) (MapT.put ⟨#[71, 69, 84]⟩ (.func (.func 95) #[] #[]) ([])))))))))))))))
theorem ins_step {w X Y : World} {b : Nat} {l l' : MapT.Ents} (h : MapT.MB X b l ∧ Below w.heap.size w X ∧ w.heap.size ≤ b) (h1 : MapT.MB Y b l') (h2 : X.grownBy Y (some b)) : MapT.MB Y b l' ∧ Below w.heap.size w Y ∧ w.heap.size ≤ b :=
  ⟨h1, h.2.1.grown h2 (Below.size h.2.1) (fun k hk => by cases hk; exact h.2.2), h.2.2⟩
theorem find_GET : MapT.find ⟨#[71, 69, 84]⟩ flT = some (.func (.func 95) #[] #[]) := by kernel_rfl
theorem ent_GET (args : Array Value) (w : World) : (callFunc 95 args).run Tryz.prog w = .ok (.enter 95 args) w := by kernel_rfl
theorem find_SET : MapT.find ⟨#[83, 69, 84]⟩ flT = some (.func (.func 96) #[] #[]) := by kernel_rfl
theorem ent_SET (args : Array Value) (w : World) : (callFunc 96 args).run Tryz.prog w = .ok (.enter 96 args) w := by kernel_rfl
theorem find_SETNX : MapT.find ⟨#[83, 69, 84, 78, 88]⟩ flT = some (.func (.func 97) #[] #[]) := by kernel_rfl
theorem ent_SETNX (args : Array Value) (w : World) : (callFunc 97 args).run Tryz.prog w = .ok (.enter 97 args) w := by kernel_rfl
theorem find_GETSET : MapT.find ⟨#[71, 69, 84, 83, 69, 84]⟩ flT = some (.func (.func 98) #[] #[]) := by kernel_rfl
theorem ent_GETSET (args : Array Value) (w : World) : (callFunc 98 args).run Tryz.prog w = .ok (.enter 98 args) w := by kernel_rfl
theorem find_GETDEL : MapT.find ⟨#[71, 69, 84, 68, 69, 76]⟩ flT = some (.func (.func 99) #[] #[]) := by kernel_rfl
theorem ent_GETDEL (args : Array Value) (w : World) : (callFunc 99 args).run Tryz.prog w = .ok (.enter 99 args) w := by kernel_rfl
theorem find_APPEND : MapT.find ⟨#[65, 80, 80, 69, 78, 68]⟩ flT = some (.func (.func 100) #[] #[]) := by kernel_rfl
theorem ent_APPEND (args : Array Value) (w : World) : (callFunc 100 args).run Tryz.prog w = .ok (.enter 100 args) w := by kernel_rfl
theorem find_STRLEN : MapT.find ⟨#[83, 84, 82, 76, 69, 78]⟩ flT = some (.func (.func 101) #[] #[]) := by kernel_rfl
theorem ent_STRLEN (args : Array Value) (w : World) : (callFunc 101 args).run Tryz.prog w = .ok (.enter 101 args) w := by kernel_rfl
theorem find_INCR : MapT.find ⟨#[73, 78, 67, 82]⟩ flT = some (.func (.func 102) #[] #[]) := by kernel_rfl
theorem ent_INCR (args : Array Value) (w : World) : (callFunc 102 args).run Tryz.prog w = .ok (.enter 102 args) w := by kernel_rfl
theorem find_DECR : MapT.find ⟨#[68, 69, 67, 82]⟩ flT = some (.func (.func 105) #[] #[]) := by kernel_rfl
theorem ent_DECR (args : Array Value) (w : World) : (callFunc 105 args).run Tryz.prog w = .ok (.enter 105 args) w := by kernel_rfl
theorem find_INCRBY : MapT.find ⟨#[73, 78, 67, 82, 66, 89]⟩ flT = some (.func (.func 107) #[] #[]) := by kernel_rfl
theorem ent_INCRBY (args : Array Value) (w : World) : (callFunc 107 args).run Tryz.prog w = .ok (.enter 107 args) w := by kernel_rfl
theorem find_DECRBY : MapT.find ⟨#[68, 69, 67, 82, 66, 89]⟩ flT = some (.func (.func 108) #[] #[]) := by kernel_rfl
theorem ent_DECRBY (args : Array Value) (w : World) : (callFunc 108 args).run Tryz.prog w = .ok (.enter 108 args) w := by kernel_rfl
theorem find_GETRANGE : MapT.find ⟨#[71, 69, 84, 82, 65, 78, 71, 69]⟩ flT = some (.func (.func 109) #[] #[]) := by kernel_rfl
theorem ent_GETRANGE (args : Array Value) (w : World) : (callFunc 109 args).run Tryz.prog w = .ok (.enter 109 args) w := by kernel_rfl
theorem find_SETRANGE : MapT.find ⟨#[83, 69, 84, 82, 65, 78, 71, 69]⟩ flT = some (.func (.func 110) #[] #[]) := by kernel_rfl
theorem ent_SETRANGE (args : Array Value) (w : World) : (callFunc 110 args).run Tryz.prog w = .ok (.enter 110 args) w := by kernel_rfl
theorem find_MGET : MapT.find ⟨#[77, 71, 69, 84]⟩ flT = some (.func (.func 111) #[] #[]) := by kernel_rfl
theorem ent_MGET (args : Array Value) (w : World) : (callFunc 111 args).run Tryz.prog w = .ok (.enter 111 args) w := by kernel_rfl
theorem find_MSET : MapT.find ⟨#[77, 83, 69, 84]⟩ flT = some (.func (.func 112) #[] #[]) := by kernel_rfl
theorem ent_MSET (args : Array Value) (w : World) : (callFunc 112 args).run Tryz.prog w = .ok (.enter 112 args) w := by kernel_rfl
set_option maxRecDepth 100000 in
set_option maxHeartbeats 8000000 in
theorem Do_ok (W0 : World) (RAW NAME : ByteArray) (F : FuncId) (bS bM : Nat) (l : MapT.Ents) (now : Int) (xs : List ByteArray) (vA : Value) (k n : Int) (s : ByteArray) (R : Nat → World → Value → Prop) (es : List Ent) (hF : CmdOk W0 F bS bM l now xs k n s R es) (hR : RKeep R) (w : World) (hI : Below W0.heap.size W0 w) (hS : SP w bS bM l) (hA : SSl w vA xs) (hf : MapT.find NAME flT = some (.func (.func F) #[] #[])) (hx : xs[0]? = some RAW) (hent : ∀ (args : Array Value) (w : World), (callFunc F args).run Tryz.prog w = .ok (.enter F args) w) (hfit : ∀ X, SSl X vA xs → Calls Tryz.prog 28 #[vA] X fun e w' => e = .returned (.int .i64 0) ∧ Below X.heap.size X w') (hup : ∀ X, Calls Tryz.prog 30 #[.string RAW] X fun e w' => e = .returned (.string NAME) ∧ Below X.heap.size X w') :
    Calls Tryz.prog 57 #[.pointer (some ⟨bS, 0, none⟩), .int .i64 now, vA] w fun e w' => ∃ A m c A' n' c', e = .returned (.tuple #[.agg #[.int .i64 k, .int .i64 n, .string s, .slice A m c], .slice A' n' c', .bool true]) ∧ R w.heap.size w' (.slice A m c) ∧ EF w' w.heap.size (.slice A' n' c') es ∧ Below w.heap.size w w' := by
  have hmm := @run_makeMap Tryz.prog
  have Q9 := Lib.hid (show MapT.MB ((w.alloc (.cells #[.int .i64 0, .int .i64 0, .string ⟨#[]⟩, .slice none 0 0] 24)).alloc (.map #[] 0)) (w.heap.size + 1) [] ∧ Below w.heap.size w ((w.alloc (.cells #[.int .i64 0, .int .i64 0, .string ⟨#[]⟩, .slice none 0 0] 24)).alloc (.map #[] 0)) ∧ w.heap.size ≤ w.heap.size + 1 from ⟨by
    have := MapT.MB.made (w.alloc (.cells #[.int .i64 0, .int .i64 0, .string ⟨#[]⟩, .slice none 0 0] 24))
    rw [World.size_alloc] at this
    exact this, alloc_old.trans (alloc_old.mono (by simp)), by omega⟩)
  have b6 := Lib.hid (show ((w.alloc (.cells #[.int .i64 0, .int .i64 0, .string ⟨#[]⟩, .slice none 0 0] 24)).alloc (.map #[] 0)).heap[w.heap.size]? = some (.cells #[.int .i64 0, .int .i64 0, .string ⟨#[]⟩, .slice none 0 0] 24) from blk_below (heap_alloc_new w _) alloc_old)
  have RR := Lib.hid (fun X (hX : MapT.MB X (w.heap.size + 1) flT ∧ Below w.heap.size w X ∧ w.heap.size ≤ w.heap.size + 1) => Run_ok W0 RAW NAME F bS bM (w.heap.size + 1) l flT now xs vA k n s R es hF hR X (hI.trans (hX.2.1.mono (Below.size hI))) (hS.below hX.2.1) (hA.below hX.2.1) hX.1 hf hx hent hfit hup)
  obtain ⟨aA, acap, hvA, _⟩ := id hA
  clear hf hent hfit hup hA hS hx hF
  subst hvA
  go_enter Tryz.func57, Tryz.ntmps57
  go_wp2_with (first | (refine MapT.at_insertF _ rfl rfl _ _ _ rfl Tryz.underlying141 Tryz.underlying9 (w.heap.size + 1) _ rfl Q9.out.1 ?_; intro w9 hM9 hg9; have b6 := Lib.hid ((grown_block hg9 (lt_blk b6.out) (by omega)).trans b6.out); have Q9 := Lib.hid (ins_step Q9.out hM9 hg9); clear hM9 hg9) | (go_at_call 76; (with_reducible refine (RR.out _ Q9.out).mono ?_); rintro e w5 ⟨A, m, c, A', n', c', rfl, hRR, hE5, hb5⟩; have B5 := Lib.hid hb5; obtain ⟨⟨a0, a1, a2, a3⟩, ⟨f0, f1, f2, f3⟩⟩ := cells4 (blk_below b6.out hb5); clear hb5))
  have BW := Lib.hid (Q9.out.2.1.trans (B5.out.mono (Below.size Q9.out.2.1)))
  have hle : w.heap.size + 1 ≤ w9.heap.size := Nat.le_of_lt (Q9.out.1).lt
  have hR6 := hR.kept _ _ _ _ (hR.mono _ (w.heap.size + 1) _ _ hRR hle) (show w5.heap.size ≤ (((((w5.setCell ⟨w.heap.size, 0, none⟩ (.int .i64 k)).setCell ⟨w.heap.size, 1, none⟩ (.int .i64 n)).setCell ⟨w.heap.size, 2, none⟩ (.string s)).setCell ⟨w.heap.size, 3, none⟩ (.slice A m c))).heap.size by simp [World.setCell]) (fun i hi _ => far4 (X := w5) (b := w.heap.size) _ _ _ _ (by omega))
  have hE6 := EF.kept (w' := (((((w5.setCell ⟨w.heap.size, 0, none⟩ (.int .i64 k)).setCell ⟨w.heap.size, 1, none⟩ (.int .i64 n)).setCell ⟨w.heap.size, 2, none⟩ (.string s)).setCell ⟨w.heap.size, 3, none⟩ (.slice A m c)))) (hE5.mono hle) (by simp [World.setCell]) (fun g hg => far4 (X := w5) (b := w.heap.size) (.int .i64 k) (.int .i64 n) (.string s) (.slice A m c) (by have := (hE5.own g hg).1; omega))
  exact bodyPost_ret (v := .tuple #[.agg #[.int .i64 k, .int .i64 n, .string s, .slice A m c], .slice A' n' c', .bool true]) (by simp [results, Tryz.results57, go_sem, a0, a1, a2, a3]) rfl ⟨A, m, c, A', n', c', rfl, hR.mono _ _ _ _ hR6 (by omega), hE6.mono (by omega), (((BW.out.setCell (p := ⟨w.heap.size, 0, none⟩) (Nat.le_refl _) _).setCell (p := ⟨w.heap.size, 1, none⟩) (Nat.le_refl _) _).setCell (p := ⟨w.heap.size, 2, none⟩) (Nat.le_refl _) _).setCell (p := ⟨w.heap.size, 3, none⟩) (Nat.le_refl _) _⟩
set_option maxRecDepth 100000 in
set_option maxHeartbeats 8000000 in
theorem Do_fail (W0 : World) (RAW NAME : ByteArray) (F : FuncId) (bS bM : Nat) (l : MapT.Ents) (now : Int) (xs : List ByteArray) (vA : Value) (n : Int) (hF : CmdFail W0 F bS bM l now xs n) (w : World) (hI : Below W0.heap.size W0 w) (hS : SP w bS bM l) (hA : SSl w vA xs) (hf : MapT.find NAME flT = some (.func (.func F) #[] #[])) (hx : xs[0]? = some RAW) (hent : ∀ (args : Array Value) (w : World), (callFunc F args).run Tryz.prog w = .ok (.enter F args) w) (hfit : ∀ X, SSl X vA xs → Calls Tryz.prog 28 #[vA] X fun e w' => e = .returned (.int .i64 0) ∧ Below X.heap.size X w') (hup : ∀ X, Calls Tryz.prog 30 #[.string RAW] X fun e w' => e = .returned (.string NAME) ∧ Below X.heap.size X w') :
    Calls Tryz.prog 57 #[.pointer (some ⟨bS, 0, none⟩), .int .i64 now, vA] w fun e w' => e = .returned (.tuple #[.agg #[.int .i64 2, .int .i64 n, .string ⟨#[]⟩, .slice none 0 0], .slice none 0 0, .bool true]) ∧ Below w.heap.size w w' := by
  have hmm := @run_makeMap Tryz.prog
  have Q9 := Lib.hid (show MapT.MB ((w.alloc (.cells #[.int .i64 0, .int .i64 0, .string ⟨#[]⟩, .slice none 0 0] 24)).alloc (.map #[] 0)) (w.heap.size + 1) [] ∧ Below w.heap.size w ((w.alloc (.cells #[.int .i64 0, .int .i64 0, .string ⟨#[]⟩, .slice none 0 0] 24)).alloc (.map #[] 0)) ∧ w.heap.size ≤ w.heap.size + 1 from ⟨by
    have := MapT.MB.made (w.alloc (.cells #[.int .i64 0, .int .i64 0, .string ⟨#[]⟩, .slice none 0 0] 24))
    rw [World.size_alloc] at this
    exact this, alloc_old.trans (alloc_old.mono (by simp)), by omega⟩)
  have b6 := Lib.hid (show ((w.alloc (.cells #[.int .i64 0, .int .i64 0, .string ⟨#[]⟩, .slice none 0 0] 24)).alloc (.map #[] 0)).heap[w.heap.size]? = some (.cells #[.int .i64 0, .int .i64 0, .string ⟨#[]⟩, .slice none 0 0] 24) from blk_below (heap_alloc_new w _) alloc_old)
  have RR := Lib.hid (fun X (hX : MapT.MB X (w.heap.size + 1) flT ∧ Below w.heap.size w X ∧ w.heap.size ≤ w.heap.size + 1) => Run_fail W0 RAW NAME F bS bM (w.heap.size + 1) l flT now xs vA n hF X (hI.trans (hX.2.1.mono (Below.size hI))) (hS.below hX.2.1) (hA.below hX.2.1) hX.1 hf hx hent hfit hup)
  obtain ⟨aA, acap, hvA, _⟩ := id hA
  clear hf hent hfit hup hA hS hx hF
  subst hvA
  go_enter Tryz.func57, Tryz.ntmps57
  go_wp2_with (first | (refine MapT.at_insertF _ rfl rfl _ _ _ rfl Tryz.underlying141 Tryz.underlying9 (w.heap.size + 1) _ rfl Q9.out.1 ?_; intro w9 hM9 hg9; have b6 := Lib.hid ((grown_block hg9 (lt_blk b6.out) (by omega)).trans b6.out); have Q9 := Lib.hid (ins_step Q9.out hM9 hg9); clear hM9 hg9) | (go_at_call 76; (with_reducible refine (RR.out _ Q9.out).mono ?_); rintro e w5 ⟨rfl, hb5⟩; have B5 := Lib.hid hb5; obtain ⟨⟨a0, a1, a2, a3⟩, ⟨f0, f1, f2, f3⟩⟩ := cells4 (blk_below b6.out hb5); clear hb5))
  have BW := Lib.hid (Q9.out.2.1.trans (B5.out.mono (Below.size Q9.out.2.1)))
  exact bodyPost_ret (v := .tuple #[.agg #[.int .i64 2, .int .i64 n, .string ⟨#[]⟩, .slice none 0 0], .slice none 0 0, .bool true]) (by simp [results, Tryz.results57, go_sem, a0, a1, a2, a3]) rfl ⟨rfl, (((BW.out.setCell (p := ⟨w.heap.size, 0, none⟩) (Nat.le_refl _) _).setCell (p := ⟨w.heap.size, 1, none⟩) (Nat.le_refl _) _).setCell (p := ⟨w.heap.size, 2, none⟩) (Nat.le_refl _) _).setCell (p := ⟨w.heap.size, 3, none⟩) (Nat.le_refl _) _⟩
end Go.Proofs.YtjfejmdnjbekkaaGreatDoor

/- The commands' table as plain data (no program). -/
namespace Go.CmdT

/-- A command's row: its name, least and most arguments, does it write, first key, last key, step. -/
abbrev Row := List UInt8 × Int × Int × Bool × Int × Int × Int
def rowsT : List Row := [
  ([68, 69, 76], 2, 0, true, 1, (-1), 1),
  ([69, 88, 73, 83, 84, 83], 2, 0, false, 1, (-1), 1),
  ([84, 89, 80, 69], 2, 2, false, 1, 1, 1),
  ([82, 69, 78, 65, 77, 69], 3, 3, true, 1, 2, 1),
  ([82, 69, 78, 65, 77, 69, 78, 88], 3, 3, true, 1, 2, 1),
  ([69, 88, 80, 73, 82, 69], 3, 3, true, 1, 1, 1),
  ([80, 69, 88, 80, 73, 82, 69], 3, 3, true, 1, 1, 1),
  ([80, 69, 88, 80, 73, 82, 69, 65, 84], 3, 3, true, 1, 1, 1),
  ([84, 84, 76], 2, 2, false, 1, 1, 1),
  ([80, 84, 84, 76], 2, 2, false, 1, 1, 1),
  ([80, 69, 82, 83, 73, 83, 84], 2, 2, true, 1, 1, 1),
  ([75, 69, 89, 83], 1, 1, false, 0, 0, 0),
  ([68, 66, 83, 73, 90, 69], 1, 1, false, 0, 0, 0),
  ([70, 76, 85, 83, 72, 65, 76, 76], 1, 1, true, 0, 0, 0),
  ([71, 69, 84], 2, 2, false, 1, 1, 1),
  ([83, 69, 84], 3, 6, true, 1, 1, 1),
  ([83, 69, 84, 78, 88], 3, 3, true, 1, 1, 1),
  ([71, 69, 84, 83, 69, 84], 3, 3, true, 1, 1, 1),
  ([71, 69, 84, 68, 69, 76], 2, 2, true, 1, 1, 1),
  ([65, 80, 80, 69, 78, 68], 3, 3, true, 1, 1, 1),
  ([83, 84, 82, 76, 69, 78], 2, 2, false, 1, 1, 1),
  ([73, 78, 67, 82], 2, 2, true, 1, 1, 1),
  ([68, 69, 67, 82], 2, 2, true, 1, 1, 1),
  ([73, 78, 67, 82, 66, 89], 3, 3, true, 1, 1, 1),
  ([68, 69, 67, 82, 66, 89], 3, 3, true, 1, 1, 1),
  ([71, 69, 84, 82, 65, 78, 71, 69], 4, 4, false, 1, 1, 1),
  ([83, 69, 84, 82, 65, 78, 71, 69], 4, 4, true, 1, 1, 1),
  ([77, 71, 69, 84], 2, 0, false, 1, (-1), 1),
  ([77, 83, 69, 84], 3, 0, true, 1, (-2), 2),
  ([76, 80, 85, 83, 72], 3, 0, true, 1, 1, 1),
  ([82, 80, 85, 83, 72], 3, 0, true, 1, 1, 1),
  ([76, 80, 85, 83, 72, 88], 3, 0, true, 1, 1, 1),
  ([82, 80, 85, 83, 72, 88], 3, 0, true, 1, 1, 1),
  ([76, 80, 79, 80], 2, 2, true, 1, 1, 1),
  ([82, 80, 79, 80], 2, 2, true, 1, 1, 1),
  ([76, 76, 69, 78], 2, 2, false, 1, 1, 1),
  ([76, 73, 78, 68, 69, 88], 3, 3, false, 1, 1, 1),
  ([76, 83, 69, 84], 4, 4, true, 1, 1, 1),
  ([76, 82, 65, 78, 71, 69], 4, 4, false, 1, 1, 1),
  ([76, 84, 82, 73, 77], 4, 4, true, 1, 1, 1),
  ([76, 82, 69, 77], 4, 4, true, 1, 1, 1),
  ([76, 73, 78, 83, 69, 82, 84], 5, 5, true, 1, 1, 1),
  ([82, 80, 79, 80, 76, 80, 85, 83, 72], 3, 3, true, 1, 2, 1),
  ([72, 83, 69, 84], 4, 0, true, 1, 1, 1),
  ([72, 83, 69, 84, 78, 88], 4, 4, true, 1, 1, 1),
  ([72, 71, 69, 84], 3, 3, false, 1, 1, 1),
  ([72, 77, 71, 69, 84], 3, 0, false, 1, 1, 1),
  ([72, 68, 69, 76], 3, 0, true, 1, 1, 1),
  ([72, 69, 88, 73, 83, 84, 83], 3, 3, false, 1, 1, 1),
  ([72, 76, 69, 78], 2, 2, false, 1, 1, 1),
  ([72, 83, 84, 82, 76, 69, 78], 3, 3, false, 1, 1, 1),
  ([72, 75, 69, 89, 83], 2, 2, false, 1, 1, 1),
  ([72, 86, 65, 76, 83], 2, 2, false, 1, 1, 1),
  ([72, 71, 69, 84, 65, 76, 76], 2, 2, false, 1, 1, 1),
  ([72, 73, 78, 67, 82, 66, 89], 4, 4, true, 1, 1, 1),
  ([90, 65, 68, 68], 4, 0, true, 1, 1, 1),
  ([90, 73, 78, 67, 82, 66, 89], 4, 4, true, 1, 1, 1),
  ([90, 82, 69, 77], 3, 0, true, 1, 1, 1),
  ([90, 83, 67, 79, 82, 69], 3, 3, false, 1, 1, 1),
  ([90, 67, 65, 82, 68], 2, 2, false, 1, 1, 1),
  ([90, 82, 65, 78, 75], 3, 3, false, 1, 1, 1),
  ([90, 82, 69, 86, 82, 65, 78, 75], 3, 3, false, 1, 1, 1),
  ([90, 82, 65, 78, 71, 69], 4, 4, false, 1, 1, 1),
  ([90, 82, 69, 86, 82, 65, 78, 71, 69], 4, 4, false, 1, 1, 1),
  ([90, 82, 65, 78, 71, 69, 66, 89, 83, 67, 79, 82, 69], 4, 4, false, 1, 1, 1),
  ([90, 67, 79, 85, 78, 84], 4, 4, false, 1, 1, 1),
  ([90, 80, 79, 80, 77, 73, 78], 2, 2, true, 1, 1, 1),
  ([90, 80, 79, 80, 77, 65, 88], 2, 2, true, 1, 1, 1),
  ([90, 82, 69, 77, 82, 65, 78, 71, 69, 66, 89, 82, 65, 78, 75], 4, 4, true, 1, 1, 1),
  ([90, 82, 69, 77, 82, 65, 78, 71, 69, 66, 89, 83, 67, 79, 82, 69], 4, 4, true, 1, 1, 1),
  ([80, 65, 68, 68], 5, 0, true, 1, 1, 1),
  ([80, 82, 69, 77], 3, 0, true, 1, 1, 1),
  ([80, 80, 79, 83], 3, 3, false, 1, 1, 1),
  ([80, 67, 65, 82, 68], 2, 2, false, 1, 1, 1),
  ([80, 77, 79, 86, 69], 4, 4, true, 1, 1, 1),
  ([80, 84, 85, 82, 78], 3, 3, true, 1, 1, 1),
  ([80, 83, 67, 65, 76, 69], 4, 4, true, 1, 1, 1),
  ([80, 78, 69, 65, 82], 4, 4, false, 1, 1, 1),
  ([80, 83, 85, 77], 2, 2, false, 1, 1, 1),
  ([80, 65, 76, 76], 2, 2, false, 1, 1, 1),
  ([80, 73, 78, 71], 1, 1, false, 0, 0, 0),
  ([69, 67, 72, 79], 2, 2, false, 0, 0, 0)]
def rowC (r : Row) : List Value := [.string ⟨r.1.toArray⟩, .int .i64 r.2.1, .int .i64 r.2.2.1, .bool r.2.2.2.1, .int .i64 r.2.2.2.2.1, .int .i64 r.2.2.2.2.2.1, .int .i64 r.2.2.2.2.2.2]
def rowsC : Array Value := (rowsT.flatMap rowC).toArray
theorem rowsT_len : rowsT.length = 82 := by kernel_rfl
theorem flat_at (l : List Row) (k j : Nat) (r : Row) (v : Value) (hk : l[k]? = some r) (hv : (rowC r)[j]? = some v) : (l.flatMap rowC)[k * 7 + j]? = some v := by
  induction l generalizing k with
  | nil => cases hk
  | cons q t ih =>
    rw [List.flatMap_cons]
    have hj : j < 7 := (List.getElem?_eq_some_iff.1 hv).1
    have hl : (rowC q).length = 7 := rfl
    cases k with
    | zero =>
      cases hk
      rw [List.getElem?_append_left (by omega), Nat.zero_mul, Nat.zero_add]
      exact hv
    | succ k =>
      rw [List.getElem?_append_right (by omega), hl, show (k + 1) * 7 + j - 7 = k * 7 + j by omega]
      exact ih k hk
theorem rows_at (k j : Nat) (r : Row) (v : Value) (hk : rowsT[k]? = some r) (hv : (rowC r)[j]? = some v) : rowsC[k * 7 + j]? = some v := by
  unfold rowsC
  rw [List.getElem?_toArray]
  exact flat_at _ k j r v hk hv
def nameAt (k : Nat) : List UInt8 := (rowsT.getD k default).1
theorem names_apart : ((List.range 82).all fun k => (List.range k).all fun j => !(nameAt j == nameAt k)) = true := by kernel_rfl
theorem name_ne {k j : Nat} (hk : k < 82) (hj : j < k) : (nameAt j == nameAt k) = false := by
  have h1 := List.all_eq_true.1 names_apart k (List.mem_range.2 hk)
  have h2 := List.all_eq_true.1 h1 j (List.mem_range.2 hj)
  simpa using h2
end Go.CmdT

/- The commands' table: what command.rows lays in memory. -/
namespace Go.Proofs.YtjfejmdnjbekkaaGreatDoor
open Go.ChangeShapes Go.WideShapes Go.ChangeAt Go.RowKit

/-- A region's operations, run one behind the other, where none is guarded, none enters a function, none halts. -/
def runOps (P : Program) : List Oper → Act → World → Option (Act × World)
  | [], a, w => some (a, w)
  | o :: rest, a, w =>
    match o.guard with
    | some _ => none
    | none =>
      match (execOp a.eval o).run P w with
      | .ok (.value v) w' => runOps P rest (a.put o.dst v) w'
      | .ok .skip w' => runOps P rest (a.put o.dst undef) w'
      | _ => none
theorem wpList_run {P : Program} {ops : Array Oper} {Q : Exit → Act → World → Prop} : ∀ (l : List Oper) (a : Act) (w : World) (r : Act × World), runOps P l a w = some r → Q .normal r.1 r.2 → wpList P ops Q l a w := by
  intro l
  induction l with
  | nil =>
    intro a w r h k
    unfold runOps at h
    cases h
    exact k
  | cons o rest ih =>
    intro a w r h k
    unfold runOps at h
    split at h
    · cases h
    · rename_i hg
      split at h
      · rename_i v w' hrun
        refine wpList_plain hg fun K hK => ?_
        unfold Oper.wp
        rw [hrun, Oper.upon_value]
        exact hK _ _ (ih _ _ _ h k)
      · rename_i w' hrun
        refine wpList_plain hg fun K hK => ?_
        unfold Oper.wp
        rw [hrun, Oper.upon_skip]
        exact hK _ _ (ih _ _ _ h k)
      · cases h
theorem wpList_run0 {P : Program} {ops : Array Oper} {Q : Exit → Act → World → Prop} {l : List Oper} {a : Act} {w : World} (v0 : Value) (w' : World) (h : (runOps P l a w).map (fun r => (r.1.tmps.getD 0 undef, r.1.defers, r.2)) = some (v0, [], w'))
    (k : ∀ a', a'.tmps.getD 0 undef = v0 → a'.defers = [] → Q .normal a' w') : wpList P ops Q l a w := by
  cases hr : runOps P l a w with
  | none => rw [hr] at h; cases h
  | some r =>
    rw [hr] at h
    simp only [Option.map_some, Option.some.injEq, Prod.mk.injEq] at h
    obtain ⟨h1, h2, h3⟩ := h
    refine wpList_run l a w r hr ?_
    rw [h3]
    exact k _ h1 h2
set_option maxRecDepth 100000 in
set_option maxHeartbeats 4000000 in
theorem rows96 (w : World) : Calls Tryz.prog 44 #[] w fun e w' => e = .returned (.slice (some ⟨w.heap.size, 0, none⟩) 82 82) ∧ w.alloc (.cells CmdT.rowsC 68) = w' := by
  go_enter Tryz.func44, Tryz.ntmps44
  go_step
  apply wp_seq_k
  intro K1 hK1
  apply wp_region_lit
  refine wpList_run _ _ _ _ rfl ?_
  simp only [Exit.then]
  apply hK1
  apply wp_seq_k
  intro K2 hK2
  apply wp_region_list
  refine wpList_run0 (.slice (some ⟨w.heap.size, 0, none⟩) 82 82) (w.alloc (.cells CmdT.rowsC 68)) (by kernel_rfl) ?_
  intro a' h1 h2
  simp only [Exit.then]
  apply hK2
  clear hK1 hK2
  go_step
  exact bodyPost_ret (v := .slice (some ⟨w.heap.size, 0, none⟩) 82 82) (by simp [results, Tryz.results44, go_sem]; simpa using h1) h2 ⟨rfl, rfl⟩
end Go.Proofs.YtjfejmdnjbekkaaGreatDoor

/- command.Find at any row of the table. -/
namespace Go.Proofs.YtjfejmdnjbekkaaGreatDoor
open Go.ChangeShapes Go.WideShapes Go.ChangeAt Go.RowKit

/-- A block of seven cells that is known whole. -/
theorem cells7 {X : World} {b : Nat} {a0 a1 a2 a3 a4 a5 a6 : Value} {t : TypeId} (h : X.heap[b]? = some (.cells #[a0, a1, a2, a3, a4, a5, a6] t)) :
    (X.cell? ⟨b, 0, none⟩ = some a0 ∧ X.cell? ⟨b, 1, none⟩ = some a1 ∧ X.cell? ⟨b, 2, none⟩ = some a2 ∧ X.cell? ⟨b, 3, none⟩ = some a3 ∧ X.cell? ⟨b, 4, none⟩ = some a4 ∧ X.cell? ⟨b, 5, none⟩ = some a5 ∧ X.cell? ⟨b, 6, none⟩ = some a6) ∧
    (X.frozen? ⟨b, 0, none⟩ = false ∧ X.frozen? ⟨b, 1, none⟩ = false ∧ X.frozen? ⟨b, 2, none⟩ = false ∧ X.frozen? ⟨b, 3, none⟩ = false ∧ X.frozen? ⟨b, 4, none⟩ = false ∧ X.frozen? ⟨b, 5, none⟩ = false ∧ X.frozen? ⟨b, 6, none⟩ = false) ∧ b < X.heap.size := by
  refine ⟨⟨?_, ?_, ?_, ?_, ?_, ?_, ?_⟩, ⟨?_, ?_, ?_, ?_, ?_, ?_, ?_⟩, (Array.getElem?_eq_some_iff.1 h).1⟩ <;> simp [World.cell?, World.frozen?, h]
def zero7 : Array Value := #[.string ⟨#[]⟩, .int .i64 0, .int .i64 0, .bool false, .int .i64 0, .int .i64 0, .int .i64 0]
theorem row_cells {X : World} {R : Nat} (h : X.heap[R]? = some (.cells CmdT.rowsC 68)) (k : Nat) (r : CmdT.Row) (hk : CmdT.rowsT[k]? = some r) (j : Nat) (v : Value) (hv : (CmdT.rowC r)[j]? = some v) : X.cell? ⟨R, k * 7 + j, none⟩ = some v := by
  have := CmdT.rows_at k j r v hk hv
  simp [World.cell?, h, this]
theorem name_at {k : Nat} {r : CmdT.Row} (h : CmdT.rowsT[k]? = some r) : CmdT.nameAt k = r.1 := by unfold CmdT.nameAt; rw [List.getD, h]; rfl
set_option maxHeartbeats 4000000 in
theorem Find_at (K : Nat) (raw b0 : ByteArray) (b1 b2 : Int) (b3 : Bool) (b4 b5 b6 : Int) (l0 : List UInt8) (hl0 : b0 = ⟨l0.toArray⟩) (hK : CmdT.rowsT[K]? = some (l0, b1, b2, b3, b4, b5, b6))
    (hu : ∀ w, Calls Tryz.prog 30 #[.string raw] w fun e w' => e = .returned (.string b0) ∧ Below w.heap.size w w') (w : World) :
    Calls Tryz.prog 35 #[.string raw] w fun e w' => e = .returned (.tuple #[.agg #[.string b0, .int .i64 b1, .int .i64 b2, .bool b3, .int .i64 b4, .int .i64 b5, .int .i64 b6], .bool true]) ∧ Below w.heap.size w w' := by
  have U := Lib.hid hu
  have R := Lib.hid (fun w => rows96 w)
  have HK := Lib.hid hK
  have HL := Lib.hid hl0
  have hKl : K < 82 := by have := (List.getElem?_eq_some_iff.1 hK).1; rw [CmdT.rowsT_len] at this; exact this
  have HKL := Lib.hid hKl
  clear hu hK hl0 hKl
  go_enter Tryz.func35, Tryz.ntmps35
  go_wp2_with (first | (go_at_call 30; (with_reducible refine (U.out _).mono ?_); rintro e w1 ⟨rfl, hb1⟩; have HB1 := Lib.hid hb1; clear hb1) | (go_at_call 44; (with_reducible refine (R.out _).mono ?_); rintro e w2 ⟨rfl, hw2⟩; refine Hid.out ?_))
  obtain ⟨RR, hR⟩ : ∃ R, w1.heap.size = R := ⟨_, rfl⟩
  rw [hR]
  have hz1 : w1.heap[w.heap.size]? = some (.cells zero7 68) := blk_below (W := w.alloc (.cells zero7 68)) (heap_alloc_new w _) HB1.out
  have hz2 : w2.heap[w.heap.size]? = some (.cells zero7 68) := by rw [← hw2]; exact blk_below hz1 alloc_old
  have hz3 : w2.heap[RR]? = some (.cells CmdT.rowsC 68) := by rw [← hw2, ← hR]; exact heap_alloc_new w1 _
  have hlt1 : w.heap.size < w1.heap.size := (Array.getElem?_eq_some_iff.1 hz1).1
  have hz4 : Below w.heap.size w w2 := by
    rw [← hw2]
    exact ((Below.alloc (Below.refl _ _) (Nat.le_refl _) _).trans (HB1.out.mono (by simp))).alloc (by omega) _
  have HZ := Lib.hid (And.intro hz2 (And.intro hz3 hz4))
  clear hz1 hz2 hz3 hz4 hw2 hR hlt1
  refine Lib.hid ?_
  go_wp2_with fail
  go_loopw [10] (fun i wr => ∃ k : Nat, k ≤ K ∧ i = .int .i64 k ∧ Hid (wr.heap[w.heap.size]? = some (.cells zero7 68) ∧ wr.heap[RR]? = some (.cells CmdT.rowsC 68) ∧ Below w.heap.size w wr)) (fun i _ => 82 - (intOf i).toNat)
  case atStart => exact ⟨0, by omega, rfl, HZ⟩
  case round =>
    obtain ⟨k, hk, rfl, HQ⟩ := hrel
    have hkl := HKL.out
    have ik : (k : Int) < 82 := by omega
    obtain ⟨⟨x, a1, a2, a3, a4, a5, a6⟩, hrow⟩ : ∃ r, CmdT.rowsT[k]? = some r := ⟨_, List.getElem?_eq_getElem (by rw [CmdT.rowsT_len]; omega)⟩
    have hc0 := row_cells HQ.out.2.1 k _ hrow 0 _ rfl
    have hc1 := row_cells HQ.out.2.1 k _ hrow 1 _ rfl
    have hc2 := row_cells HQ.out.2.1 k _ hrow 2 _ rfl
    have hc3 := row_cells HQ.out.2.1 k _ hrow 3 _ rfl
    have hc4 := row_cells HQ.out.2.1 k _ hrow 4 _ rfl
    have hc5 := row_cells HQ.out.2.1 k _ hrow 5 _ rfl
    have hc6 := row_cells HQ.out.2.1 k _ hrow 6 _ rfl
    rw [Nat.add_zero] at hc0
    obtain ⟨a0, ha0⟩ : ∃ a0 : ByteArray, (⟨x.toArray⟩ : ByteArray) = a0 := ⟨_, rfl⟩
    simp only [ha0] at hc0
    by_cases hlt : k < K
    · have hne : ¬ a0.toList = b0.toList := by
        rw [← ha0, HL.out, ByteArray.toList_mk, ByteArray.toList_mk]
        have h1 := CmdT.name_ne HKL.out hlt
        rw [name_at hrow, name_at HK.out] at h1
        exact beq_eq_false_iff_ne.1 h1
      have hne2 : (a0.toList == b0.toList) = false := beq_eq_false_iff_ne.2 hne
      clear hrow ha0
      go_wp2
      have hsz : w.heap.size ≤ wr.heap.size := Below.size HQ.out.2.2
      exact ⟨⟨k + 1, by omega, by go_num, Lib.hid ⟨blk_below HQ.out.1 alloc_old, blk_below HQ.out.2.1 alloc_old, HQ.out.2.2.trans (alloc_old.mono hsz)⟩⟩, by simp [intOf]; omega⟩
    · have hkK : k = K := by omega
      subst hkK
      have hq := hrow.symm.trans HK.out
      cases hq
      have ha1 : b0 = a0 := HL.out.trans ha0
      subst ha1
      obtain ⟨⟨d0, d1, d2, d3, d4, d5, d6⟩, ⟨g0, g1, g2, g3, g4, g5, g6⟩, zz⟩ := cells7 HQ.out.1
      have BB := Lib.hid HQ.out.2.2
      have hsz := Lib.hid (Below.size HQ.out.2.2)
      clear hrow ha0 hlt
      go_wp2
      exact bodyPost_ret (v := .tuple #[.agg #[.string b0, .int .i64 b1, .int .i64 b2, .bool b3, .int .i64 b4, .int .i64 b5, .int .i64 b6], .bool true]) (by simp [results, Tryz.results35, go_sem, d0, d1, d2, d3, d4, d5, d6, zz]) rfl ⟨rfl, ((((((((BB.out.setCell (Nat.le_refl _) _).setCell (Nat.le_refl _) _).setCell (Nat.le_refl _) _).setCell (Nat.le_refl _) _).setCell (Nat.le_refl _) _).setCell (Nat.le_refl _) _).setCell (Nat.le_refl _) _).alloc (by simp; omega) _)⟩
end Go.Proofs.YtjfejmdnjbekkaaGreatDoor

/- command.groups and Fits at the strings' commands. -/
namespace Go.Proofs.YtjfejmdnjbekkaaGreatDoor
open Go.ChangeShapes Go.WideShapes Go.ChangeAt Go.RowKit

theorem groups_GET (n : Int) (w : World) : Calls Tryz.prog 36 #[.string ⟨#[71, 69, 84]⟩, .int .i64 n] w fun e w' => e = .returned (.bool true) ∧ Below w.heap.size w w' := by
  go_enter Tryz.func36, Tryz.ntmps36
  go_wp2
  go_ret
  exact ⟨rfl, Below.refl _ _⟩
/-- A command whose arguments fit. -/
theorem Fits_ok (K : Nat) (raw b0 : ByteArray) (b1 b2 : Int) (b3 : Bool) (b4 b5 b6 : Int) (l0 : List UInt8) (hl0 : b0 = ⟨l0.toArray⟩) (hK : CmdT.rowsT[K]? = some (l0, b1, b2, b3, b4, b5, b6))
    (hu : ∀ w, Calls Tryz.prog 30 #[.string raw] w fun e w' => e = .returned (.string b0) ∧ Below w.heap.size w w') (v : Value) (xs : List ByteArray) (hx : xs[0]? = some raw) (hlo : b1 ≤ (xs.length : Int)) (hhi : b2 ≤ 0 ∨ (xs.length : Int) ≤ b2)
    (hg : ∀ w, Calls Tryz.prog 36 #[.string b0, .int .i64 (xs.length : Nat)] w fun e w' => e = .returned (.bool true) ∧ Below w.heap.size w w') (w : World) (h : SSl w v xs) :
    Calls Tryz.prog 28 #[v] w fun e w' => e = .returned (.int .i64 0) ∧ Below w.heap.size w w' := by
  have F := Lib.hid (fun w => Find_at K raw b0 b1 b2 b3 b4 b5 b6 l0 hl0 hK hu w)
  have G := Lib.hid hg
  obtain ⟨A, cap, rfl, p1, p2, p3⟩ := h
  have hlt : 0 < xs.length := (List.getElem?_eq_some_iff.1 hx).1
  obtain ⟨blk, off, rfl, hb, hc⟩ := p3 (by intro e; rw [e] at hlt; simp at hlt)
  have d0 := hc 0 raw hx
  rw [Nat.add_zero] at d0
  unfold maxLen at p2
  have i0 : (0 : Int) < (xs.length : Int) := by omega
  have i1 : ((xs.length : Int) == 0) = false := by rw [beq_eq_false_iff_ne]; omega
  have i2 : ¬ (xs.length : Int) < b1 := by omega
  clear hc p3 hx hl0 hK hu hg
  by_cases h2 : 0 < b2
  · have i3 : ¬ b2 < (xs.length : Int) := by
      rcases hhi with h | h
      · exact absurd h2 (Int.not_lt.2 h)
      · exact Int.not_lt.2 h
    clear hhi
    go_enter Tryz.func28, Tryz.ntmps28
    go_wp2_with (first | (go_at_call 35; (with_reducible refine (F.out _).mono ?_); rintro e w1 ⟨rfl, h1⟩; have B1 := Lib.hid h1; clear h1) | (go_at_call 36; (with_reducible refine (G.out _).mono ?_); rintro e w2 ⟨rfl, h3⟩; have B2 := Lib.hid (belA B1.out h3); clear h3))
    go_ret
    exact ⟨by simp, B2.out⟩
  · clear hhi
    go_enter Tryz.func28, Tryz.ntmps28
    go_wp2_with (first | (go_at_call 35; (with_reducible refine (F.out _).mono ?_); rintro e w1 ⟨rfl, h1⟩; have B1 := Lib.hid h1; clear h1) | (go_at_call 36; (with_reducible refine (G.out _).mono ?_); rintro e w2 ⟨rfl, h3⟩; have B2 := Lib.hid (belA B1.out h3); clear h3))
    go_ret
    exact ⟨by simp, B2.out⟩
end Go.Proofs.YtjfejmdnjbekkaaGreatDoor

/- command.Upper at any text. -/
namespace Go.Proofs.YtjfejmdnjbekkaaGreatDoor
open Go.ChangeShapes Go.WideShapes Go.ChangeAt Go.RowKit

/-- k bytes are turned. -/
def mixF (s : ByteArray) (g : Nat → UInt8) (k : Nat) : Nat → UInt8 := fun j => if j < k then g j else byteAt s j
theorem mixF_store {w : World} {B : Nat} {s : ByteArray} {g : Nat → UInt8} {k : Nat} (h : OB w B s.size (mixF s g k)) (hk : k < s.size) (c : Value) (hc : c = .int .u8 ((g k).toNat : Int)) : OB (w.setCell ⟨B, k, none⟩ c) B s.size (mixF s g (k + 1)) := by
  subst hc
  refine (h.store k hk (g k)).congr fun j _ => ?_
  unfold mixF
  by_cases e : j = k
  · subst e; rw [if_pos rfl, if_pos (by omega)]
  · rw [if_neg e]
    by_cases e2 : j < k
    · rw [if_pos e2, if_pos (by omega)]
    · rw [if_neg e2, if_neg (by omega)]
theorem mixF_same {w : World} {B : Nat} {s : ByteArray} {g : Nat → UInt8} {k : Nat} (h : OB w B s.size (mixF s g k)) (hg : g k = byteAt s k) : OB w B s.size (mixF s g (k + 1)) := by
  refine h.congr fun j _ => ?_
  unfold mixF
  by_cases e : j = k
  · subst e; rw [if_neg (by omega), if_pos (by omega), hg]
  · by_cases e2 : j < k
    · rw [if_pos e2, if_pos (by omega)]
    · rw [if_neg e2, if_neg (by omega)]
theorem mixF_all {w : World} {B : Nat} {s : ByteArray} {g : Nat → UInt8} (h : OB w B s.size (mixF s g s.size)) : OB w B s.size g := h.congr fun j hj => by unfold mixF; rw [if_pos hj]
def upB (c : UInt8) : UInt8 := if 97 ≤ c.toNat ∧ c.toNat ≤ 122 then UInt8.ofNat (c.toNat - 32) else c
def upAt (s : ByteArray) (j : Nat) : UInt8 := upB (byteAt s j)
/-- A text with great letters. -/
def upT (s : ByteArray) : ByteArray := ⟨((List.range s.size).map (upAt s)).toArray⟩
set_option maxHeartbeats 2000000 in
theorem UpperG (s : ByteArray) (hs : s.size ≤ 100) (w : World) : Calls Tryz.prog 30 #[.string s] w fun e w' => e = .returned (.string (upT s)) ∧ Below w.heap.size w w' := by
  have hcv := conv_sb
  have H0 := Lib.hid (OB.new w s)
  have HB := Lib.hid (Lib.bytesWorld_below w 5 s)
  have hc1 := grownCap_ge w s.size 0 5
  have hc2 := grownCap_le_maxLen w s.size 0 5 (by unfold maxLen; omega)
  unfold maxLen at hc2
  go_enter Tryz.func30, Tryz.ntmps30
  go_wp2_with fail
  generalize grownCap w s.size 0 5 = C at hc1 hc2 ⊢
  generalize Lib.bytesWorld w 5 s = W1 at H0 HB ⊢
  go_loopw [10] (fun i wr => ∃ k : Nat, k ≤ s.size ∧ i = .int .i64 k ∧ Hid (OB wr w.heap.size s.size (mixF s (upAt s) k) ∧ Below w.heap.size w wr)) (fun i _ => s.size - (intOf i).toNat)
  case atStart => exact ⟨0, Nat.zero_le _, rfl, Lib.hid ⟨H0.out.congr fun j _ => by unfold mixF; rw [if_neg (by omega)], HB.out⟩⟩
  case round =>
    obtain ⟨k, hk, rfl, HR⟩ := hrel
    by_cases hlt : k < s.size
    · obtain ⟨d0, d1⟩ := HR.out.1.2 k hlt
      have e0 : mixF s (upAt s) k k = byteAt s k := by unfold mixF; rw [if_neg (by omega)]
      rw [e0] at d0
      clear e0
      have i0 : (k : Int) < (s.size : Int) := by omega
      have hb := (byteAt s k).toNat_lt
      by_cases h1 : 97 ≤ (byteAt s k).toNat
      · by_cases h2 : (byteAt s k).toNat ≤ 122
        · have hu : ((upAt s k).toNat : Int) = ((byteAt s k).toNat : Int) - 32 := by
            unfold upAt upB
            rw [if_pos ⟨h1, h2⟩, UInt8.toNat_ofNat']; omega
          have HU := Lib.hid hu
          have i1 : (97 : Int) ≤ ((byteAt s k).toNat : Int) := by omega
          have i2 : ((byteAt s k).toNat : Int) ≤ 122 := by omega
          have q1 : IntKind.u8.wrap (((byteAt s k).toNat : Int) - 32) = ((byteAt s k).toNat : Int) - 32 := IntWalk.u8_in _ (by omega)
          clear hu
          generalize ((byteAt s k).toNat : Int) = c at d0 i1 i2 q1 HU h1 h2
          go_wp2
          exact ⟨⟨k + 1, by omega, by go_num, Lib.hid ⟨mixF_store HR.out.1 hlt _ (by rw [HU.out]), HR.out.2.setCell (Nat.le_refl _) _⟩⟩, by simp [intOf]; omega⟩
        · have hu : upAt s k = byteAt s k := by unfold upAt upB; rw [if_neg (by omega)]
          have HU := Lib.hid hu
          have i1 : (97 : Int) ≤ ((byteAt s k).toNat : Int) := by omega
          have i2 : ¬ ((byteAt s k).toNat : Int) ≤ 122 := by omega
          clear hu
          generalize ((byteAt s k).toNat : Int) = c at d0 i1 i2 h1 h2
          go_wp2
          exact ⟨⟨k + 1, by omega, by go_num, Lib.hid ⟨mixF_same HR.out.1 HU.out, HR.out.2⟩⟩, by simp [intOf]; omega⟩
      · have hu : upAt s k = byteAt s k := by unfold upAt upB; rw [if_neg (by omega)]
        have HU := Lib.hid hu
        have i1 : ¬ (97 : Int) ≤ ((byteAt s k).toNat : Int) := by omega
        clear hu
        generalize ((byteAt s k).toNat : Int) = c at d0 i1 h1
        go_wp2
        exact ⟨⟨k + 1, by omega, by go_num, Lib.hid ⟨mixF_same HR.out.1 HU.out, HR.out.2⟩⟩, by simp [intOf]; omega⟩
    · have hkl : k = s.size := by omega
      subst hkl
      have hcb := (mixF_all HR.out.1).back C
      have i0 : ¬ (s.size : Int) < (s.size : Int) := by omega
      go_wp2
      go_ret
      exact ⟨by simp [upT], HR.out.2⟩
end Go.Proofs.YtjfejmdnjbekkaaGreatDoor

/- Fits at the commands that the laws call, by name. -/
namespace Go.Proofs.YtjfejmdnjbekkaaGreatDoor
open Go.ChangeShapes Go.WideShapes Go.ChangeAt Go.RowKit

theorem groups_INCR (n : Int) (w : World) : Calls Tryz.prog 36 #[.string ⟨#[73, 78, 67, 82]⟩, .int .i64 n] w fun e w' => e = .returned (.bool true) ∧ Below w.heap.size w w' := by
  go_enter Tryz.func36, Tryz.ntmps36
  go_wp2
  go_ret
  exact ⟨rfl, Below.refl _ _⟩
theorem hu_incr_low (w : World) : Calls Tryz.prog 30 #[.string ⟨#[105, 110, 99, 114]⟩] w fun e w' => e = .returned (.string ⟨#[73, 78, 67, 82]⟩) ∧ Below w.heap.size w w' := UpperG ⟨#[105, 110, 99, 114]⟩ (by decide) w
theorem Fits_incr_low (v : Value) (xs : List ByteArray) (hx : xs[0]? = some ⟨#[105, 110, 99, 114]⟩) (hlo : 2 ≤ xs.length) (hhi : xs.length ≤ 2) (w : World) (h : SSl w v xs) : Calls Tryz.prog 28 #[v] w fun e w' => e = .returned (.int .i64 0) ∧ Below w.heap.size w w' :=
  Fits_ok 21 ⟨#[105, 110, 99, 114]⟩ ⟨#[73, 78, 67, 82]⟩ 2 2 true 1 1 1 [73, 78, 67, 82] rfl (by kernel_rfl) hu_incr_low v xs hx (by omega) (.inr (by omega)) (groups_INCR _) w h
end Go.Proofs.YtjfejmdnjbekkaaGreatDoor
