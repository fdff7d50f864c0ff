/- strings.Do: the commands' functions by name. -/
import Derived.Test.YtllaeocclpaiaaaGreatDoorSt24
namespace Go.MapT
open Go.MapKept Go.RowKit
theorem at_insert {P : Program} {t key elem : TypeId} {ops : Array Oper} {rest : List Oper} {o : Oper} {a : Act} {Q : Exit → Act → World → Prop} (w : World) (hg : o.guard = none) (m x v : Operand) (hop : o.op = Op.insert t m x v) (ht : P.underlying t = some (.map key elem)) (hk : P.underlying key = some .string)
    (b : Nat) (l : Ents) (hm : a.eval m = .map (some b)) (h : MB w b l) (k : ByteArray) (u : Value) (hx : a.eval x = .string k) (hv : a.eval v = u)
    (hK : ∀ w', MB w' b (put k u l) → w.grownBy w' (some b) → w'.heap.size = w.heap.size → wpList P ops Q rest (a.put o.dst undef) w') : wpList P ops Q (o :: rest) a w := by
  refine wpList_plain hg fun K' hK' => ?_
  obtain ⟨w', hrun, r1, r2, r3⟩ := run_update ht hk h k u
  unfold Oper.wp
  simp [execOp, hop, hm, hx, hv, hrun, Result.andThen]
  exact hK' _ _ (hK w' r1 r2 r3)
theorem at_insertF {P : Program} {t key elem : TypeId} {ops : Array Oper} {rest : List Oper} {o : Oper} {a : Act} {Q : Exit → Act → World → Prop} (w : World) (hg : o.guard = none) (hd : o.dst = none) (m : Operand) (k : ByteArray) (f : FuncId) (hop : o.op = Op.insert t m (.const (.string k)) (.func f)) (ht : P.underlying t = some (.map key elem)) (hk : P.underlying key = some .string)
    (b : Nat) (l : Ents) (hm : a.eval m = .map (some b)) (h : MB w b l)
    (hK : ∀ w', MB w' b (put k (.func (.func f) #[] #[]) l) → w.grownBy w' (some b) → wpList P ops Q rest a w') : wpList P ops Q (o :: rest) a w :=
  at_insert w hg m _ _ hop ht hk b l hm h k (.func (.func f) #[] #[]) rfl rfl (fun w' h1 h2 _ => by rw [hd]; exact hK w' h1 h2)
end Go.MapT
namespace Go.Proofs.YtllaeocclpaiaaaGreatDoor
open Go.ChangeShapes Go.WideShapes Go.ChangeAt Go.RowKit

/-- The commands' functions. -/
def flT : MapT.Ents := MapT.put ⟨#[70, 76, 85, 83, 72, 65, 76, 76]⟩ (.func (.func 34) #[] #[]) (MapT.put ⟨#[68, 66, 83, 73, 90, 69]⟩ (.func (.func 32) #[] #[]) (MapT.put ⟨#[75, 69, 89, 83]⟩ (.func (.func 29) #[] #[]) (MapT.put ⟨#[80, 69, 82, 83, 73, 83, 84]⟩ (.func (.func 28) #[] #[]) (MapT.put ⟨#[80, 84, 84, 76]⟩ (.func (.func 27) #[] #[]) (MapT.put ⟨#[84, 84, 76]⟩ (.func (.func 25) #[] #[]) (MapT.put ⟨#[80, 69, 88, 80, 73, 82, 69, 65, 84]⟩ (.func (.func 24) #[] #[]) (MapT.put ⟨#[80, 69, 88, 80, 73, 82, 69]⟩ (.func (.func 23) #[] #[]) (MapT.put ⟨#[69, 88, 80, 73, 82, 69]⟩ (.func (.func 21) #[] #[]) (MapT.put ⟨#[82, 69, 78, 65, 77, 69, 78, 88]⟩ (.func (.func 20) #[] #[]) (MapT.put ⟨#[82, 69, 78, 65, 77, 69]⟩ (.func (.func 19) #[] #[]) (MapT.put ⟨#[84, 89, 80, 69]⟩ (.func (.func 18) #[] #[]) (MapT.put ⟨#[69, 88, 73, 83, 84, 83]⟩ (.func (.func 17) #[] #[]) (MapT.put ⟨#[68, 69, 76]⟩ (.func (.func 16) #[] #[]) ([]))))))))))))))
theorem ins_step {w X Y : World} {b : Nat} {l l' : MapT.Ents} (h : MapT.MB X b l ∧ Below w.heap.size w X ∧ w.heap.size ≤ b) (h1 : MapT.MB Y b l') (h2 : X.grownBy Y (some b)) : MapT.MB Y b l' ∧ Below w.heap.size w Y ∧ w.heap.size ≤ b :=
  ⟨h1, h.2.1.grown h2 (Below.size h.2.1) (fun k hk => by cases hk; exact h.2.2), h.2.2⟩
theorem find_DEL : MapT.find ⟨#[68, 69, 76]⟩ flT = some (.func (.func 16) #[] #[]) := by kernel_rfl
theorem ent_DEL (args : Array Value) (w : World) : (callFunc 16 args).run Tryz.prog w = .ok (.enter 16 args) w := by kernel_rfl
theorem find_EXISTS : MapT.find ⟨#[69, 88, 73, 83, 84, 83]⟩ flT = some (.func (.func 17) #[] #[]) := by kernel_rfl
theorem ent_EXISTS (args : Array Value) (w : World) : (callFunc 17 args).run Tryz.prog w = .ok (.enter 17 args) w := by kernel_rfl
theorem find_TYPE : MapT.find ⟨#[84, 89, 80, 69]⟩ flT = some (.func (.func 18) #[] #[]) := by kernel_rfl
theorem ent_TYPE (args : Array Value) (w : World) : (callFunc 18 args).run Tryz.prog w = .ok (.enter 18 args) w := by kernel_rfl
theorem find_RENAME : MapT.find ⟨#[82, 69, 78, 65, 77, 69]⟩ flT = some (.func (.func 19) #[] #[]) := by kernel_rfl
theorem ent_RENAME (args : Array Value) (w : World) : (callFunc 19 args).run Tryz.prog w = .ok (.enter 19 args) w := by kernel_rfl
theorem find_RENAMENX : MapT.find ⟨#[82, 69, 78, 65, 77, 69, 78, 88]⟩ flT = some (.func (.func 20) #[] #[]) := by kernel_rfl
theorem ent_RENAMENX (args : Array Value) (w : World) : (callFunc 20 args).run Tryz.prog w = .ok (.enter 20 args) w := by kernel_rfl
theorem find_EXPIRE : MapT.find ⟨#[69, 88, 80, 73, 82, 69]⟩ flT = some (.func (.func 21) #[] #[]) := by kernel_rfl
theorem ent_EXPIRE (args : Array Value) (w : World) : (callFunc 21 args).run Tryz.prog w = .ok (.enter 21 args) w := by kernel_rfl
theorem find_PEXPIRE : MapT.find ⟨#[80, 69, 88, 80, 73, 82, 69]⟩ flT = some (.func (.func 23) #[] #[]) := by kernel_rfl
theorem ent_PEXPIRE (args : Array Value) (w : World) : (callFunc 23 args).run Tryz.prog w = .ok (.enter 23 args) w := by kernel_rfl
theorem find_PEXPIREAT : MapT.find ⟨#[80, 69, 88, 80, 73, 82, 69, 65, 84]⟩ flT = some (.func (.func 24) #[] #[]) := by kernel_rfl
theorem ent_PEXPIREAT (args : Array Value) (w : World) : (callFunc 24 args).run Tryz.prog w = .ok (.enter 24 args) w := by kernel_rfl
theorem find_TTL : MapT.find ⟨#[84, 84, 76]⟩ flT = some (.func (.func 25) #[] #[]) := by kernel_rfl
theorem ent_TTL (args : Array Value) (w : World) : (callFunc 25 args).run Tryz.prog w = .ok (.enter 25 args) w := by kernel_rfl
theorem find_PTTL : MapT.find ⟨#[80, 84, 84, 76]⟩ flT = some (.func (.func 27) #[] #[]) := by kernel_rfl
theorem ent_PTTL (args : Array Value) (w : World) : (callFunc 27 args).run Tryz.prog w = .ok (.enter 27 args) w := by kernel_rfl
theorem find_PERSIST : MapT.find ⟨#[80, 69, 82, 83, 73, 83, 84]⟩ flT = some (.func (.func 28) #[] #[]) := by kernel_rfl
theorem ent_PERSIST (args : Array Value) (w : World) : (callFunc 28 args).run Tryz.prog w = .ok (.enter 28 args) w := by kernel_rfl
theorem find_KEYS : MapT.find ⟨#[75, 69, 89, 83]⟩ flT = some (.func (.func 29) #[] #[]) := by kernel_rfl
theorem ent_KEYS (args : Array Value) (w : World) : (callFunc 29 args).run Tryz.prog w = .ok (.enter 29 args) w := by kernel_rfl
theorem find_DBSIZE : MapT.find ⟨#[68, 66, 83, 73, 90, 69]⟩ flT = some (.func (.func 32) #[] #[]) := by kernel_rfl
theorem ent_DBSIZE (args : Array Value) (w : World) : (callFunc 32 args).run Tryz.prog w = .ok (.enter 32 args) w := by kernel_rfl
theorem find_FLUSHALL : MapT.find ⟨#[70, 76, 85, 83, 72, 65, 76, 76]⟩ flT = some (.func (.func 34) #[] #[]) := by kernel_rfl
theorem ent_FLUSHALL (args : Array Value) (w : World) : (callFunc 34 args).run Tryz.prog w = .ok (.enter 34 args) w := by kernel_rfl
set_option maxRecDepth 100000 in
set_option maxHeartbeats 8000000 in
theorem Do_ok (W0 : World) (RAW NAME : ByteArray) (F : FuncId) (bS bM : Nat) (l : MapT.Ents) (now : Int) (xs : List ByteArray) (vA : Value) (k n : Int) (s : ByteArray) (R : Nat → World → Value → Prop) (es : List Ent) (hF : CmdOk W0 F bS bM l now xs k n s R es) (hR : RKeep R) (w : World) (hI : Below W0.heap.size W0 w) (hS : SP w bS bM l) (hA : SSl w vA xs) (hf : MapT.find NAME flT = some (.func (.func F) #[] #[])) (hx : xs[0]? = some RAW) (hent : ∀ (args : Array Value) (w : World), (callFunc F args).run Tryz.prog w = .ok (.enter F args) w) (hfit : ∀ X, SSl X vA xs → Calls Tryz.prog 39 #[vA] X fun e w' => e = .returned (.int .i64 0) ∧ Below X.heap.size X w') (hup : ∀ X, Calls Tryz.prog 40 #[.string RAW] X fun e w' => e = .returned (.string NAME) ∧ Below X.heap.size X w') :
    Calls Tryz.prog 8 #[.pointer (some ⟨bS, 0, none⟩), .int .i64 now, vA] w fun e w' => ∃ A m c A' n' c', e = .returned (.tuple #[.agg #[.int .i64 k, .int .i64 n, .string s, .slice A m c], .slice A' n' c', .bool true]) ∧ R w.heap.size w' (.slice A m c) ∧ EF w' w.heap.size (.slice A' n' c') es ∧ Below w.heap.size w w' := by
  have hmm := @run_makeMap Tryz.prog
  have Q9 := Lib.hid (show MapT.MB ((w.alloc (.cells #[.int .i64 0, .int .i64 0, .string ⟨#[]⟩, .slice none 0 0] 36)).alloc (.map #[] 0)) (w.heap.size + 1) [] ∧ Below w.heap.size w ((w.alloc (.cells #[.int .i64 0, .int .i64 0, .string ⟨#[]⟩, .slice none 0 0] 36)).alloc (.map #[] 0)) ∧ w.heap.size ≤ w.heap.size + 1 from ⟨by
    have := MapT.MB.made (w.alloc (.cells #[.int .i64 0, .int .i64 0, .string ⟨#[]⟩, .slice none 0 0] 36))
    rw [World.size_alloc] at this
    exact this, alloc_old.trans (alloc_old.mono (by simp)), by omega⟩)
  have b6 := Lib.hid (show ((w.alloc (.cells #[.int .i64 0, .int .i64 0, .string ⟨#[]⟩, .slice none 0 0] 36)).alloc (.map #[] 0)).heap[w.heap.size]? = some (.cells #[.int .i64 0, .int .i64 0, .string ⟨#[]⟩, .slice none 0 0] 36) from blk_below (heap_alloc_new w _) alloc_old)
  have RR := Lib.hid (fun X (hX : MapT.MB X (w.heap.size + 1) flT ∧ Below w.heap.size w X ∧ w.heap.size ≤ w.heap.size + 1) => Run_ok W0 RAW NAME F bS bM (w.heap.size + 1) l flT now xs vA k n s R es hF hR X (hI.trans (hX.2.1.mono (Below.size hI))) (hS.below hX.2.1) (hA.below hX.2.1) hX.1 hf hx hent hfit hup)
  obtain ⟨aA, acap, hvA, _⟩ := id hA
  clear hf hent hfit hup hA hS hx hF
  subst hvA
  go_enter Tryz.func8, Tryz.ntmps8
  go_wp2_with (first | (refine MapT.at_insertF _ rfl rfl _ _ _ rfl Tryz.underlying63 Tryz.underlying9 (w.heap.size + 1) _ rfl Q9.out.1 ?_; intro w9 hM9 hg9; have b6 := Lib.hid ((grown_block hg9 (lt_blk b6.out) (by omega)).trans b6.out); have Q9 := Lib.hid (ins_step Q9.out hM9 hg9); clear hM9 hg9) | (go_at_call 15; (with_reducible refine (RR.out _ Q9.out).mono ?_); rintro e w5 ⟨A, m, c, A', n', c', rfl, hRR, hE5, hb5⟩; have B5 := Lib.hid hb5; obtain ⟨⟨a0, a1, a2, a3⟩, ⟨f0, f1, f2, f3⟩⟩ := cells4 (blk_below b6.out hb5); clear hb5))
  have BW := Lib.hid (Q9.out.2.1.trans (B5.out.mono (Below.size Q9.out.2.1)))
  have hle : w.heap.size + 1 ≤ w9.heap.size := Nat.le_of_lt (Q9.out.1).lt
  have hR6 := hR.kept _ _ _ _ (hR.mono _ (w.heap.size + 1) _ _ hRR hle) (show w5.heap.size ≤ (((((w5.setCell ⟨w.heap.size, 0, none⟩ (.int .i64 k)).setCell ⟨w.heap.size, 1, none⟩ (.int .i64 n)).setCell ⟨w.heap.size, 2, none⟩ (.string s)).setCell ⟨w.heap.size, 3, none⟩ (.slice A m c))).heap.size by simp [World.setCell]) (fun i hi _ => far4 (X := w5) (b := w.heap.size) _ _ _ _ (by omega))
  have hE6 := EF.kept (w' := (((((w5.setCell ⟨w.heap.size, 0, none⟩ (.int .i64 k)).setCell ⟨w.heap.size, 1, none⟩ (.int .i64 n)).setCell ⟨w.heap.size, 2, none⟩ (.string s)).setCell ⟨w.heap.size, 3, none⟩ (.slice A m c)))) (hE5.mono hle) (by simp [World.setCell]) (fun g hg => far4 (X := w5) (b := w.heap.size) (.int .i64 k) (.int .i64 n) (.string s) (.slice A m c) (by have := (hE5.own g hg).1; omega))
  exact bodyPost_ret (v := .tuple #[.agg #[.int .i64 k, .int .i64 n, .string s, .slice A m c], .slice A' n' c', .bool true]) (by simp [results, Tryz.results8, go_sem, a0, a1, a2, a3]) rfl ⟨A, m, c, A', n', c', rfl, hR.mono _ _ _ _ hR6 (by omega), hE6.mono (by omega), (((BW.out.setCell (p := ⟨w.heap.size, 0, none⟩) (Nat.le_refl _) _).setCell (p := ⟨w.heap.size, 1, none⟩) (Nat.le_refl _) _).setCell (p := ⟨w.heap.size, 2, none⟩) (Nat.le_refl _) _).setCell (p := ⟨w.heap.size, 3, none⟩) (Nat.le_refl _) _⟩
set_option maxRecDepth 100000 in
set_option maxHeartbeats 8000000 in
theorem Do_fail (W0 : World) (RAW NAME : ByteArray) (F : FuncId) (bS bM : Nat) (l : MapT.Ents) (now : Int) (xs : List ByteArray) (vA : Value) (n : Int) (hF : CmdFail W0 F bS bM l now xs n) (w : World) (hI : Below W0.heap.size W0 w) (hS : SP w bS bM l) (hA : SSl w vA xs) (hf : MapT.find NAME flT = some (.func (.func F) #[] #[])) (hx : xs[0]? = some RAW) (hent : ∀ (args : Array Value) (w : World), (callFunc F args).run Tryz.prog w = .ok (.enter F args) w) (hfit : ∀ X, SSl X vA xs → Calls Tryz.prog 39 #[vA] X fun e w' => e = .returned (.int .i64 0) ∧ Below X.heap.size X w') (hup : ∀ X, Calls Tryz.prog 40 #[.string RAW] X fun e w' => e = .returned (.string NAME) ∧ Below X.heap.size X w') :
    Calls Tryz.prog 8 #[.pointer (some ⟨bS, 0, none⟩), .int .i64 now, vA] w fun e w' => e = .returned (.tuple #[.agg #[.int .i64 2, .int .i64 n, .string ⟨#[]⟩, .slice none 0 0], .slice none 0 0, .bool true]) ∧ Below w.heap.size w w' := by
  have hmm := @run_makeMap Tryz.prog
  have Q9 := Lib.hid (show MapT.MB ((w.alloc (.cells #[.int .i64 0, .int .i64 0, .string ⟨#[]⟩, .slice none 0 0] 36)).alloc (.map #[] 0)) (w.heap.size + 1) [] ∧ Below w.heap.size w ((w.alloc (.cells #[.int .i64 0, .int .i64 0, .string ⟨#[]⟩, .slice none 0 0] 36)).alloc (.map #[] 0)) ∧ w.heap.size ≤ w.heap.size + 1 from ⟨by
    have := MapT.MB.made (w.alloc (.cells #[.int .i64 0, .int .i64 0, .string ⟨#[]⟩, .slice none 0 0] 36))
    rw [World.size_alloc] at this
    exact this, alloc_old.trans (alloc_old.mono (by simp)), by omega⟩)
  have b6 := Lib.hid (show ((w.alloc (.cells #[.int .i64 0, .int .i64 0, .string ⟨#[]⟩, .slice none 0 0] 36)).alloc (.map #[] 0)).heap[w.heap.size]? = some (.cells #[.int .i64 0, .int .i64 0, .string ⟨#[]⟩, .slice none 0 0] 36) from blk_below (heap_alloc_new w _) alloc_old)
  have RR := Lib.hid (fun X (hX : MapT.MB X (w.heap.size + 1) flT ∧ Below w.heap.size w X ∧ w.heap.size ≤ w.heap.size + 1) => Run_fail W0 RAW NAME F bS bM (w.heap.size + 1) l flT now xs vA n hF X (hI.trans (hX.2.1.mono (Below.size hI))) (hS.below hX.2.1) (hA.below hX.2.1) hX.1 hf hx hent hfit hup)
  obtain ⟨aA, acap, hvA, _⟩ := id hA
  clear hf hent hfit hup hA hS hx hF
  subst hvA
  go_enter Tryz.func8, Tryz.ntmps8
  go_wp2_with (first | (refine MapT.at_insertF _ rfl rfl _ _ _ rfl Tryz.underlying63 Tryz.underlying9 (w.heap.size + 1) _ rfl Q9.out.1 ?_; intro w9 hM9 hg9; have b6 := Lib.hid ((grown_block hg9 (lt_blk b6.out) (by omega)).trans b6.out); have Q9 := Lib.hid (ins_step Q9.out hM9 hg9); clear hM9 hg9) | (go_at_call 15; (with_reducible refine (RR.out _ Q9.out).mono ?_); rintro e w5 ⟨rfl, hb5⟩; have B5 := Lib.hid hb5; obtain ⟨⟨a0, a1, a2, a3⟩, ⟨f0, f1, f2, f3⟩⟩ := cells4 (blk_below b6.out hb5); clear hb5))
  have BW := Lib.hid (Q9.out.2.1.trans (B5.out.mono (Below.size Q9.out.2.1)))
  exact bodyPost_ret (v := .tuple #[.agg #[.int .i64 2, .int .i64 n, .string ⟨#[]⟩, .slice none 0 0], .slice none 0 0, .bool true]) (by simp [results, Tryz.results8, go_sem, a0, a1, a2, a3]) rfl ⟨rfl, (((BW.out.setCell (p := ⟨w.heap.size, 0, none⟩) (Nat.le_refl _) _).setCell (p := ⟨w.heap.size, 1, none⟩) (Nat.le_refl _) _).setCell (p := ⟨w.heap.size, 2, none⟩) (Nat.le_refl _) _).setCell (p := ⟨w.heap.size, 3, none⟩) (Nat.le_refl _) _⟩
end Go.Proofs.YtllaeocclpaiaaaGreatDoor
