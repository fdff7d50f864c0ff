/- Texts joined: L14, CmdT, St7, St11, St12, Ft, G15 -/
import Derived.Test.YtjljljjmdlddkaaGreatQa24
import Derived.KernelRfl
import GoSem.Core.World
import Derived.Test.YtjljljjmdlddkaaGreatQa1
import Derived.Deep.Cut
import Derived.Test.YtjljljjmdlddkaaGreatQa4
import Derived.Test.YtjljljjmdlddkaaGreatQa25
import Derived.Test.YtjljljjmdlddkaaGreatQa13

/- Commands of lists: LSET where there is no such place. -/
namespace Go.Proofs.YtjljljjmdlddkaaGreat
open Go.ChangeShapes Go.WideShapes Go.ChangeAt Go.RowKit

set_option maxRecDepth 100000 in
set_option maxHeartbeats 8000000 in
theorem fLSET (w0 : World) (bS bM : Nat) (D : List (ByteArray × List ByteArray)) (l0 : MapT.Ents) (now : Int) (NM k a s : ByteArray) (x : Int) (ha : a.size ≤ 100000) (hpa : parseI a.data.toList = some x) (hx : -1000000000 ≤ x ∧ x ≤ 1000000000) (ys : List ByteArray) (hf : findD k D = some ys) (hxl : (ys.length : Int) ≤ x) (hS0 : SPG KL okL w0 bS bM D) : CmdFail w0 23 bS bM l0 now [NM, k, a, s] 7 := by
  intro w j vA hB0 _ hj hA
  have hS := SPG.below KL okL hS0 hB0
  have hn := (hS.okOf hf).2.2.2.1
  have J2 := Lib.hid (fun Y (hY : Below w.heap.size w Y) => JIn 2 j bS now vA (.slice none 0 0) [NM, k, a, s] 2 rfl a x ha hpa rfl Y (hj.below hY) (hA.below hY))
  obtain ⟨blk, off, cap, rfl, hAR⟩ := AR.of hj hA (by simp)
  have A1 := Lib.hid (alloc_old (w := w) (o := .cells #[.int .i64 0, .int .i64 0, .string ⟨#[]⟩, .slice none 0 0] 28))
  have hr := Lib.hid (heap_alloc_new w (.cells #[.int .i64 0, .int .i64 0, .string ⟨#[]⟩, .slice none 0 0] 28))
  have RW := fun Y (hY : Below w.heap.size w Y) => RowD bS bM j D k now _ _ Y (SPG.below KL okL hS hY) (hj.below hY)
  simp only [hf, Option.getD_some, Option.isSome_some] at RW
  have RW := Lib.hid RW
  have hl2 : ([NM, k, a, s] : List ByteArray).length = 4 := rfl
  have c1 := (hAR.job _ A1.out).1
  have c2 := hAR.arg _ A1.out 1 k rfl
  rw [hl2] at c1
  have AT := AtL x ys.length (-1) (by omega) hx (.inr (.inr ⟨hxl, rfl⟩))
  have RL := fun c p l w h => RLen c p l ys w h
  obtain ⟨n, hnn⟩ : ∃ n : Nat, ys.length = n := ⟨_, rfl⟩
  simp only [hnn] at AT RL
  have AT := Lib.hid AT
  have RL := Lib.hid RL
  have FL := Lib.hid (fun X => Fail69 7 X)
  clear hS hj hA hAR hpa ha hx hnn hf hxl hS0 hB0
  go_enter Tryz.func23, Tryz.ntmps23
  go_wp2_with (first | (go_at_call 35; (with_reducible refine (RW.out _ A1.out).mono ?_); rintro e w1 ⟨A3, A4, A5, A6, an3, ac3, an4, ac4, an5, ac5, an6, ac6, p, l, rfl, hR1, h1⟩; have B1 := Lib.hid ((A1.out.trans (h1.mono (Below.size A1.out))).trans ((alloc_old (w := w1) (o := .cells #[.string k, .int .i64 2, .string ⟨#[]⟩, .slice A3 an3 ac3, .slice A4 an4 ac4, .slice A5 an5 ac5, .slice A6 an6 ac6, .int .i64 0] 45)).mono (by have := Below.size A1.out; have := Below.size h1; omega))); have R1 := Lib.hid (hR1.below (alloc_old (w := w1) (o := .cells #[.string k, .int .i64 2, .string ⟨#[]⟩, .slice A3 an3 ac3, .slice A4 an4 ac4, .slice A5 an5 ac5, .slice A6 an6 ac6, .int .i64 0] 45))); have r1 := Lib.hid (blk_below (blk_below hr.out h1) (alloc_old (w := w1) (o := .cells #[.string k, .int .i64 2, .string ⟨#[]⟩, .slice A3 an3 ac3, .slice A4 an4 ac4, .slice A5 an5 ac5, .slice A6 an6 ac6, .int .i64 0] 45))); have z1 := Lib.hid (heap_alloc_new w1 (.cells #[.string k, .int .i64 2, .string ⟨#[]⟩, .slice A3 an3 ac3, .slice A4 an4 ac4, .slice A5 an5 ac5, .slice A6 an6 ac6, .int .i64 0] 45)); have hw1 := Lib.hid (lt_blk (blk_below hr.out h1)); clear h1 hR1; refine Hid.out ?_))
  refine Lib.hid ?_
  have J1 := Lib.hid (J2.out _ B1.out)
  go_wp2_with (first | (go_at_call 48; (with_reducible refine (J1.out).mono ?_); rintro e w2 ⟨rfl, h1⟩; have B2 := Lib.hid (B1.out.trans (h1.mono (Below.size B1.out))); have L2 := Lib.hid (RL.out _ p l _ (R1.out.below h1)); clear h1) | (go_at_call 39; (with_reducible refine (L2.out).mono ?_); rintro e w3 ⟨rfl, h1⟩; have B3 := Lib.hid (B2.out.trans (h1.mono (Below.size B2.out))); clear h1) | (go_at_call 47; (with_reducible refine (AT.out _).mono ?_); rintro e w4 ⟨rfl, h1⟩; have B4 := Lib.hid (B3.out.trans (h1.mono (Below.size B3.out))); clear h1) | (go_at_call 50; (with_reducible refine (FL.out _).mono ?_); rintro e w5 ⟨rfl, h1⟩; have B5 := Lib.hid (B4.out.trans (h1.mono (Below.size B4.out))); clear h1))
  exact ⟨rfl, rfl, .of B5.out⟩
end Go.Proofs.YtjljljjmdlddkaaGreat

/- The commands' table as plain data (no program). -/
namespace Go.CmdT

/-- A command's row: its name, least and most arguments, does it write, first key, last key, step. -/
abbrev Row := List UInt8 × Int × Int × Bool × Int × Int × Int
def rowsT : List Row := [
  ([68, 69, 76], 2, 0, true, 1, (-1), 1),
  ([69, 88, 73, 83, 84, 83], 2, 0, false, 1, (-1), 1),
  ([84, 89, 80, 69], 2, 2, false, 1, 1, 1),
  ([82, 69, 78, 65, 77, 69], 3, 3, true, 1, 2, 1),
  ([82, 69, 78, 65, 77, 69, 78, 88], 3, 3, true, 1, 2, 1),
  ([69, 88, 80, 73, 82, 69], 3, 3, true, 1, 1, 1),
  ([80, 69, 88, 80, 73, 82, 69], 3, 3, true, 1, 1, 1),
  ([80, 69, 88, 80, 73, 82, 69, 65, 84], 3, 3, true, 1, 1, 1),
  ([84, 84, 76], 2, 2, false, 1, 1, 1),
  ([80, 84, 84, 76], 2, 2, false, 1, 1, 1),
  ([80, 69, 82, 83, 73, 83, 84], 2, 2, true, 1, 1, 1),
  ([75, 69, 89, 83], 1, 1, false, 0, 0, 0),
  ([68, 66, 83, 73, 90, 69], 1, 1, false, 0, 0, 0),
  ([70, 76, 85, 83, 72, 65, 76, 76], 1, 1, true, 0, 0, 0),
  ([71, 69, 84], 2, 2, false, 1, 1, 1),
  ([83, 69, 84], 3, 6, true, 1, 1, 1),
  ([83, 69, 84, 78, 88], 3, 3, true, 1, 1, 1),
  ([71, 69, 84, 83, 69, 84], 3, 3, true, 1, 1, 1),
  ([71, 69, 84, 68, 69, 76], 2, 2, true, 1, 1, 1),
  ([65, 80, 80, 69, 78, 68], 3, 3, true, 1, 1, 1),
  ([83, 84, 82, 76, 69, 78], 2, 2, false, 1, 1, 1),
  ([73, 78, 67, 82], 2, 2, true, 1, 1, 1),
  ([68, 69, 67, 82], 2, 2, true, 1, 1, 1),
  ([73, 78, 67, 82, 66, 89], 3, 3, true, 1, 1, 1),
  ([68, 69, 67, 82, 66, 89], 3, 3, true, 1, 1, 1),
  ([71, 69, 84, 82, 65, 78, 71, 69], 4, 4, false, 1, 1, 1),
  ([83, 69, 84, 82, 65, 78, 71, 69], 4, 4, true, 1, 1, 1),
  ([77, 71, 69, 84], 2, 0, false, 1, (-1), 1),
  ([77, 83, 69, 84], 3, 0, true, 1, (-2), 2),
  ([76, 80, 85, 83, 72], 3, 0, true, 1, 1, 1),
  ([82, 80, 85, 83, 72], 3, 0, true, 1, 1, 1),
  ([76, 80, 85, 83, 72, 88], 3, 0, true, 1, 1, 1),
  ([82, 80, 85, 83, 72, 88], 3, 0, true, 1, 1, 1),
  ([76, 80, 79, 80], 2, 2, true, 1, 1, 1),
  ([82, 80, 79, 80], 2, 2, true, 1, 1, 1),
  ([76, 76, 69, 78], 2, 2, false, 1, 1, 1),
  ([76, 73, 78, 68, 69, 88], 3, 3, false, 1, 1, 1),
  ([76, 83, 69, 84], 4, 4, true, 1, 1, 1),
  ([76, 82, 65, 78, 71, 69], 4, 4, false, 1, 1, 1),
  ([76, 84, 82, 73, 77], 4, 4, true, 1, 1, 1),
  ([76, 82, 69, 77], 4, 4, true, 1, 1, 1),
  ([76, 73, 78, 83, 69, 82, 84], 5, 5, true, 1, 1, 1),
  ([82, 80, 79, 80, 76, 80, 85, 83, 72], 3, 3, true, 1, 2, 1),
  ([72, 83, 69, 84], 4, 0, true, 1, 1, 1),
  ([72, 83, 69, 84, 78, 88], 4, 4, true, 1, 1, 1),
  ([72, 71, 69, 84], 3, 3, false, 1, 1, 1),
  ([72, 77, 71, 69, 84], 3, 0, false, 1, 1, 1),
  ([72, 68, 69, 76], 3, 0, true, 1, 1, 1),
  ([72, 69, 88, 73, 83, 84, 83], 3, 3, false, 1, 1, 1),
  ([72, 76, 69, 78], 2, 2, false, 1, 1, 1),
  ([72, 83, 84, 82, 76, 69, 78], 3, 3, false, 1, 1, 1),
  ([72, 75, 69, 89, 83], 2, 2, false, 1, 1, 1),
  ([72, 86, 65, 76, 83], 2, 2, false, 1, 1, 1),
  ([72, 71, 69, 84, 65, 76, 76], 2, 2, false, 1, 1, 1),
  ([72, 73, 78, 67, 82, 66, 89], 4, 4, true, 1, 1, 1),
  ([90, 65, 68, 68], 4, 0, true, 1, 1, 1),
  ([90, 73, 78, 67, 82, 66, 89], 4, 4, true, 1, 1, 1),
  ([90, 82, 69, 77], 3, 0, true, 1, 1, 1),
  ([90, 83, 67, 79, 82, 69], 3, 3, false, 1, 1, 1),
  ([90, 67, 65, 82, 68], 2, 2, false, 1, 1, 1),
  ([90, 82, 65, 78, 75], 3, 3, false, 1, 1, 1),
  ([90, 82, 69, 86, 82, 65, 78, 75], 3, 3, false, 1, 1, 1),
  ([90, 82, 65, 78, 71, 69], 4, 4, false, 1, 1, 1),
  ([90, 82, 69, 86, 82, 65, 78, 71, 69], 4, 4, false, 1, 1, 1),
  ([90, 82, 65, 78, 71, 69, 66, 89, 83, 67, 79, 82, 69], 4, 4, false, 1, 1, 1),
  ([90, 67, 79, 85, 78, 84], 4, 4, false, 1, 1, 1),
  ([90, 80, 79, 80, 77, 73, 78], 2, 2, true, 1, 1, 1),
  ([90, 80, 79, 80, 77, 65, 88], 2, 2, true, 1, 1, 1),
  ([90, 82, 69, 77, 82, 65, 78, 71, 69, 66, 89, 82, 65, 78, 75], 4, 4, true, 1, 1, 1),
  ([90, 82, 69, 77, 82, 65, 78, 71, 69, 66, 89, 83, 67, 79, 82, 69], 4, 4, true, 1, 1, 1),
  ([80, 65, 68, 68], 5, 0, true, 1, 1, 1),
  ([80, 82, 69, 77], 3, 0, true, 1, 1, 1),
  ([80, 80, 79, 83], 3, 3, false, 1, 1, 1),
  ([80, 67, 65, 82, 68], 2, 2, false, 1, 1, 1),
  ([80, 77, 79, 86, 69], 4, 4, true, 1, 1, 1),
  ([80, 84, 85, 82, 78], 3, 3, true, 1, 1, 1),
  ([80, 83, 67, 65, 76, 69], 4, 4, true, 1, 1, 1),
  ([80, 78, 69, 65, 82], 4, 4, false, 1, 1, 1),
  ([80, 83, 85, 77], 2, 2, false, 1, 1, 1),
  ([80, 65, 76, 76], 2, 2, false, 1, 1, 1),
  ([80, 73, 78, 71], 1, 1, false, 0, 0, 0),
  ([69, 67, 72, 79], 2, 2, false, 0, 0, 0)]
def rowC (r : Row) : List Value := [.string ⟨r.1.toArray⟩, .int .i64 r.2.1, .int .i64 r.2.2.1, .bool r.2.2.2.1, .int .i64 r.2.2.2.2.1, .int .i64 r.2.2.2.2.2.1, .int .i64 r.2.2.2.2.2.2]
def rowsC : Array Value := (rowsT.flatMap rowC).toArray
theorem rowsT_len : rowsT.length = 82 := by kernel_rfl
theorem flat_at (l : List Row) (k j : Nat) (r : Row) (v : Value) (hk : l[k]? = some r) (hv : (rowC r)[j]? = some v) : (l.flatMap rowC)[k * 7 + j]? = some v := by
  induction l generalizing k with
  | nil => cases hk
  | cons q t ih =>
    rw [List.flatMap_cons]
    have hj : j < 7 := (List.getElem?_eq_some_iff.1 hv).1
    have hl : (rowC q).length = 7 := rfl
    cases k with
    | zero =>
      cases hk
      rw [List.getElem?_append_left (by omega), Nat.zero_mul, Nat.zero_add]
      exact hv
    | succ k =>
      rw [List.getElem?_append_right (by omega), hl, show (k + 1) * 7 + j - 7 = k * 7 + j by omega]
      exact ih k hk
theorem rows_at (k j : Nat) (r : Row) (v : Value) (hk : rowsT[k]? = some r) (hv : (rowC r)[j]? = some v) : rowsC[k * 7 + j]? = some v := by
  unfold rowsC
  rw [List.getElem?_toArray]
  exact flat_at _ k j r v hk hv
def nameAt (k : Nat) : List UInt8 := (rowsT.getD k default).1
theorem names_apart : ((List.range 82).all fun k => (List.range k).all fun j => !(nameAt j == nameAt k)) = true := by kernel_rfl
theorem name_ne {k j : Nat} (hk : k < 82) (hj : j < k) : (nameAt j == nameAt k) = false := by
  have h1 := List.all_eq_true.1 names_apart k (List.mem_range.2 hk)
  have h2 := List.all_eq_true.1 h1 j (List.mem_range.2 hj)
  simpa using h2
end Go.CmdT

/- The commands' table: what command.rows lays in memory. -/
namespace Go.Proofs.YtjljljjmdlddkaaGreat
open Go.ChangeShapes Go.WideShapes Go.ChangeAt Go.RowKit

/-- A region's operations, run one behind the other, where none is guarded, none enters a function, none halts. -/
def runOps (P : Program) : List Oper → Act → World → Option (Act × World)
  | [], a, w => some (a, w)
  | o :: rest, a, w =>
    match o.guard with
    | some _ => none
    | none =>
      match (execOp a.eval o).run P w with
      | .ok (.value v) w' => runOps P rest (a.put o.dst v) w'
      | .ok .skip w' => runOps P rest (a.put o.dst undef) w'
      | _ => none
theorem wpList_run {P : Program} {ops : Array Oper} {Q : Exit → Act → World → Prop} : ∀ (l : List Oper) (a : Act) (w : World) (r : Act × World), runOps P l a w = some r → Q .normal r.1 r.2 → wpList P ops Q l a w := by
  intro l
  induction l with
  | nil =>
    intro a w r h k
    unfold runOps at h
    cases h
    exact k
  | cons o rest ih =>
    intro a w r h k
    unfold runOps at h
    split at h
    · cases h
    · rename_i hg
      split at h
      · rename_i v w' hrun
        refine wpList_plain hg fun K hK => ?_
        unfold Oper.wp
        rw [hrun, Oper.upon_value]
        exact hK _ _ (ih _ _ _ h k)
      · rename_i w' hrun
        refine wpList_plain hg fun K hK => ?_
        unfold Oper.wp
        rw [hrun, Oper.upon_skip]
        exact hK _ _ (ih _ _ _ h k)
      · cases h
theorem wpList_run0 {P : Program} {ops : Array Oper} {Q : Exit → Act → World → Prop} {l : List Oper} {a : Act} {w : World} (v0 : Value) (w' : World) (h : (runOps P l a w).map (fun r => (r.1.tmps.getD 0 undef, r.1.defers, r.2)) = some (v0, [], w'))
    (k : ∀ a', a'.tmps.getD 0 undef = v0 → a'.defers = [] → Q .normal a' w') : wpList P ops Q l a w := by
  cases hr : runOps P l a w with
  | none => rw [hr] at h; cases h
  | some r =>
    rw [hr] at h
    simp only [Option.map_some, Option.some.injEq, Prod.mk.injEq] at h
    obtain ⟨h1, h2, h3⟩ := h
    refine wpList_run l a w r hr ?_
    rw [h3]
    exact k _ h1 h2
set_option maxRecDepth 100000 in
set_option maxHeartbeats 4000000 in
theorem rows96 (w : World) : Calls Tryz.prog 111 #[] w fun e w' => e = .returned (.slice (some ⟨w.heap.size, 0, none⟩) 82 82) ∧ w.alloc (.cells CmdT.rowsC 120) = w' := by
  go_enter Tryz.func111, Tryz.ntmps111
  go_step
  apply wp_seq_k
  intro K1 hK1
  apply wp_region_lit
  refine wpList_run _ _ _ _ rfl ?_
  simp only [Exit.then]
  apply hK1
  apply wp_seq_k
  intro K2 hK2
  apply wp_region_list
  refine wpList_run0 (.slice (some ⟨w.heap.size, 0, none⟩) 82 82) (w.alloc (.cells CmdT.rowsC 120)) (by kernel_rfl) ?_
  intro a' h1 h2
  simp only [Exit.then]
  apply hK2
  clear hK1 hK2
  go_step
  exact bodyPost_ret (v := .slice (some ⟨w.heap.size, 0, none⟩) 82 82) (by simp [results, Tryz.results111, go_sem]; simpa using h1) h2 ⟨rfl, rfl⟩
end Go.Proofs.YtjljljjmdlddkaaGreat

/- command.Find at any row of the table. -/
namespace Go.Proofs.YtjljljjmdlddkaaGreat
open Go.ChangeShapes Go.WideShapes Go.ChangeAt Go.RowKit

/-- A block of seven cells that is known whole. -/
theorem cells7 {X : World} {b : Nat} {a0 a1 a2 a3 a4 a5 a6 : Value} {t : TypeId} (h : X.heap[b]? = some (.cells #[a0, a1, a2, a3, a4, a5, a6] t)) :
    (X.cell? ⟨b, 0, none⟩ = some a0 ∧ X.cell? ⟨b, 1, none⟩ = some a1 ∧ X.cell? ⟨b, 2, none⟩ = some a2 ∧ X.cell? ⟨b, 3, none⟩ = some a3 ∧ X.cell? ⟨b, 4, none⟩ = some a4 ∧ X.cell? ⟨b, 5, none⟩ = some a5 ∧ X.cell? ⟨b, 6, none⟩ = some a6) ∧
    (X.frozen? ⟨b, 0, none⟩ = false ∧ X.frozen? ⟨b, 1, none⟩ = false ∧ X.frozen? ⟨b, 2, none⟩ = false ∧ X.frozen? ⟨b, 3, none⟩ = false ∧ X.frozen? ⟨b, 4, none⟩ = false ∧ X.frozen? ⟨b, 5, none⟩ = false ∧ X.frozen? ⟨b, 6, none⟩ = false) ∧ b < X.heap.size := by
  refine ⟨⟨?_, ?_, ?_, ?_, ?_, ?_, ?_⟩, ⟨?_, ?_, ?_, ?_, ?_, ?_, ?_⟩, (Array.getElem?_eq_some_iff.1 h).1⟩ <;> simp [World.cell?, World.frozen?, h]
def zero7 : Array Value := #[.string ⟨#[]⟩, .int .i64 0, .int .i64 0, .bool false, .int .i64 0, .int .i64 0, .int .i64 0]
theorem row_cells {X : World} {R : Nat} (h : X.heap[R]? = some (.cells CmdT.rowsC 120)) (k : Nat) (r : CmdT.Row) (hk : CmdT.rowsT[k]? = some r) (j : Nat) (v : Value) (hv : (CmdT.rowC r)[j]? = some v) : X.cell? ⟨R, k * 7 + j, none⟩ = some v := by
  have := CmdT.rows_at k j r v hk hv
  simp [World.cell?, h, this]
theorem name_at {k : Nat} {r : CmdT.Row} (h : CmdT.rowsT[k]? = some r) : CmdT.nameAt k = r.1 := by unfold CmdT.nameAt; rw [List.getD, h]; rfl
set_option maxHeartbeats 4000000 in
theorem Find_at (K : Nat) (raw b0 : ByteArray) (b1 b2 : Int) (b3 : Bool) (b4 b5 b6 : Int) (l0 : List UInt8) (hl0 : b0 = ⟨l0.toArray⟩) (hK : CmdT.rowsT[K]? = some (l0, b1, b2, b3, b4, b5, b6))
    (hu : ∀ w, Calls Tryz.prog 44 #[.string raw] w fun e w' => e = .returned (.string b0) ∧ Below w.heap.size w w') (w : World) :
    Calls Tryz.prog 71 #[.string raw] w fun e w' => e = .returned (.tuple #[.agg #[.string b0, .int .i64 b1, .int .i64 b2, .bool b3, .int .i64 b4, .int .i64 b5, .int .i64 b6], .bool true]) ∧ Below w.heap.size w w' := by
  have U := Lib.hid hu
  have R := Lib.hid (fun w => rows96 w)
  have HK := Lib.hid hK
  have HL := Lib.hid hl0
  have hKl : K < 82 := by have := (List.getElem?_eq_some_iff.1 hK).1; rw [CmdT.rowsT_len] at this; exact this
  have HKL := Lib.hid hKl
  clear hu hK hl0 hKl
  go_enter Tryz.func71, Tryz.ntmps71
  go_wp2_with (first | (go_at_call 44; (with_reducible refine (U.out _).mono ?_); rintro e w1 ⟨rfl, hb1⟩; have HB1 := Lib.hid hb1; clear hb1) | (go_at_call 111; (with_reducible refine (R.out _).mono ?_); rintro e w2 ⟨rfl, hw2⟩; refine Hid.out ?_))
  obtain ⟨RR, hR⟩ : ∃ R, w1.heap.size = R := ⟨_, rfl⟩
  rw [hR]
  have hz1 : w1.heap[w.heap.size]? = some (.cells zero7 120) := blk_below (W := w.alloc (.cells zero7 120)) (heap_alloc_new w _) HB1.out
  have hz2 : w2.heap[w.heap.size]? = some (.cells zero7 120) := by rw [← hw2]; exact blk_below hz1 alloc_old
  have hz3 : w2.heap[RR]? = some (.cells CmdT.rowsC 120) := by rw [← hw2, ← hR]; exact heap_alloc_new w1 _
  have hlt1 : w.heap.size < w1.heap.size := (Array.getElem?_eq_some_iff.1 hz1).1
  have hz4 : Below w.heap.size w w2 := by
    rw [← hw2]
    exact ((Below.alloc (Below.refl _ _) (Nat.le_refl _) _).trans (HB1.out.mono (by simp))).alloc (by omega) _
  have HZ := Lib.hid (And.intro hz2 (And.intro hz3 hz4))
  clear hz1 hz2 hz3 hz4 hw2 hR hlt1
  refine Lib.hid ?_
  go_wp2_with fail
  go_loopw [10] (fun i wr => ∃ k : Nat, k ≤ K ∧ i = .int .i64 k ∧ Hid (wr.heap[w.heap.size]? = some (.cells zero7 120) ∧ wr.heap[RR]? = some (.cells CmdT.rowsC 120) ∧ Below w.heap.size w wr)) (fun i _ => 82 - (intOf i).toNat)
  case atStart => exact ⟨0, by omega, rfl, HZ⟩
  case round =>
    obtain ⟨k, hk, rfl, HQ⟩ := hrel
    have hkl := HKL.out
    have ik : (k : Int) < 82 := by omega
    obtain ⟨⟨x, a1, a2, a3, a4, a5, a6⟩, hrow⟩ : ∃ r, CmdT.rowsT[k]? = some r := ⟨_, List.getElem?_eq_getElem (by rw [CmdT.rowsT_len]; omega)⟩
    have hc0 := row_cells HQ.out.2.1 k _ hrow 0 _ rfl
    have hc1 := row_cells HQ.out.2.1 k _ hrow 1 _ rfl
    have hc2 := row_cells HQ.out.2.1 k _ hrow 2 _ rfl
    have hc3 := row_cells HQ.out.2.1 k _ hrow 3 _ rfl
    have hc4 := row_cells HQ.out.2.1 k _ hrow 4 _ rfl
    have hc5 := row_cells HQ.out.2.1 k _ hrow 5 _ rfl
    have hc6 := row_cells HQ.out.2.1 k _ hrow 6 _ rfl
    rw [Nat.add_zero] at hc0
    obtain ⟨a0, ha0⟩ : ∃ a0 : ByteArray, (⟨x.toArray⟩ : ByteArray) = a0 := ⟨_, rfl⟩
    simp only [ha0] at hc0
    by_cases hlt : k < K
    · have hne : ¬ a0.toList = b0.toList := by
        rw [← ha0, HL.out, ByteArray.toList_mk, ByteArray.toList_mk]
        have h1 := CmdT.name_ne HKL.out hlt
        rw [name_at hrow, name_at HK.out] at h1
        exact beq_eq_false_iff_ne.1 h1
      have hne2 : (a0.toList == b0.toList) = false := beq_eq_false_iff_ne.2 hne
      clear hrow ha0
      go_wp2
      have hsz : w.heap.size ≤ wr.heap.size := Below.size HQ.out.2.2
      exact ⟨⟨k + 1, by omega, by go_num, Lib.hid ⟨blk_below HQ.out.1 alloc_old, blk_below HQ.out.2.1 alloc_old, HQ.out.2.2.trans (alloc_old.mono hsz)⟩⟩, by simp [intOf]; omega⟩
    · have hkK : k = K := by omega
      subst hkK
      have hq := hrow.symm.trans HK.out
      cases hq
      have ha1 : b0 = a0 := HL.out.trans ha0
      subst ha1
      obtain ⟨⟨d0, d1, d2, d3, d4, d5, d6⟩, ⟨g0, g1, g2, g3, g4, g5, g6⟩, zz⟩ := cells7 HQ.out.1
      have BB := Lib.hid HQ.out.2.2
      have hsz := Lib.hid (Below.size HQ.out.2.2)
      clear hrow ha0 hlt
      go_wp2
      exact bodyPost_ret (v := .tuple #[.agg #[.string b0, .int .i64 b1, .int .i64 b2, .bool b3, .int .i64 b4, .int .i64 b5, .int .i64 b6], .bool true]) (by simp [results, Tryz.results71, go_sem, d0, d1, d2, d3, d4, d5, d6, zz]) rfl ⟨rfl, ((((((((BB.out.setCell (Nat.le_refl _) _).setCell (Nat.le_refl _) _).setCell (Nat.le_refl _) _).setCell (Nat.le_refl _) _).setCell (Nat.le_refl _) _).setCell (Nat.le_refl _) _).setCell (Nat.le_refl _) _).alloc (by simp; omega) _)⟩
end Go.Proofs.YtjljljjmdlddkaaGreat

/- command.groups and Fits at the strings' commands. -/
namespace Go.Proofs.YtjljljjmdlddkaaGreat
open Go.ChangeShapes Go.WideShapes Go.ChangeAt Go.RowKit

theorem groups_GET (n : Int) (w : World) : Calls Tryz.prog 72 #[.string ⟨#[71, 69, 84]⟩, .int .i64 n] w fun e w' => e = .returned (.bool true) ∧ Below w.heap.size w w' := by
  go_enter Tryz.func72, Tryz.ntmps72
  go_wp2
  go_ret
  exact ⟨rfl, Below.refl _ _⟩
/-- A command whose arguments fit. -/
theorem Fits_ok (K : Nat) (raw b0 : ByteArray) (b1 b2 : Int) (b3 : Bool) (b4 b5 b6 : Int) (l0 : List UInt8) (hl0 : b0 = ⟨l0.toArray⟩) (hK : CmdT.rowsT[K]? = some (l0, b1, b2, b3, b4, b5, b6))
    (hu : ∀ w, Calls Tryz.prog 44 #[.string raw] w fun e w' => e = .returned (.string b0) ∧ Below w.heap.size w w') (v : Value) (xs : List ByteArray) (hx : xs[0]? = some raw) (hlo : b1 ≤ (xs.length : Int)) (hhi : b2 ≤ 0 ∨ (xs.length : Int) ≤ b2)
    (hg : ∀ w, Calls Tryz.prog 72 #[.string b0, .int .i64 (xs.length : Nat)] w fun e w' => e = .returned (.bool true) ∧ Below w.heap.size w w') (w : World) (h : SSl w v xs) :
    Calls Tryz.prog 43 #[v] w fun e w' => e = .returned (.int .i64 0) ∧ Below w.heap.size w w' := by
  have F := Lib.hid (fun w => Find_at K raw b0 b1 b2 b3 b4 b5 b6 l0 hl0 hK hu w)
  have G := Lib.hid hg
  obtain ⟨A, cap, rfl, p1, p2, p3⟩ := h
  have hlt : 0 < xs.length := (List.getElem?_eq_some_iff.1 hx).1
  obtain ⟨blk, off, rfl, hb, hc⟩ := p3 (by intro e; rw [e] at hlt; simp at hlt)
  have d0 := hc 0 raw hx
  rw [Nat.add_zero] at d0
  unfold maxLen at p2
  have i0 : (0 : Int) < (xs.length : Int) := by omega
  have i1 : ((xs.length : Int) == 0) = false := by rw [beq_eq_false_iff_ne]; omega
  have i2 : ¬ (xs.length : Int) < b1 := by omega
  clear hc p3 hx hl0 hK hu hg
  by_cases h2 : 0 < b2
  · have i3 : ¬ b2 < (xs.length : Int) := by
      rcases hhi with h | h
      · exact absurd h2 (Int.not_lt.2 h)
      · exact Int.not_lt.2 h
    clear hhi
    go_enter Tryz.func43, Tryz.ntmps43
    go_wp2_with (first | (go_at_call 71; (with_reducible refine (F.out _).mono ?_); rintro e w1 ⟨rfl, h1⟩; have B1 := Lib.hid h1; clear h1) | (go_at_call 72; (with_reducible refine (G.out _).mono ?_); rintro e w2 ⟨rfl, h3⟩; have B2 := Lib.hid (belA B1.out h3); clear h3))
    go_ret
    exact ⟨by simp, B2.out⟩
  · clear hhi
    go_enter Tryz.func43, Tryz.ntmps43
    go_wp2_with (first | (go_at_call 71; (with_reducible refine (F.out _).mono ?_); rintro e w1 ⟨rfl, h1⟩; have B1 := Lib.hid h1; clear h1) | (go_at_call 72; (with_reducible refine (G.out _).mono ?_); rintro e w2 ⟨rfl, h3⟩; have B2 := Lib.hid (belA B1.out h3); clear h3))
    go_ret
    exact ⟨by simp, B2.out⟩
end Go.Proofs.YtjljljjmdlddkaaGreat

/- Fits at the commands that the laws call, by name. -/
namespace Go.Proofs.YtjljljjmdlddkaaGreat
open Go.ChangeShapes Go.WideShapes Go.ChangeAt Go.RowKit

theorem groups_RPUSH (n : Int) (w : World) : Calls Tryz.prog 72 #[.string ⟨#[82, 80, 85, 83, 72]⟩, .int .i64 n] w fun e w' => e = .returned (.bool true) ∧ Below w.heap.size w w' := by
  go_enter Tryz.func72, Tryz.ntmps72
  go_wp2
  go_ret
  exact ⟨rfl, Below.refl _ _⟩
theorem hu_RPUSH (w : World) : Calls Tryz.prog 44 #[.string ⟨#[82, 80, 85, 83, 72]⟩] w fun e w' => e = .returned (.string ⟨#[82, 80, 85, 83, 72]⟩) ∧ Below w.heap.size w w' := Upper62 ⟨#[82, 80, 85, 83, 72]⟩ (by decide) (of_decide_eq_true (by kernel_rfl)) w
theorem Fits_RPUSH (v : Value) (xs : List ByteArray) (hx : xs[0]? = some ⟨#[82, 80, 85, 83, 72]⟩) (hlo : 3 ≤ xs.length) (w : World) (h : SSl w v xs) : Calls Tryz.prog 43 #[v] w fun e w' => e = .returned (.int .i64 0) ∧ Below w.heap.size w w' :=
  Fits_ok 30 ⟨#[82, 80, 85, 83, 72]⟩ ⟨#[82, 80, 85, 83, 72]⟩ 3 0 true 1 1 1 [82, 80, 85, 83, 72] rfl (by kernel_rfl) hu_RPUSH v xs hx (by omega) (.inl (Int.le_refl 0)) (groups_RPUSH _) w h
theorem groups_LPUSH (n : Int) (w : World) : Calls Tryz.prog 72 #[.string ⟨#[76, 80, 85, 83, 72]⟩, .int .i64 n] w fun e w' => e = .returned (.bool true) ∧ Below w.heap.size w w' := by
  go_enter Tryz.func72, Tryz.ntmps72
  go_wp2
  go_ret
  exact ⟨rfl, Below.refl _ _⟩
theorem hu_LPUSH (w : World) : Calls Tryz.prog 44 #[.string ⟨#[76, 80, 85, 83, 72]⟩] w fun e w' => e = .returned (.string ⟨#[76, 80, 85, 83, 72]⟩) ∧ Below w.heap.size w w' := Upper62 ⟨#[76, 80, 85, 83, 72]⟩ (by decide) (of_decide_eq_true (by kernel_rfl)) w
theorem Fits_LPUSH (v : Value) (xs : List ByteArray) (hx : xs[0]? = some ⟨#[76, 80, 85, 83, 72]⟩) (hlo : 3 ≤ xs.length) (w : World) (h : SSl w v xs) : Calls Tryz.prog 43 #[v] w fun e w' => e = .returned (.int .i64 0) ∧ Below w.heap.size w w' :=
  Fits_ok 29 ⟨#[76, 80, 85, 83, 72]⟩ ⟨#[76, 80, 85, 83, 72]⟩ 3 0 true 1 1 1 [76, 80, 85, 83, 72] rfl (by kernel_rfl) hu_LPUSH v xs hx (by omega) (.inl (Int.le_refl 0)) (groups_LPUSH _) w h
theorem groups_LREM (n : Int) (w : World) : Calls Tryz.prog 72 #[.string ⟨#[76, 82, 69, 77]⟩, .int .i64 n] w fun e w' => e = .returned (.bool true) ∧ Below w.heap.size w w' := by
  go_enter Tryz.func72, Tryz.ntmps72
  go_wp2
  go_ret
  exact ⟨rfl, Below.refl _ _⟩
theorem hu_LREM (w : World) : Calls Tryz.prog 44 #[.string ⟨#[76, 82, 69, 77]⟩] w fun e w' => e = .returned (.string ⟨#[76, 82, 69, 77]⟩) ∧ Below w.heap.size w w' := Upper62 ⟨#[76, 82, 69, 77]⟩ (by decide) (of_decide_eq_true (by kernel_rfl)) w
theorem Fits_LREM (v : Value) (xs : List ByteArray) (hx : xs[0]? = some ⟨#[76, 82, 69, 77]⟩) (hlo : 4 ≤ xs.length) (hhi : xs.length ≤ 4) (w : World) (h : SSl w v xs) : Calls Tryz.prog 43 #[v] w fun e w' => e = .returned (.int .i64 0) ∧ Below w.heap.size w w' :=
  Fits_ok 40 ⟨#[76, 82, 69, 77]⟩ ⟨#[76, 82, 69, 77]⟩ 4 4 true 1 1 1 [76, 82, 69, 77] rfl (by kernel_rfl) hu_LREM v xs hx (by omega) (.inr (by omega)) (groups_LREM _) w h
theorem groups_LRANGE (n : Int) (w : World) : Calls Tryz.prog 72 #[.string ⟨#[76, 82, 65, 78, 71, 69]⟩, .int .i64 n] w fun e w' => e = .returned (.bool true) ∧ Below w.heap.size w w' := by
  go_enter Tryz.func72, Tryz.ntmps72
  go_wp2
  go_ret
  exact ⟨rfl, Below.refl _ _⟩
theorem hu_LRANGE (w : World) : Calls Tryz.prog 44 #[.string ⟨#[76, 82, 65, 78, 71, 69]⟩] w fun e w' => e = .returned (.string ⟨#[76, 82, 65, 78, 71, 69]⟩) ∧ Below w.heap.size w w' := Upper62 ⟨#[76, 82, 65, 78, 71, 69]⟩ (by decide) (of_decide_eq_true (by kernel_rfl)) w
theorem Fits_LRANGE (v : Value) (xs : List ByteArray) (hx : xs[0]? = some ⟨#[76, 82, 65, 78, 71, 69]⟩) (hlo : 4 ≤ xs.length) (hhi : xs.length ≤ 4) (w : World) (h : SSl w v xs) : Calls Tryz.prog 43 #[v] w fun e w' => e = .returned (.int .i64 0) ∧ Below w.heap.size w w' :=
  Fits_ok 38 ⟨#[76, 82, 65, 78, 71, 69]⟩ ⟨#[76, 82, 65, 78, 71, 69]⟩ 4 4 false 1 1 1 [76, 82, 65, 78, 71, 69] rfl (by kernel_rfl) hu_LRANGE v xs hx (by omega) (.inr (by omega)) (groups_LRANGE _) w h
theorem groups_RPOPLPUSH (n : Int) (w : World) : Calls Tryz.prog 72 #[.string ⟨#[82, 80, 79, 80, 76, 80, 85, 83, 72]⟩, .int .i64 n] w fun e w' => e = .returned (.bool true) ∧ Below w.heap.size w w' := by
  go_enter Tryz.func72, Tryz.ntmps72
  go_wp2
  go_ret
  exact ⟨rfl, Below.refl _ _⟩
theorem hu_RPOPLPUSH (w : World) : Calls Tryz.prog 44 #[.string ⟨#[82, 80, 79, 80, 76, 80, 85, 83, 72]⟩] w fun e w' => e = .returned (.string ⟨#[82, 80, 79, 80, 76, 80, 85, 83, 72]⟩) ∧ Below w.heap.size w w' := Upper62 ⟨#[82, 80, 79, 80, 76, 80, 85, 83, 72]⟩ (by decide) (of_decide_eq_true (by kernel_rfl)) w
theorem Fits_RPOPLPUSH (v : Value) (xs : List ByteArray) (hx : xs[0]? = some ⟨#[82, 80, 79, 80, 76, 80, 85, 83, 72]⟩) (hlo : 3 ≤ xs.length) (hhi : xs.length ≤ 3) (w : World) (h : SSl w v xs) : Calls Tryz.prog 43 #[v] w fun e w' => e = .returned (.int .i64 0) ∧ Below w.heap.size w w' :=
  Fits_ok 42 ⟨#[82, 80, 79, 80, 76, 80, 85, 83, 72]⟩ ⟨#[82, 80, 79, 80, 76, 80, 85, 83, 72]⟩ 3 3 true 1 2 1 [82, 80, 79, 80, 76, 80, 85, 83, 72] rfl (by kernel_rfl) hu_RPOPLPUSH v xs hx (by omega) (.inr (by omega)) (groups_RPOPLPUSH _) w h
theorem groups_LINDEX (n : Int) (w : World) : Calls Tryz.prog 72 #[.string ⟨#[76, 73, 78, 68, 69, 88]⟩, .int .i64 n] w fun e w' => e = .returned (.bool true) ∧ Below w.heap.size w w' := by
  go_enter Tryz.func72, Tryz.ntmps72
  go_wp2
  go_ret
  exact ⟨rfl, Below.refl _ _⟩
theorem hu_LINDEX (w : World) : Calls Tryz.prog 44 #[.string ⟨#[76, 73, 78, 68, 69, 88]⟩] w fun e w' => e = .returned (.string ⟨#[76, 73, 78, 68, 69, 88]⟩) ∧ Below w.heap.size w w' := Upper62 ⟨#[76, 73, 78, 68, 69, 88]⟩ (by decide) (of_decide_eq_true (by kernel_rfl)) w
theorem Fits_LINDEX (v : Value) (xs : List ByteArray) (hx : xs[0]? = some ⟨#[76, 73, 78, 68, 69, 88]⟩) (hlo : 3 ≤ xs.length) (hhi : xs.length ≤ 3) (w : World) (h : SSl w v xs) : Calls Tryz.prog 43 #[v] w fun e w' => e = .returned (.int .i64 0) ∧ Below w.heap.size w w' :=
  Fits_ok 36 ⟨#[76, 73, 78, 68, 69, 88]⟩ ⟨#[76, 73, 78, 68, 69, 88]⟩ 3 3 false 1 1 1 [76, 73, 78, 68, 69, 88] rfl (by kernel_rfl) hu_LINDEX v xs hx (by omega) (.inr (by omega)) (groups_LINDEX _) w h
theorem groups_LPOP (n : Int) (w : World) : Calls Tryz.prog 72 #[.string ⟨#[76, 80, 79, 80]⟩, .int .i64 n] w fun e w' => e = .returned (.bool true) ∧ Below w.heap.size w w' := by
  go_enter Tryz.func72, Tryz.ntmps72
  go_wp2
  go_ret
  exact ⟨rfl, Below.refl _ _⟩
theorem hu_LPOP (w : World) : Calls Tryz.prog 44 #[.string ⟨#[76, 80, 79, 80]⟩] w fun e w' => e = .returned (.string ⟨#[76, 80, 79, 80]⟩) ∧ Below w.heap.size w w' := Upper62 ⟨#[76, 80, 79, 80]⟩ (by decide) (of_decide_eq_true (by kernel_rfl)) w
theorem Fits_LPOP (v : Value) (xs : List ByteArray) (hx : xs[0]? = some ⟨#[76, 80, 79, 80]⟩) (hlo : 2 ≤ xs.length) (hhi : xs.length ≤ 2) (w : World) (h : SSl w v xs) : Calls Tryz.prog 43 #[v] w fun e w' => e = .returned (.int .i64 0) ∧ Below w.heap.size w w' :=
  Fits_ok 33 ⟨#[76, 80, 79, 80]⟩ ⟨#[76, 80, 79, 80]⟩ 2 2 true 1 1 1 [76, 80, 79, 80] rfl (by kernel_rfl) hu_LPOP v xs hx (by omega) (.inr (by omega)) (groups_LPOP _) w h
theorem groups_RPOP (n : Int) (w : World) : Calls Tryz.prog 72 #[.string ⟨#[82, 80, 79, 80]⟩, .int .i64 n] w fun e w' => e = .returned (.bool true) ∧ Below w.heap.size w w' := by
  go_enter Tryz.func72, Tryz.ntmps72
  go_wp2
  go_ret
  exact ⟨rfl, Below.refl _ _⟩
theorem hu_RPOP (w : World) : Calls Tryz.prog 44 #[.string ⟨#[82, 80, 79, 80]⟩] w fun e w' => e = .returned (.string ⟨#[82, 80, 79, 80]⟩) ∧ Below w.heap.size w w' := Upper62 ⟨#[82, 80, 79, 80]⟩ (by decide) (of_decide_eq_true (by kernel_rfl)) w
theorem Fits_RPOP (v : Value) (xs : List ByteArray) (hx : xs[0]? = some ⟨#[82, 80, 79, 80]⟩) (hlo : 2 ≤ xs.length) (hhi : xs.length ≤ 2) (w : World) (h : SSl w v xs) : Calls Tryz.prog 43 #[v] w fun e w' => e = .returned (.int .i64 0) ∧ Below w.heap.size w w' :=
  Fits_ok 34 ⟨#[82, 80, 79, 80]⟩ ⟨#[82, 80, 79, 80]⟩ 2 2 true 1 1 1 [82, 80, 79, 80] rfl (by kernel_rfl) hu_RPOP v xs hx (by omega) (.inr (by omega)) (groups_RPOP _) w h
theorem groups_LLEN (n : Int) (w : World) : Calls Tryz.prog 72 #[.string ⟨#[76, 76, 69, 78]⟩, .int .i64 n] w fun e w' => e = .returned (.bool true) ∧ Below w.heap.size w w' := by
  go_enter Tryz.func72, Tryz.ntmps72
  go_wp2
  go_ret
  exact ⟨rfl, Below.refl _ _⟩
theorem hu_LLEN (w : World) : Calls Tryz.prog 44 #[.string ⟨#[76, 76, 69, 78]⟩] w fun e w' => e = .returned (.string ⟨#[76, 76, 69, 78]⟩) ∧ Below w.heap.size w w' := Upper62 ⟨#[76, 76, 69, 78]⟩ (by decide) (of_decide_eq_true (by kernel_rfl)) w
theorem Fits_LLEN (v : Value) (xs : List ByteArray) (hx : xs[0]? = some ⟨#[76, 76, 69, 78]⟩) (hlo : 2 ≤ xs.length) (hhi : xs.length ≤ 2) (w : World) (h : SSl w v xs) : Calls Tryz.prog 43 #[v] w fun e w' => e = .returned (.int .i64 0) ∧ Below w.heap.size w w' :=
  Fits_ok 35 ⟨#[76, 76, 69, 78]⟩ ⟨#[76, 76, 69, 78]⟩ 2 2 false 1 1 1 [76, 76, 69, 78] rfl (by kernel_rfl) hu_LLEN v xs hx (by omega) (.inr (by omega)) (groups_LLEN _) w h
theorem groups_LINSERT (n : Int) (w : World) : Calls Tryz.prog 72 #[.string ⟨#[76, 73, 78, 83, 69, 82, 84]⟩, .int .i64 n] w fun e w' => e = .returned (.bool true) ∧ Below w.heap.size w w' := by
  go_enter Tryz.func72, Tryz.ntmps72
  go_wp2
  go_ret
  exact ⟨rfl, Below.refl _ _⟩
theorem hu_LINSERT (w : World) : Calls Tryz.prog 44 #[.string ⟨#[76, 73, 78, 83, 69, 82, 84]⟩] w fun e w' => e = .returned (.string ⟨#[76, 73, 78, 83, 69, 82, 84]⟩) ∧ Below w.heap.size w w' := Upper62 ⟨#[76, 73, 78, 83, 69, 82, 84]⟩ (by decide) (of_decide_eq_true (by kernel_rfl)) w
theorem Fits_LINSERT (v : Value) (xs : List ByteArray) (hx : xs[0]? = some ⟨#[76, 73, 78, 83, 69, 82, 84]⟩) (hlo : 5 ≤ xs.length) (hhi : xs.length ≤ 5) (w : World) (h : SSl w v xs) : Calls Tryz.prog 43 #[v] w fun e w' => e = .returned (.int .i64 0) ∧ Below w.heap.size w w' :=
  Fits_ok 41 ⟨#[76, 73, 78, 83, 69, 82, 84]⟩ ⟨#[76, 73, 78, 83, 69, 82, 84]⟩ 5 5 true 1 1 1 [76, 73, 78, 83, 69, 82, 84] rfl (by kernel_rfl) hu_LINSERT v xs hx (by omega) (.inr (by omega)) (groups_LINSERT _) w h
theorem groups_LSET (n : Int) (w : World) : Calls Tryz.prog 72 #[.string ⟨#[76, 83, 69, 84]⟩, .int .i64 n] w fun e w' => e = .returned (.bool true) ∧ Below w.heap.size w w' := by
  go_enter Tryz.func72, Tryz.ntmps72
  go_wp2
  go_ret
  exact ⟨rfl, Below.refl _ _⟩
theorem hu_LSET (w : World) : Calls Tryz.prog 44 #[.string ⟨#[76, 83, 69, 84]⟩] w fun e w' => e = .returned (.string ⟨#[76, 83, 69, 84]⟩) ∧ Below w.heap.size w w' := Upper62 ⟨#[76, 83, 69, 84]⟩ (by decide) (of_decide_eq_true (by kernel_rfl)) w
theorem Fits_LSET (v : Value) (xs : List ByteArray) (hx : xs[0]? = some ⟨#[76, 83, 69, 84]⟩) (hlo : 4 ≤ xs.length) (hhi : xs.length ≤ 4) (w : World) (h : SSl w v xs) : Calls Tryz.prog 43 #[v] w fun e w' => e = .returned (.int .i64 0) ∧ Below w.heap.size w w' :=
  Fits_ok 37 ⟨#[76, 83, 69, 84]⟩ ⟨#[76, 83, 69, 84]⟩ 4 4 true 1 1 1 [76, 83, 69, 84] rfl (by kernel_rfl) hu_LSET v xs hx (by omega) (.inr (by omega)) (groups_LSET _) w h
theorem groups_LTRIM (n : Int) (w : World) : Calls Tryz.prog 72 #[.string ⟨#[76, 84, 82, 73, 77]⟩, .int .i64 n] w fun e w' => e = .returned (.bool true) ∧ Below w.heap.size w w' := by
  go_enter Tryz.func72, Tryz.ntmps72
  go_wp2
  go_ret
  exact ⟨rfl, Below.refl _ _⟩
theorem hu_LTRIM (w : World) : Calls Tryz.prog 44 #[.string ⟨#[76, 84, 82, 73, 77]⟩] w fun e w' => e = .returned (.string ⟨#[76, 84, 82, 73, 77]⟩) ∧ Below w.heap.size w w' := Upper62 ⟨#[76, 84, 82, 73, 77]⟩ (by decide) (of_decide_eq_true (by kernel_rfl)) w
theorem Fits_LTRIM (v : Value) (xs : List ByteArray) (hx : xs[0]? = some ⟨#[76, 84, 82, 73, 77]⟩) (hlo : 4 ≤ xs.length) (hhi : xs.length ≤ 4) (w : World) (h : SSl w v xs) : Calls Tryz.prog 43 #[v] w fun e w' => e = .returned (.int .i64 0) ∧ Below w.heap.size w w' :=
  Fits_ok 39 ⟨#[76, 84, 82, 73, 77]⟩ ⟨#[76, 84, 82, 73, 77]⟩ 4 4 true 1 1 1 [76, 84, 82, 73, 77] rfl (by kernel_rfl) hu_LTRIM v xs hx (by omega) (.inr (by omega)) (groups_LTRIM _) w h
end Go.Proofs.YtjljljjmdlddkaaGreat

/- A law's do where the command is refused. -/
namespace Go.Proofs.YtjljljjmdlddkaaGreat
open Go.ChangeShapes Go.WideShapes Go.ChangeAt Go.RowKit

set_option maxRecDepth 100000 in
set_option maxHeartbeats 8000000 in
theorem do_failG (bS : Nat) (vA : Value) (n : Int) (w : World) (hD : ∀ X, Below w.heap.size w X → Calls Tryz.prog 8 #[.pointer (some ⟨bS, 0, none⟩), .int .i64 1, vA] X fun e w' => e = .returned (.tuple #[.agg #[.int .i64 2, .int .i64 n, .string ⟨#[]⟩, .slice none 0 0], .slice none 0 0, .bool true]) ∧ Below X.heap.size X w') : Calls Tryz.prog 6 #[.pointer (some ⟨bS, 0, none⟩), vA] w fun e w' => e = .returned (.agg #[.int .i64 2, .int .i64 n, .string ⟨#[]⟩, .slice none 0 0]) ∧ Below w.heap.size w w' := by
  have A1 := Lib.hid (alloc_old (w := w) (o := .cells #[.int .i64 0, .int .i64 0, .string ⟨#[]⟩, .slice none 0 0] 28))
  have hr := Lib.hid (heap_alloc_new w (.cells #[.int .i64 0, .int .i64 0, .string ⟨#[]⟩, .slice none 0 0] 28))
  have D := Lib.hid (hD _ A1.out)
  clear hD
  go_enter Tryz.func6, Tryz.ntmps6
  go_wp2_with (first | (go_at_call 8; (with_reducible refine (D.out).mono ?_); rintro e w5 ⟨rfl, hb5⟩; have B5 := Lib.hid (A1.out.trans (hb5.mono (Below.size A1.out))); have R5 := Lib.hid (blk_below hr.out hb5); clear hb5; refine Hid.out ?_))
  refine Lib.hid ?_
  have B6 := Lib.hid (show Below w.heap.size w (w5.alloc (.cells #[.int .i64 2, .int .i64 n, .string ⟨#[]⟩, .slice none 0 0] 28)) from B5.out.trans (alloc_old.mono (Below.size B5.out)))
  have o6 := Lib.hid (heap_alloc_new w5 (.cells #[.int .i64 2, .int .i64 n, .string ⟨#[]⟩, .slice none 0 0] 28))
  have R6 := Lib.hid (blk_below R5.out (alloc_old (o := .cells #[.int .i64 2, .int .i64 n, .string ⟨#[]⟩, .slice none 0 0] 28)))
  go_wp2_with fail
  generalize (w5.alloc (.cells #[.int .i64 2, .int .i64 n, .string ⟨#[]⟩, .slice none 0 0] 28)) = w6 at B6 o6 R6 ⊢
  refine wp_loop_once ?_
  obtain ⟨⟨d0, d1, d2, d3⟩, _⟩ := cells4 o6.out
  obtain ⟨⟨c0, c1, c2, c3⟩, ⟨f0, f1, f2, f3⟩⟩ := cells4 R6.out
  go_wp2
  exact bodyPost_ret (v := .agg #[.int .i64 2, .int .i64 n, .string ⟨#[]⟩, .slice none 0 0]) (by simp [results, Tryz.results6, go_sem, c0, c1, c2, c3]) rfl ⟨rfl, ((((B6.out.setCell (Nat.le_refl _) _).setCell (Nat.le_refl _) _).setCell (Nat.le_refl _) _).setCell (Nat.le_refl _) _)⟩
end Go.Proofs.YtjljljjmdlddkaaGreat
