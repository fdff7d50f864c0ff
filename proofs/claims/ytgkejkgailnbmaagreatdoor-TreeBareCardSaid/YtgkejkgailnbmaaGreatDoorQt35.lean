/- Texts joined: L4a -/
import Derived.Test.YtgkejkgailnbmaaGreatDoorQt33
set_option linter.unusedVariables false
set_option linter.unusedSimpArgs false
namespace TP
theorem skipL_le : ∀ (b : Bool) (l : List UInt8), skipL b l ≤ l.length
 | _, [] => by unfold skipL; exact Nat.zero_le _
 | true, c :: r => by
  have h1 := skipL_le false r
  have h2 := skipL_le true r
  simp only [skipL, List.length_cons]
  split <;> omega
 | false, c :: r => by
  have h1 := skipL_le false r
  have h2 := skipL_le true r
  simp only [skipL, List.length_cons]
  split
  ·omega
  ·split <;> omega
theorem runL_le : ∀ l : List UInt8, runL l ≤ l.length
 | [] => Nat.zero_le _
 | c :: r => by
  have := runL_le r
  unfold runL
  rw [List.length_cons]
  split <;> omega
theorem quotL_le (mark : UInt8) : ∀ (l out : List UInt8) (n : Nat) (q : List UInt8 × Nat), quotL mark l out n = some q → q.2 ≤ n + l.length
 | [], _, _, _, h => by simp [quotL] at h
 | [c], out, n, q, h => by
  unfold quotL at h
  split at h
  ·cases h
  ·split at h
   ·split at h
    ·cases h; simp
    ·cases h
   ·split at h
    ·have := quotL_le mark [] _ _ _ h
     simp only [List.length_nil, List.length_cons] at this ⊢
     omega
    ·cases h
 | c :: e :: r, out, n, q, h => by
  unfold quotL at h
  simp only [List.length_cons]
  split at h
  ·cases h
  ·split at h
   ·split at h
    ·cases h; simp only; omega
    ·cases h
   ·split at h
    ·have := quotL_le mark (e :: r) _ _ _ h
     simp only [List.length_cons] at this
     omega
    ·simp only at h
     split at h
     ·have := quotL_le mark r _ _ _ h
      omega
     ·split at h
      ·have := quotL_le mark r _ _ _ h
       omega
      ·split at h
       ·have := quotL_le mark r _ _ _ h
        omega
       ·split at h
        ·split at h
         ·split at h
          ·have := quotL_le mark _ _ _ _ h
           simp only [List.length_cons]
           omega
          ·cases h
         ·cases h
        ·cases h
theorem signL_le : ∀ l : List UInt8, signL l ≤ l.length
 | [] => Nat.zero_le _
 | [c] => by
  unfold signL
  simp only [List.length_cons, List.length_nil]
  split <;> omega
 | c :: d :: r => by
  unfold signL
  simp only [List.length_cons]
  split
  ·omega
  ·split <;> omega
theorem oneL_le {l : List UInt8} {x : Tk × Nat} (h : oneL l = some x) : x.2 ≤ l.length := by
 unfold oneL at h
 split at h
 ·cases h
 ·rename_i c r
  split at h
  ·simp only at h
   split at h
   ·cases h
   ·cases h
    exact runL_le _
  ·split at h
   ·simp only [Option.map_eq_some_iff] at h
    obtain ⟨_, _, h⟩ := h
    cases h
    exact runL_le _
   ·split at h
    ·simp only [Option.map_eq_some_iff] at h
     obtain ⟨q, hq, h⟩ := h
     cases h
     have := quotL_le _ _ _ _ _ hq
     simp only [List.length_cons]
     omega
    ·simp only at h
     split at h
     ·cases h
     ·cases h
      exact signL_le _
def LF (l : List UInt8) (i : Nat) : Option (List (Tk × Nat)) := lexL l.length (l.drop i) i
theorem LF_end (l : List UInt8) : LF l l.length = some [(⟨0, ⟨#[]⟩, 0⟩, l.length)] := by
 unfold LF
 rw [List.drop_length]
 cases l.length <;> rfl
theorem LF_none {l : List UInt8} {i : Nat} (hi : i < l.length) (h : oneL (l.drop i) = none) : LF l i = none := by
 unfold LF
 rw [List.drop_eq_getElem_cons hi] at h ⊢
 obtain ⟨f, hf⟩ : ∃ f, l.length = f + 1 := ⟨l.length - 1, by omega⟩
 rw [hf]
 exact lexL_none h
theorem LF_some {l : List UInt8} {i : Nat} (hi : i < l.length) {t : Tk} {n : Nat} (h : oneL (l.drop i) = some (t, n)) : LF l i = (LF l (i + n + skipL false (l.drop (i + n)))).map ((t, i) :: ·) := by
 unfold LF
 rw [List.drop_eq_getElem_cons hi] at h ⊢
 obtain ⟨f, hf⟩ : ∃ f, l.length = f + 1 := ⟨l.length - 1, by omega⟩
 have hp := oneL_pos h
 simp only at hp
 rw [hf, lexL_some h]
 rw [← List.drop_eq_getElem_cons hi]
 simp only [List.drop_drop]
 rw [← Nat.add_assoc]
 congr 1
 exact lexL_fuel _ _ _ _ (by rw [List.length_drop]; omega) (by rw [List.length_drop]; omega)
theorem lex_LF (l : List UInt8) : lex l = LF l (skipL false l) := rfl
theorem next_le {l : List UInt8} {i : Nat} (hi : i < l.length) {t : Tk} {n : Nat} (h : oneL (l.drop i) = some (t, n)) : i + n + skipL false (l.drop (i + n)) ≤ l.length ∧ i < i + n + skipL false (l.drop (i + n)) ∧ i + n ≤ l.length := by
 have h1 := oneL_le h
 have h2 := oneL_pos h
 have h3 := skipL_le false (l.drop (i + n))
 rw [List.length_drop] at h1 h3
 simp only at h1 h2
 omega
theorem lex_rel {l : List UInt8} {i n : Nat} {t : Tk} {pre : List (Tk × Nat)} {R : Option (List (Tk × Nat))} (hi : i < l.length) (h1 : oneL (l.drop i) = some (t, n)) (h2 : (LF l i).map (pre ++ ·) = R) : (LF l (i + n + skipL false (l.drop (i + n)))).map ((pre ++ [(t, i)]) ++ ·) = R := by
 rw [← h2, LF_some hi h1, Option.map_map]
 congr 1
 funext y
 simp
theorem lex_no {l : List UInt8} {i : Nat} {pre : List (Tk × Nat)} {R : Option (List (Tk × Nat))} (hi : i < l.length) (h1 : oneL (l.drop i) = none) (h2 : (LF l i).map (pre ++ ·) = R) : R = none := by
 rw [← h2, LF_none hi h1]
 rfl
theorem lex_last {l : List UInt8} {i : Nat} {pre : List (Tk × Nat)} {R : Option (List (Tk × Nat))} (hi : i = l.length) (h2 : (LF l i).map (pre ++ ·) = R) : R = some (pre ++ [(⟨0, ⟨#[]⟩, 0⟩, i)]) := by
 subst hi
 rw [← h2, LF_end]
 rfl
theorem one_letter {c : UInt8} {r : List UInt8} (hc : letterB c = true) : oneL (c :: r) = if runL (c :: r) > 32 then none else some (⟨if isWord (B ((c :: r).take (runL (c :: r)))) then 1 else 2, B ((c :: r).take (runL (c :: r))), 0⟩, runL (c :: r)) := by
 unfold oneL
 simp only [hc, if_true]
theorem one_digit {c : UInt8} {r : List UInt8} (hc : letterB c = false) (hd : digitB c = true) : oneL (c :: r) = (wholeL 0 ((c :: r).take (runL (c :: r)))).map (fun k : Nat => ((⟨3, ⟨#[]⟩, (k : Int)⟩ : Tk), runL (c :: r))) := by
 unfold oneL
 simp only [hc, hd, if_true, Bool.false_eq_true, if_false]
 generalize wholeL 0 _ = o
 cases o <;> rfl
theorem one_quoted {c : UInt8} {r : List UInt8} (hc : letterB c = false) (hd : digitB c = false) (hq : c = 34 ∨ c = 39) : oneL (c :: r) = (quotL c r [] 1).map fun q => (⟨4, B q.1, 0⟩, q.2) := by
 unfold oneL
 simp only [hc, hd, hq, if_true, Bool.false_eq_true, if_false]
theorem one_sign {c : UInt8} {r : List UInt8} (hc : letterB c = false) (hd : digitB c = false) (hq : ¬ (c = 34 ∨ c = 39)) : oneL (c :: r) = if signL (c :: r) = 0 then none else some (⟨5, B ((c :: r).take (signL (c :: r))), 0⟩, signL (c :: r)) := by
 unfold oneL
 simp only [hc, hd, hq, Bool.false_eq_true, if_false]
end TP
namespace Go.Proofs.YtgkejkgailnbmaaGreatDoor
open Go.ChangeShapes Go.WideShapes Go.ChangeAt Go.RowKit TP
def cellT (x : Tk × Nat) : List Value := [.int .i64 x.1.kind, .string x.1.text, .int .i64 x.1.n, .int .i64 (x.2 : Int)]
theorem und40 : Tryz.prog.underlying 40 = some (.slice 48) := by kernel_rfl
theorem i48n : (Tryz.prog.info? 48).map (fun i => (i.zero, i.size, i.bytes)) = some (some (.agg #[.int .i64 0, .string ⟨#[]⟩, .int .i64 0, .int .i64 0]), 4, 40) := by kernel_rfl
theorem cellT_len : ∀ l : List (Tk × Nat), (l.flatMap cellT).length = l.length * 4
 | [] => rfl
 | x :: r => by rw [List.flatMap_cons, List.length_append, cellT_len r, List.length_cons]; simp [cellT]; omega
theorem cellT_at : ∀ (l : List (Tk × Nat)) (j : Nat) (x : Tk × Nat), l[j]? = some x → ∀ k, k < 4 → (l.flatMap cellT)[j * 4 + k]? = (cellT x)[k]?
 | [], _, _, h, _, _ => by simp at h
 | y :: r, 0, x, h, k, hk => by
  cases h
  rw [List.flatMap_cons, List.getElem?_append_left (by simp [cellT]; omega)]
  simp
 | y :: r, j + 1, x, h, k, hk => by
  rw [List.flatMap_cons, List.getElem?_append_right (by simp [cellT]; omega)]
  rw [show (j + 1) * 4 + k - (cellT y).length = j * 4 + k by simp [cellT]; omega]
  exact cellT_at r j x h k hk
def TX (w : World) (c : Nat) (v : Value) (l : List (Tk × Nat)) : Prop := w.ownsRow c 48 4 v l.length (l.flatMap cellT)
theorem TX.nil (w : World) (c : Nat) : TX w c (.slice none 0 0) [] := World.ownsRow_nil _ _ _ _
theorem TX.below {w w' : World} {c : Nat} {v : Value} {l : List (Tk × Nat)} (h : TX w c v l) (hb : Below w.heap.size w w') : TX w' c v l := row_below h hb
theorem TX.form {w : World} {c : Nat} {v : Value} {l : List (Tk × Nat)} (h : TX w c v l) : ∃ A cap, v = .slice A l.length cap := by
 unfold TX World.ownsRow at h
 obtain ⟨_, ⟨rfl, hz⟩ | ⟨g, cap, cur, rfl, _⟩⟩ := h
 ·exact ⟨none, 0, by rw [hz]⟩
 ·exact ⟨_, cap, rfl⟩
theorem append_TX {ops : Array Oper} {rest : List Oper} {o : Oper} {a : Act} {Q : Exit → Act → World → Prop} (w : World) (hg : o.guard = none) (s x : Operand) (hop : o.op = Op.call { callee := Callee.builtin Builtin.append, args := #[s, x], argTypes := #[40, 40] })
  (c : Nat) (v : Value) (l : List (Tk × Nat)) (N : Nat) (hN : l.length = N) (hs : a.eval s = v) (h : TX w c v l) (y : Tk × Nat) (b : Nat) (hx : a.eval x = .slice (some ⟨b, 0, none⟩) 1 1) (hb : w.heap[b]? = some (.cells (cellT y).toArray 48)) (hl : N ≤ 100000) (hc : c ≤ w.heap.size)
  (k : ∀ g cap w', TX w' c (.slice (some ⟨g, 0, none⟩) (N + 1) cap) (l ++ [y]) → w.grownBy w' v.ownBlock → wpList Tryz.prog ops Q rest (a.put o.dst (.slice (some ⟨g, 0, none⟩) (N + 1) cap)) w') : wpList Tryz.prog ops Q (o :: rest) a w := by
 have h1 := h
 unfold TX at h1
 rw [hN] at h1
 obtain ⟨i0, hi0, hz0, hz1, hz2⟩ := info_parts i48n
 refine wpList_append_lies w hg s x 40 hop c 48 i0 _ 4 40 und40 hi0 hz0 hz1 hz2 rfl (by decide) v N (l.flatMap cellT) hs h1 ⟨b, 0, none⟩ 1 1 (cellT y) hx rfl (news_blk hb) (fun u hu => by simp only [cellT, List.mem_cons, List.not_mem_nil, or_false] at hu; rcases hu with rfl | rfl | rfl | rfl <;> rfl) (by decide) (by unfold maxLen; omega) (by omega) hc _ rfl ?_
 intro g cap w' h3 h4 _ _
 refine k g cap w' ?_ h4
 unfold TX
 rw [List.length_append, hN, List.flatMap_append]
 simpa using h3
theorem TX.grown {w w' : World} {c W0 : Nat} {v : Value} {l : List (Tk × Nat)} {wz : World} (h : TX w c v l) (hb : Below W0 wz w) (hc : W0 ≤ c) (hw : W0 ≤ w.heap.size) (hg : w.grownBy w' v.ownBlock) : Below W0 wz w' :=
 hb.trans ⟨hg.os, hg.tape, hg.output, hg.size, fun i hi => hg.block i (by omega) (fun e => by have := (row_own h i e.symm).1; omega)⟩
end Go.Proofs.YtgkejkgailnbmaaGreatDoor
