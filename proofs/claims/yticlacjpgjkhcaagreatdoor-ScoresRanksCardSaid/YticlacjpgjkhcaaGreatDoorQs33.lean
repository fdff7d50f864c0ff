/- Texts joined: ZM, Zg, Zr, Z4 -/
import Derived.Test.YticlacjpgjkhcaaGreatDoorQs32
import Derived.Test.YticlacjpgjkhcaaGreatDoorQs31
import Derived.Test.YticlacjpgjkhcaaGreatDoorQs29
set_option linter.unusedVariables false
set_option linter.unusedSimpArgs false

/- Scores of a law: names in order with rising scores; what is taken out of them. -/
namespace Go.Proofs.YticlacjpgjkhcaaGreatDoor
open Go.ChangeShapes Go.WideShapes Go.ChangeAt Go.RowKit

def nZ (j : Nat) : ByteArray := ⟨#[UInt8.ofNat (97 + j)]⟩
theorem nZ_size (j : Nat) : (nZ j).size = 1 := rfl
theorem nZ_ne : ∀ i, i < 12 → ∀ j, j < 12 → nZ j = nZ i → j = i := by decide
/-- All names, one behind the other. -/
def catN (l : List (ByteArray × Int)) : ByteArray := l.foldl (fun s p => s ++ p.1) ⟨#[]⟩
theorem catN_snoc (l : List (ByteArray × Int)) (p : ByteArray × Int) : catN (l ++ [p]) = catN l ++ p.1 := by simp [catN]
theorem catN_foldl (l : List (ByteArray × Int)) : ∀ s : ByteArray, (l.foldl (fun s p => s ++ p.1) s).size = s.size + (l.map fun p => p.1.size).sum := by
  induction l with
  | nil => intro s; simp
  | cons p r ih =>
    intro s
    rw [List.foldl_cons, ih, ByteArray.size_append, List.map_cons, List.sum_cons]
    omega
theorem catN_size (l : List (ByteArray × Int)) (h : ∀ p ∈ l, p.1.size = 1) : (catN l).size = l.length := by
  have e : (l.map fun p => p.1.size).sum = l.length := by
    induction l with
    | nil => rfl
    | cons p r ih =>
      rw [List.map_cons, List.sum_cons, h p List.mem_cons_self, ih fun q hq => h q (List.mem_cons_of_mem _ hq), List.length_cons]
      omega
  unfold catN
  rw [catN_foldl, e]
  show 0 + l.length = l.length
  omega
def fT (i : Nat) : List (ByteArray × Int) := (List.range i).map fun j => (nZ j, 3 * (j : Int))
theorem fT_len (i : Nat) : (fT i).length = i := by simp [fT]
theorem fT_succ (i : Nat) : fT (i + 1) = fT i ++ [(nZ i, 3 * (i : Int))] := by simp [fT, List.range_succ]
theorem fT_mem {i : Nat} {p : ByteArray × Int} (h : p ∈ fT i) : ∃ j, j < i ∧ p = (nZ j, 3 * (j : Int)) := by
  obtain ⟨j, hj, rfl⟩ := List.mem_map.1 h
  exact ⟨j, List.mem_range.1 hj, rfl⟩
theorem find_noneZ (k : ByteArray) : ∀ (F : List (ByteArray × Int)), (∀ p ∈ F, p.1 ≠ k) → findD k F = none
  | [], _ => rfl
  | (x, v) :: r, h => by
    have h1 : x ≠ k := h (x, v) List.mem_cons_self
    simp only [findD, h1, if_false]
    exact find_noneZ k r fun p hp => h p (List.mem_cons_of_mem _ hp)
theorem put_end (k : ByteArray) (s : Int) (F : List (ByteArray × Int)) (h : findD k F = none) (hs : ∀ p ∈ F, p.2 < s) : putZ k s F = F ++ [(k, s)] := by
  unfold putZ insZ loZ hiZ
  rw [delD_none k F h, List.filter_eq_self.2 fun p hp => ?_, List.filter_eq_nil_iff.2 fun p hp => ?_]
  · have := hs p hp
    simp [ltZ, this]
  · have := hs p hp
    simp [ltZ, this]
theorem fT_none (i : Nat) (h : i < 12) : findD (nZ i) (fT i) = none := find_noneZ _ _ fun p hp => by
  obtain ⟨j, hj, rfl⟩ := fT_mem hp
  intro e
  have := nZ_ne i h j (by omega) e
  omega
theorem fT_put (i : Nat) (h : i < 12) : putZ (nZ i) (3 * (i : Int)) (fT i) = fT (i + 1) := by
  rw [fT_succ]
  refine put_end _ _ _ (fT_none i h) fun p hp => ?_
  obtain ⟨j, hj, rfl⟩ := fT_mem hp
  show 3 * (j : Int) < 3 * (i : Int)
  omega
theorem fT_bd : ∀ i, i ≤ 12 → ZBd (fT i)
  | 0, _ => ZBd.nil
  | i + 1, h => by
    have ih := fT_bd i (by omega)
    have e := fT_put i (by omega)
    rw [← e]
    refine ih.put _ _ (by rw [nZ_size]; decide) ⟨by omega, by omega⟩ ?_
    rw [e, fT_len]
    exact h
theorem range_span (a b : Nat) : ∀ k, (List.range k).filter (fun x => decide (a ≤ x) && decide (x ≤ b)) = ((List.range k).take (b + 1)).drop a
  | 0 => by simp
  | k + 1 => by
    rw [List.range_succ, List.filter_append, range_span a b k]
    by_cases h1 : k ≤ b
    · rw [List.take_of_length_le (by simp; omega), List.take_of_length_le (by simp; omega)]
      by_cases h2 : a ≤ k
      · rw [List.drop_append_of_le_length (by simp; omega), List.filter_cons_of_pos (by simp; omega)]
        simp
      · rw [List.drop_eq_nil_of_le (by simp; omega), List.drop_eq_nil_of_le (by simp; omega), List.filter_cons_of_neg (by simp; omega)]
        rfl
    · rw [List.take_append_of_le_length (by simp; omega), List.filter_cons_of_neg (by simp; omega)]
      simp
/-- Those between two ranks. -/
def inT (a b : Nat) (p : ByteArray × Int) : Bool := decide (3 * (a : Int) ≤ p.2) && decide (p.2 ≤ 3 * (b : Int))
theorem spanF_T (a b k : Nat) (_ha : a < k) (hb : b < k) : spanZ a b (fT k) = (fT k).filter (inT a b) := by
  have e : (fT k).filter (inT a b) = ((List.range k).filter (fun x => decide (a ≤ x) && decide (x ≤ b))).map fun j => (nZ j, 3 * (j : Int)) := by
    unfold fT
    rw [List.filter_map]
    congr 1
    refine List.filter_congr fun x _ => ?_
    show (decide (3 * (a : Int) ≤ 3 * (x : Int)) && decide (3 * (x : Int) ≤ 3 * (b : Int))) = _
    have e1 : (3 * (a : Int) ≤ 3 * (x : Int)) ↔ a ≤ x := by omega
    have e2 : (3 * (x : Int) ≤ 3 * (b : Int)) ↔ x ≤ b := by omega
    simp only [e1, e2]
  rw [e, range_span]
  have h1 : spA a (fT k).length = a := by
    unfold spA
    rw [if_neg (by omega)]
  have h2 : spC b (fT k).length = b := by
    unfold spC
    rw [if_neg (by omega), fT_len]
    omega
  unfold spanZ
  rw [h1, h2]
  by_cases h : (a : Int) ≤ (b : Int)
  · rw [if_pos h, Int.toNat_natCast, Int.toNat_natCast]
    unfold fT
    rw [List.map_drop, List.map_take, List.drop_take]
  · rw [if_neg h, List.drop_eq_nil_of_le (by simp; omega)]
    rfl
/-- What is left, by ranks and by scores. -/
theorem rbrT (a b k : Nat) (ha : a < k) (hb : b < k) (hk : k ≤ 12) : dels (spanZ a b (fT k)) (fT k) = (fT k).filter fun p => !inT a b p := by
  rw [spanF_T a b k ha hb]
  exact dels_filter _ _ (fT_bd k hk).nd
def inS (p q : Int) (x : ByteArray × Int) : Bool := decide (p ≤ x.2) && decide (x.2 ≤ q)
theorem rbsT (p q : Int) (k : Nat) (hk : k ≤ 12) : dels (btZ p q (fT k)) (fT k) = (fT k).filter fun x => !inS p q x := by
  rw [btZ_filter p q (fT_bd k hk).ord]
  exact dels_filter _ _ (fT_bd k hk).nd
theorem fT_name (i : Nat) : ∀ p ∈ fT i, p.1.size = 1 := by
  intro p hp
  obtain ⟨j, _, rfl⟩ := fT_mem hp
  rfl
/-- How many are taken: all but those that are left. -/
theorem cutT (f : ByteArray × Int → Bool) (k : Nat) : (((fT k).filter f).length : Int) = (k : Int) - ((catN ((fT k).filter fun p => !f p)).size : Int) := by
  rw [catN_size _ fun p hp => fT_name k p (List.mem_filter.1 hp).1]
  have := part_len f (fT k)
  rw [fT_len] at this
  omega
theorem catZ_succ (f : ByteArray × Int → Bool) (i : Nat) : catN ((fT (i + 1)).filter f) = if f (nZ i, 3 * (i : Int)) = true then catN ((fT i).filter f) ++ nZ i else catN ((fT i).filter f) := by
  rw [fT_succ, List.filter_append]
  cases h : f (nZ i, 3 * (i : Int)) with
  | true => rw [if_pos rfl, List.filter_cons_of_pos h, List.filter_nil, catN_snoc]
  | false => rw [List.filter_cons_of_neg (by simp [h]), List.filter_nil, List.append_nil, if_neg (by decide)]
end Go.Proofs.YticlacjpgjkhcaaGreatDoor

/- scores: ZADD. -/
namespace Go.Proofs.YticlacjpgjkhcaaGreatDoor
open Go.ChangeShapes Go.WideShapes Go.ChangeAt Go.RowKit

set_option maxRecDepth 100000 in
set_option maxHeartbeats 8000000 in
theorem cZADD (bS bM : Nat) (D : List (ByteArray × List (ByteArray × Int))) (now : Int) (k : ByteArray) (xs : List ByteArray) (P : Nat) (nm tx : Nat → ByteArray) (v : Nat → Int) (hl : xs.length = 2 * P + 2) (hk : xs[1]? = some k) (ht : ∀ i, i < P → xs[2 * i + 2]? = some (tx i) ∧ (tx i).size ≤ 100000 ∧ parseI (tx i).data.toList = some (v i) ∧ xs[2 * i + 3]? = some (nm i)) (hP : P ≤ 10) (hP0 : 0 < P) (F : List (ByteArray × Int)) (hF : (findD k D).getD [] = F) (hok : okS k (addZ nm v F P)) (w : World) (hDB : DB w) (h3w : 3 < w.heap.size) : CmdD KS okS 52 bS bM D now xs 3 (addN nm v F P : Nat) ⟨#[]⟩ R0 (dEff k (some (addZ nm v F P)) D) w := by
  intro j vA hS hj hA
  show Calls Tryz.prog 52 #[.pointer (some ⟨j, 0, none⟩)] w _
  obtain ⟨n, hl2⟩ : ∃ n, xs.length = n := ⟨_, rfl⟩
  have hn : n = 2 * P + 2 := by rw [← hl2, hl]
  have hjw := lt_blk hj
  obtain ⟨blk, off, cap, rfl, hAR⟩ := AR.of hj hA (by intro e; subst e; simp at hl)
  have HJ := Lib.hid hj
  have A1 := Lib.hid (alloc_old (w := w) (o := .cells #[.int .i64 0, .int .i64 0, .string ⟨#[]⟩, .slice none 0 0] 29))
  have hr := Lib.hid (heap_alloc_new w (.cells #[.int .i64 0, .int .i64 0, .string ⟨#[]⟩, .slice none 0 0] 29))
  rw [hl2] at HJ ⊢
  have hz : w.heap.size + 1 ≤ (w.alloc (.cells #[.int .i64 0, .int .i64 0, .string ⟨#[]⟩, .slice none 0 0] 29)).heap.size := by simp
  have HO := Lib.hid (fun X hX hc => zof_at bS bM j D now blk off cap xs n hl2 (by omega) k hk (.slice none 0 0) F hF w hDB h3w hS HJ.out hAR X hX (w.heap.size + 1) hc)
  have HFF := Lib.hid (okF_of hS hF)
  have HJA := Lib.hid (fun X (hX : Below w.heap.size w X) => And.intro (HJ.out.below hX) (hA.below hX))
  have HSX := Lib.hid hS
  have HDX := Lib.hid hDB
  have CJ := Lib.hid (fun Y hY => (hAR.job Y hY).1)
  rw [hl2] at CJ
  have CA := Lib.hid (fun Y hY i s hs => hAR.arg Y hY i s hs)
  have hcap := hAR.len
  rw [hl2] at hcap
  have hcap2 := hAR.cap
  have JI := Lib.hid (fun (i : Nat) (hi : i < P) X (hX : Below w.heap.size w X) (ix : Int) (hix : ix = (2 * i + 2 : Nat)) => JIn ix j bS now (.slice (some ⟨blk, off, none⟩) n cap) (.slice none 0 0) xs (2 * i + 2) hix (tx i) (v i) (ht i hi).2.1 (ht i hi).2.2.1 (ht i hi).1 X (HJ.out.below hX) (by have h9 := hA.below hX; rw [hl2] at h9; exact h9))
  have CN := Lib.hid (fun (i : Nat) (hi : i < P) X (hX : Below w.heap.size w X) => CA.out X hX (2 * i + 3) (nm i) (ht i hi).2.2.2)
  have PU := Lib.hid (fun (i : Nat) (hi : i < P) sp X (hc : w.heap.size + 1 ≤ X.heap.size) (hX : Below w.heap.size w X) (hZ : SK X (w.heap.size + 1) sp (addZ nm v F i)) => Put_any (w.heap.size + 1) sp (addZ nm v F i) (nm i) (v i) X hc (by omega) (hDB.at_ hX) (Nat.le_trans (addZ_len nm v F i) (by have := HFF.out.1; omega)) hZ)
  have HS := Lib.hid hS
  have OK := Lib.hid hok
  have XO := Lib.hid (addZ_xo nm v F P hP0)
  have HLG := Lib.hid (show (addZ nm v F P).length ≤ 1000 from Nat.le_trans (addZ_len nm v F P) (by have := HFF.out.1; omega))
  have HNP := Lib.hid (And.intro hn hP)
  have IN := Lib.hid (fun X n => Int75 n X)
  clear hS hj hA hAR hF hDB hok hl hk ht hP0 hn hP hl2 hcap hcap2
  go_enter Tryz.func52, Tryz.ntmps52
  go_wp2_with (first | (go_at_call 67; (with_reducible refine (HO.out _ A1.out hz).mono ?_); rintro e w1 ⟨h, sp, e3, e4, e5, e6, rfl, hH1, h1⟩; have H1 := Lib.hid hH1; have B1 := Lib.hid (A1.out.trans (h1.mono (Below.size A1.out))); have r1 := Lib.hid (blk_below hr.out h1); clear h1 hH1; refine Hid.out ?_))
  refine Lib.hid ?_
  go_wp2
  go_loopw [4] (fun iv wr => ∃ i d : Nat, i ≤ P ∧ iv = .int .i64 (d : Nat) ∧ Hid (d = 2 * i + 2 ∧ Below w1.heap.size w1 wr)) (fun iv _ => n - (intOf iv).toNat)
  case atStart => exact ⟨0, 2, Nat.zero_le _, rfl, Lib.hid ⟨rfl, Below.refl _ _⟩⟩
  case round =>
    obtain ⟨i, d, hi, rfl, HQ⟩ := hrel
    have BW := Lib.hid (B1.out.trans (HQ.out.2.mono (Below.size B1.out)))
    have cj := CJ.out _ BW.out
    have i9 : (d : Int) ≤ 30 := by have := HQ.out.1; have := HNP.out.2; omega
    by_cases hlt : i < P
    · have q0 : (d : Int) < (n : Int) := by have := HQ.out.1; have := HNP.out.1; omega
      have J1 := Lib.hid (JI.out i hlt wr BW.out (d : Int) (by have := HQ.out.1; omega))
      go_wp2_with (first | (go_at_call 110; (with_reducible refine (J1.out).mono ?_); rintro e w2 ⟨rfl, h1⟩; have H2 := Lib.hid (HQ.out.2.trans (h1.mono (Below.size HQ.out.2))); clear h1))
      exact ⟨⟨i + 1, d + 2, hlt, by go_num, Lib.hid ⟨by have := HQ.out.1; omega, H2.out⟩⟩, by simp [intOf]; omega⟩
    · obtain rfl : i = P := by omega
      have q0 : ¬ (d : Int) < (n : Int) := by have := HQ.out.1; have := HNP.out.1; omega
      have HZ1 := Lib.hid (H1.out.below HQ.out.2)
      have rz := Lib.hid (blk_below r1.out HQ.out.2)
      have hcz := lt_blk rz.out
      have BWr := Lib.hid BW.out
      clear HQ i9
      go_wp2
      clear cj q0 BW
      go_loopw [5, 6] (fun nv iv wz => ∃ e d : Nat, e ≤ i ∧ nv = .int .i64 (addN nm v F e : Nat) ∧ iv = .int .i64 (d : Nat) ∧ Hid (d = 2 * e + 2 ∧ ZH (w.heap.size + 1) wz h sp k e3 e4 e5 e6 (addZ nm v F e) ∧ Below (w.heap.size + 1) wr wz)) (fun _ iv _ => n - (intOf iv).toNat)
      case atStart => exact ⟨0, 2, Nat.zero_le _, rfl, rfl, Lib.hid ⟨rfl, HZ1.out, Below.refl _ _⟩⟩
      case round =>
        obtain ⟨e, d, he, rfl, rfl, HQ⟩ := hrel
        have BW := Lib.hid (BWr.out.trans (HQ.out.2.2.mono (Nat.le_succ _)))
        have hcw := Lib.hid (Nat.le_trans hcz (Below.size HQ.out.2.2))
        have cj := CJ.out _ BW.out
        have i9 : (d : Int) ≤ 30 := by have := HQ.out.1; have := HNP.out.2; omega
        have WZ := Lib.hid (wzp d (by omega))
        by_cases hlt : e < i
        · have q0 : (d : Int) + 1 < (n : Int) := by have := HQ.out.1; have := HNP.out.1; omega
          have J1 := Lib.hid (JI.out e hlt wr.drew BW.out.drew (d : Int) (by have := HQ.out.1; omega))
          have SY := Lib.hid (show ∀ X : World, Below w.heap.size w X → X.heap[h]? = wr.heap[h]? → (X.cell? ⟨h, 8, none⟩ = some (.pointer (some ⟨sp, 0, none⟩)) ∧ X.cell? ⟨j, 2, none⟩ = some (.slice (some ⟨blk, off, none⟩) n cap) ∧ X.cell? ⟨blk, off + (d + 1), none⟩ = some (.string (nm e))) from fun Y hY hh => ⟨(cells9 (hh.trans HQ.out.2.1.blk)).1.2.2.2.2.2.2.2.2, CJ.out Y hY, by have h9 := CN.out e hlt Y hY; rw [HQ.out.1]; exact h9⟩)
          have S0 := SY.out wr.drew BW.out.drew rfl
          obtain ⟨bb, hbb⟩ : ∃ bb, (findD (nm e) (addZ nm v F e)).isNone = bb := ⟨_, rfl⟩
          have HA := Lib.hid (show addN nm v F (e + 1) = addN nm v F e + (if bb then 1 else 0) by rw [← hbb]; rfl)
          have PQ := fun X (hc : w.heap.size + 1 ≤ X.heap.size) (hX : Below w.heap.size w X) (hZ : SK X (w.heap.size + 1) sp (addZ nm v F e)) => PU.out e hlt sp X hc hX hZ
          simp only [hbb] at PQ
          have PQ := Lib.hid PQ
          have HAL := Lib.hid (addN_le nm v F e)
          clear hbb
          obtain ⟨y1, y2, y3, y4⟩ := WZ.out
          go_wp2
          go_region_held3 (fun X => X.cell? ⟨h, 8, none⟩ = some (.pointer (some ⟨sp, 0, none⟩)) ∧ X.cell? ⟨j, 2, none⟩ = some (.slice (some ⟨blk, off, none⟩) n cap) ∧ X.cell? ⟨blk, off + (d + 1), none⟩ = some (.string (nm e))) (first | (with_reducible exact S0) | (with_reducible exact S1.out) | (with_reducible exact S2.out))
            (first | (go_at_call 110; (with_reducible refine (J1.out).mono ?_); rintro ee w5 ⟨rfl, h1⟩; have D5 := Lib.hid (show Below wr.heap.size wr w5 from (Below.refl wr.heap.size wr).drew.trans h1); have B5 := Lib.hid (BW.out.trans (D5.out.mono (Below.size BW.out))); have H5 := Lib.hid (HQ.out.2.1.below D5.out); have S1 := Lib.hid (SY.out w5 B5.out (H5.out.blk.trans HQ.out.2.1.blk.symm)); have P5 := Lib.hid (PQ.out w5 (Nat.le_trans hcw.out (Below.size D5.out)) B5.out H5.out.sk); clear h1) | (go_at_call 115; (with_reducible refine (P5.out).mono ?_); rintro ee w6 ⟨rfl, h5, h6, h7⟩; have F6 := H5.out.set h6 h5; have B6 := Lib.hid (B5.out.trans (h7.mono (Nat.le_succ _))); have S2 := Lib.hid (SY.out w6 B6.out (F6.blk.trans HQ.out.2.1.blk.symm)); have H6 := Lib.hid F6; have E6 := Lib.hid (HQ.out.2.2.trans ((D5.out.mono hcw.out).trans h7)); clear h5 h6 h7 F6))
          clear q0 cj y1 y2 y3 y4
          have d9 : d + 1 < n := by have := HQ.out.1; have := HNP.out.1; omega
          have i8 : ((addN nm v F e : Nat) : Int) ≤ 30 := by have := HAL.out; have := HNP.out.2; omega
          cases bb
          · go_wp2
            exact ⟨⟨e + 1, d + 2, hlt, by rw [HA.out]; rfl, by go_num, Lib.hid ⟨by have := HQ.out.1; omega, H6.out, E6.out⟩⟩, by simp [intOf]; omega⟩
          · go_wp2
            exact ⟨⟨e + 1, d + 2, hlt, by rw [HA.out]; go_num, by go_num, Lib.hid ⟨by have := HQ.out.1; omega, H6.out, E6.out⟩⟩, by simp [intOf]; omega⟩
        · obtain rfl : e = i := by omega
          have q0 : ¬ (d : Int) + 1 < (n : Int) := by have := HQ.out.1; have := HNP.out.1; omega
          have r5 := Lib.hid ((HQ.out.2.2.block w.heap.size (Nat.lt_succ_self _)).trans rz.out)
          have TU := zturn_any bS bM j D k now (.slice (some ⟨blk, off, none⟩) n cap) w.heap.size (w.heap.size + 1) h sp e3 e4 e5 e6 (addZ nm v F e) HLG.out (fun _ => OK.out) (Nat.le_succ _) wr hcw.out (fun X hX => SPG.below KS okS HS.out (BW.out.trans (hX.mono (Nat.le_succ _)))) (fun X hX => HJ.out.below (BW.out.trans (hX.mono (Nat.le_succ _)))) HQ.out.2.1
          rw [XO.out] at TU
          have TU := Lib.hid TU
          obtain ⟨y1, _, _, _⟩ := WZ.out
          clear HQ i9
          go_wp2_with (first | (go_at_call 116; (with_reducible refine (TU.out).mono ?_); rintro ee w6 ⟨rfl, ⟨vl5, hJ5⟩, hK5, _⟩; have J5 := Lib.hid hJ5; have K5 := Lib.hid ((Kp.of BW.out).trans (hK5.mono (Nat.le_succ _) (fun _ h => h))); have r6 := Lib.hid ((hK5.block w.heap.size (Nat.lt_succ_self _) (by omega)).trans r5.out); clear hJ5 hK5) | (go_at_call 69; (with_reducible refine (IN.out _ _).mono ?_); rintro ee w7 ⟨rfl, h1⟩; have B7 := Lib.hid h1; have r7 := Lib.hid (blk_below r6.out h1); clear h1; obtain ⟨⟨c0, c1, c2, c3⟩, ⟨f0, f1, f2, f3⟩⟩ := cells4 r7.out))
          exact bodyPost_ret (v := .agg #[.int .i64 3, .int .i64 (addN nm v F e : Nat), .string ⟨#[]⟩, .slice none 0 0]) (by simp [results, Tryz.results52, go_sem, c0, c1, c2, c3]) rfl (endT KS hjw (JD.below KS J5.out B7.out) r7.out (K5.out.below_after B7.out K5.out.size) _ _ _ _)
end Go.Proofs.YticlacjpgjkhcaaGreatDoor

/- scores: ZREVRANGE from the first to the last. -/
namespace Go.Proofs.YticlacjpgjkhcaaGreatDoor
open Go.ChangeShapes Go.WideShapes Go.ChangeAt Go.RowKit

/-- A row, turned about up to a place from either end. -/
def rvF (f : Nat → ByteArray) (n a i : Nat) : ByteArray := if i < a ∨ n - a ≤ i then f (n - 1 - i) else f i
def rvL (f : Nat → ByteArray) (n a : Nat) : List ByteArray := (List.range n).map (rvF f n a)
theorem rvL_len (f : Nat → ByteArray) (n a : Nat) : (rvL f n a).length = n := by simp [rvL]
theorem rvL_at (f : Nat → ByteArray) (n a i : Nat) (h : i < n) : (rvL f n a)[i]? = some (rvF f n a i) := by simp [rvL, h]
theorem rvL_step (f : Nat → ByteArray) (n a : Nat) (h : a < n - 1 - a) : ((rvL f n a).set a (f (n - 1 - a))).set (n - 1 - a) (f a) = rvL f n (a + 1) := by
  refine List.ext_getElem? fun i => ?_
  by_cases hi : i < n
  · rw [rvL_at f n (a + 1) i hi, List.getElem?_set, List.length_set, rvL_len, List.getElem?_set, rvL_len, rvL_at f n a i hi]
    unfold rvF
    by_cases h1 : n - 1 - a = i
    · subst h1
      rw [if_pos rfl, if_pos hi, if_pos (.inr (by omega))]
      congr 2
      omega
    · rw [if_neg h1]
      by_cases h2 : a = i
      · subst h2
        rw [if_pos rfl, if_pos hi, if_pos (.inl (by omega))]
      · rw [if_neg h2]
        by_cases h3 : i < a ∨ n - a ≤ i
        · rw [if_pos h3, if_pos (by omega)]
        · rw [if_neg h3, if_neg (by omega)]
  · rw [List.getElem?_eq_none (by simp [rvL]; omega), List.getElem?_eq_none (by simp [rvL]; omega)]
theorem rvF_a (f : Nat → ByteArray) (n a : Nat) (h : a < n - 1 - a) : rvF f n a a = f a ∧ rvF f n a (n - 1 - a) = f (n - 1 - a) := by
  unfold rvF
  exact ⟨if_neg (by omega), if_neg (by omega)⟩
theorem rvL_all (l : List ByteArray) (n a : Nat) (hn : l.length = n) (h : n - 1 - a ≤ a) : rvL (fun i => (l[i]?).getD ⟨#[]⟩) n a = l.reverse := by
  refine List.ext_getElem? fun i => ?_
  by_cases hi : i < n
  · rw [rvL_at _ _ _ _ hi, List.getElem?_reverse (by omega), hn]
    have e : ∀ k, k < n → some ((l[k]?).getD ⟨#[]⟩) = l[k]? := fun k hk => by rw [List.getElem?_eq_getElem (by omega)]; rfl
    unfold rvF
    by_cases h1 : i < a ∨ n - a ≤ i
    · rw [if_pos h1]
      exact e _ (by omega)
    · rw [if_neg h1, show n - 1 - i = i by omega]
      exact e _ hi
  · rw [List.getElem?_eq_none (by simp [rvL]; omega), List.getElem?_eq_none (by simp; omega)]
theorem rvL_0 (l : List ByteArray) (n : Nat) (hn : l.length = n) : rvL (fun i => (l[i]?).getD ⟨#[]⟩) n 0 = l := by
  refine List.ext_getElem? fun i => ?_
  by_cases hi : i < n
  · rw [rvL_at _ _ _ _ hi]
    unfold rvF
    rw [if_neg (by omega)]
    have e := List.getElem?_eq_getElem (l := l) (i := i) (by omega)
    rw [e]
    simp [e]
  · rw [List.getElem?_eq_none (by simp [rvL]; omega), List.getElem?_eq_none (by omega)]
theorem set_cellsZ {w : World} {b i : Nat} {v : Value} {cs : Array Value} {t : TypeId} (h : w.heap[b]? = some (.cells cs t)) : (w.setCell ⟨b, i, none⟩ v).heap[b]? = some (.cells (cs.setIfInBounds i v) t) := set_cells h
theorem row_setZ {w : World} {c : Nat} {e : TypeId} {m g C n : Nat} {xs : List Value} (h : w.ownsRow c e m (.slice (some ⟨g, 0, none⟩) n C) n xs) (j : Nat) (v : Value) : (w.setCell ⟨g, j, none⟩ v).ownsRow c e m (.slice (some ⟨g, 0, none⟩) n C) n (xs.set j v) := by
  unfold World.ownsRow at h ⊢
  obtain ⟨h1, ⟨h2, _⟩ | ⟨g', cap, cur, h2, h3, h4, h5, h6, h7, h8⟩⟩ := h
  · cases h2
  · cases h2
    refine ⟨by rw [List.length_set]; exact h1, .inr ⟨g, C, cur.setIfInBounds j v, rfl, h3, set_cellsZ h4, h5, h6, by simpa using h7, ?_⟩⟩
    rw [Array.toList_setIfInBounds, List.take_set, h8]
/-- A text of a row is set. -/
theorem TO.setAt {w : World} {c g C n : Nat} {xs : List ByteArray} (h : TO w c (.slice (some ⟨g, 0, none⟩) n C) xs) (hn : xs.length = n) (i : Nat) (s : ByteArray) : TO (w.setCell ⟨g, i, none⟩ (.string s)) c (.slice (some ⟨g, 0, none⟩) n C) (xs.set i s) := by
  subst hn
  have := row_setZ h i (.string s)
  unfold TO
  rw [List.length_set, List.map_set]
  exact this
theorem TO.cell {w : World} {c g C n : Nat} {xs : List ByteArray} (h : TO w c (.slice (some ⟨g, 0, none⟩) n C) xs) (i : Nat) (s : ByteArray) (hi : xs[i]? = some s) : w.cell? ⟨g, i, none⟩ = some (.string s) := by
  have h2 : n = xs.length := by
    obtain ⟨A', C', e, _⟩ := row_form h
    cases e
    rfl
  subst h2
  exact row_cell h i _ (by rw [List.getElem?_map, hi]; rfl)
set_option maxRecDepth 100000 in
set_option maxHeartbeats 8000000 in
theorem zranksB (bS bM j : Nat) (D : List (ByteArray × List (ByteArray × Int))) (now : Int) (vA : Value) (NM k : ByteArray) (b1 b2 : ByteArray) (hb1 : b1.size ≤ 100000) (hp1 : parseI b1.data.toList = some 0) (hb2 : b2.size ≤ 100000) (hp2 : parseI b2.data.toList = some (-1)) (F : List (ByteArray × Int)) (hF : (findD k D).getD [] = F) (hne : F ≠ []) (w : World) (hDB : DB w) (h3w : 3 < w.heap.size) (hS : SPG KS okS w bS bM D) (hj : JB w j bS now vA (.slice none 0 0)) (hA : SSl w vA [NM, k, b1, b2]) : Calls Tryz.prog 61 #[.pointer (some ⟨j, 0, none⟩), .bool true] w fun e w' => ∃ A m C, e = .returned (.agg #[.int .i64 6, .int .i64 0, .string ⟨#[]⟩, .slice A m C]) ∧ RO ((F.map Prod.fst).reverse.map some) w.heap.size w' (.slice A m C) ∧ Below w.heap.size w w' := by
  have hjw := lt_blk hj
  obtain ⟨blk, off, cap, rfl, hAR⟩ := AR.of hj hA (by simp)
  have HJ := Lib.hid hj
  have A1 := Lib.hid (alloc_old (w := w) (o := .cells #[.int .i64 0, .int .i64 0, .string ⟨#[]⟩, .slice none 0 0] 29))
  have hr := Lib.hid (heap_alloc_new w (.cells #[.int .i64 0, .int .i64 0, .string ⟨#[]⟩, .slice none 0 0] 29))
  have hl2 : ([NM, k, b1, b2]).length = 4 := rfl
  rw [hl2] at HJ
  have hz : w.heap.size + 1 ≤ (w.alloc (.cells #[.int .i64 0, .int .i64 0, .string ⟨#[]⟩, .slice none 0 0] 29)).heap.size := by simp
  have HO := Lib.hid (fun X hX hc => zof_at bS bM j D now blk off cap ([NM, k, b1, b2]) 4 hl2 (by omega) k rfl (.slice none 0 0) F hF w hDB h3w hS HJ.out hAR X hX (w.heap.size + 1) hc)
  have HFF := Lib.hid (okF_of hS hF)
  have HJA := Lib.hid (fun X (hX : Below w.heap.size w X) => And.intro (HJ.out.below hX) (hA.below hX))
  have HSX := Lib.hid hS
  have HDX := Lib.hid hDB
  have CJ := Lib.hid (fun Y hY => (hAR.job Y hY).1)
  rw [hl2] at CJ
  have CA := Lib.hid (fun Y hY i s hs => hAR.arg Y hY i s hs)
  have hcap := hAR.len
  rw [hl2] at hcap
  have hcap2 := hAR.cap
  have JL := Lib.hid (fun X (hX : Below w.heap.size w X) => JIn 2 j bS now (.slice (some ⟨blk, off, none⟩) 4 cap) (.slice none 0 0) [NM, k, b1, b2] 2 rfl b1 0 hb1 hp1 rfl X (HJ.out.below hX) (hA.below hX))
  have JH := Lib.hid (fun X (hX : Below w.heap.size w X) => JIn 3 j bS now (.slice (some ⟨blk, off, none⟩) 4 cap) (.slice none 0 0) [NM, k, b1, b2] 3 rfl b2 (-1) hb2 hp2 rfl X (HJ.out.below hX) (hA.below hX))
  obtain ⟨h31, hOrd, hNd⟩ := HFF.out
  clear hcap hcap2 hl2 hjw
  have h1 : 0 < F.length := List.length_pos_iff.2 hne
  have LZ := fun c sp X (hX : SK X c sp F) => LenZ c sp F X hX
  have e1 : spA 0 F.length = 0 := by unfold spA; simp
  have e2 : spC (-1) F.length = (F.length : Int) - 1 := by unfold spC; simp; omega
  have SP := fun Y => Span_yes 0 (-1) F.length (by omega) (by omega) (by omega) (by rw [e1, e2]; omega) Y
  simp only [e1, e2, show (F.length : Int) - 1 + 1 = (F.length : Int) by omega] at SP
  have RG : ∀ (cz sp : Nat) (Y : World), SK Y cz sp F → Calls Tryz.prog 126 #[.pointer (some ⟨sp, 0, none⟩), .int .i64 0, .int .i64 ((F.length - 1 : Nat) : Int)] Y fun e w' => ∃ A C, e = .returned (.slice A F.length C) ∧ RS w' Y.heap.size (.slice A F.length C) ((F.drop 0).take F.length) ∧ Below Y.heap.size Y w' := fun cz sp Y hZ => Range_any cz sp F 0 F.length ((F.length - 1 : Nat) : Int) (by omega) (by omega) (.inl (by omega)) Y hZ (by omega)
  simp only [List.drop_zero, List.take_length] at RG
  obtain ⟨n, hnn⟩ : ∃ n : Nat, F.length = n := ⟨_, rfl⟩
  simp only [hnn] at RG SP LZ h1 h31
  obtain ⟨d, hd⟩ : ∃ d : Nat, n - 1 = d := ⟨_, rfl⟩
  rw [hd] at RG
  have y1 : wrap64 ((n : Int) - (n : Int)) = 0 := by unfold wrap64; omega
  have y2 : wrap64 ((n : Int) - 1) = (d : Int) := by unfold wrap64; omega
  have y3 : wrap64 (d : Int) = (d : Int) := by unfold wrap64; omega
  have SP := Lib.hid SP
  have RG := Lib.hid RG
  have LZ := Lib.hid LZ
  have HX := Lib.hid (And.intro hnn (And.intro h1 (And.intro h31 hd)))
  clear hS hj hA hAR hF hDB hb1 hp1 hb2 hp2 hne hnn h1 h31 hd hOrd hNd e1 e2
  go_enter Tryz.func61, Tryz.ntmps61
  go_wp2_with (first | (go_at_call 67; (with_reducible refine (HO.out _ A1.out hz).mono ?_); rintro e w1 ⟨h, sp, e3, e4, e5, e6, rfl, hH1, h1⟩; have H1 := Lib.hid hH1; have B1 := Lib.hid (A1.out.trans (h1.mono (Below.size A1.out))); have r1 := Lib.hid (blk_below hr.out h1); clear h1 hH1; refine Hid.out ?_))
  refine Lib.hid ?_
  have LT := Lib.hid (LZ.out _ sp w1 H1.out.sk)
  have DD := Lib.hid (Below.refl w1.heap.size w1)
  obtain ⟨⟨_, _, _, _, _, _, _, _, c8⟩, _⟩ := cells9 H1.out.blk
  go_wp2_with (first | (go_at_call 123; (with_reducible refine (LT.out).mono ?_); rintro e w9 ⟨rfl, hw9⟩; obtain rfl := hw9.symm) | (go_at_call 110; (first | ((with_reducible refine (JL.out _ (B1.out.trans (DD.out.mono (Below.size B1.out)))).mono ?_); rintro e wa ⟨rfl, h1⟩; have DD := Lib.hid (DD.out.trans (h1.mono (Below.size DD.out))); clear h1) | ((with_reducible refine (JH.out _ (B1.out.trans (DD.out.mono (Below.size B1.out)))).mono ?_); rintro e wa ⟨rfl, h1⟩; have DD := Lib.hid (DD.out.trans (h1.mono (Below.size DD.out))); clear h1))) | (go_at_call 125; (with_reducible refine (SP.out _).mono ?_); rintro e wa ⟨rfl, h1⟩; have DD := Lib.hid (DD.out.trans (h1.mono (Below.size DD.out))); clear h1; refine Hid.out ?_))
  refine Lib.hid ?_
  have RA := Lib.hid (RG.out _ sp wa (H1.out.below DD.out).sk)
  go_wp2_with (first | (go_at_call 126; (with_reducible refine (RA.out).mono ?_); rintro e wb ⟨A, C, rfl, hR, h1⟩; have DD := Lib.hid (DD.out.trans (h1.mono (Below.size DD.out))); have ZN := Lib.hid (zn_any A n C _ F HX.out.1 (by have := HX.out.2.2.1; omega) wb hR); clear h1 hR) | (go_at_call 65; (with_reducible refine (ZN.out).mono ?_); rintro e wc ⟨A3, C3, rfl, hT3, h1⟩; have T3 := Lib.hid hT3; have D3 := Lib.hid h1; clear h1 hT3; refine Hid.out ?_))
  refine Lib.hid ?_
  obtain ⟨g, rfl⟩ : ∃ g, A3 = some ⟨g, 0, none⟩ := by
    obtain ⟨A', C', e, h2, _⟩ := row_form T3.out
    cases e
    rcases h2 with h2 | h2
    · exfalso
      have := HX.out.1
      have := HX.out.2.1
      rw [List.length_map] at h2
      omega
    · exact h2
  have hg := Lib.hid (row_own T3.out g rfl).1
  have hgw := Lib.hid (Nat.le_trans (lt_blk r1.out) (Below.size DD.out))
  have BB := Lib.hid (B1.out.trans (DD.out.mono (Below.size B1.out)))
  have rb := Lib.hid (blk_below r1.out DD.out)
  have hnl : (F.map Prod.fst).length = n := by rw [List.length_map, HX.out.1]
  have HNL := Lib.hid hnl
  obtain ⟨L, hL⟩ : ∃ L, F.map Prod.fst = L := ⟨_, rfl⟩
  rw [hL] at T3 HNL
  have HLq := Lib.hid hL
  obtain ⟨f, hf⟩ : ∃ f : Nat → ByteArray, (fun i => (L[i]?).getD ⟨#[]⟩) = f := ⟨_, rfl⟩
  have T4 := Lib.hid (show TO wc wb.heap.size (.slice (some ⟨g, 0, none⟩) n C3) (rvL f n 0) from by rw [← hf, rvL_0 L n HNL.out]; exact T3.out)
  have HF := Lib.hid hf
  clear hnl hL hf T3 y1 c8
  go_wp2
  go_loopw [11, 12] (fun av bv wr => ∃ a b : Nat, a + b + 1 = n ∧ av = .int .i64 a ∧ bv = .int .i64 b ∧ Hid (TO wr wb.heap.size (.slice (some ⟨g, 0, none⟩) n C3) (rvL f n a) ∧ Below wb.heap.size wb wr)) (fun _ bv _ => (intOf bv).toNat)
  case atStart => exact ⟨0, d, by have := HX.out.2.2.2; have := HX.out.2.1; omega, rfl, by rw [y2], Lib.hid ⟨T4.out, D3.out⟩⟩
  case round =>
    obtain ⟨a, b, hab, rfl, rfl, HQ⟩ := hrel
    by_cases hlt : a < b
    · have q0 : (a : Int) < (b : Int) := by omega
      have q1 : (a : Int) < (n : Int) := by omega
      have q2 : (b : Int) < (n : Int) := by omega
      have n31 := HX.out.2.2.1
      have hst := rvL_step f n a (by omega)
      obtain ⟨k1, k2⟩ := rvF_a f n a (by omega)
      rw [show n - 1 - a = b by omega] at hst k2
      have cA := HQ.out.1.cell a (f a) (by rw [rvL_at f n a a (by omega), k1])
      have cB := HQ.out.1.cell b (f b) (by rw [rvL_at f n a b (by omega), k2])
      have T5 := Lib.hid (show ∀ X : World, X.heap = wr.heap → TO ((X.setCell ⟨g, a, none⟩ (.string (f b))).setCell ⟨g, b, none⟩ (.string (f a))) wb.heap.size (.slice (some ⟨g, 0, none⟩) n C3) (rvL f n (a + 1)) from fun X hX => by
        have h8 : TO X wb.heap.size (.slice (some ⟨g, 0, none⟩) n C3) (rvL f n a) := row_kept HQ.out.1 (fun _ _ => by rw [hX])
        have h9 := (h8.setAt (rvL_len f n a) a (f b)).setAt (by rw [List.length_set, rvL_len]) b (f a)
        rwa [hst] at h9)
      have fz : ∀ i, wr.frozen? ⟨g, i, none⟩ = false := by
        obtain ⟨cs, hc⟩ := row_typ HQ.out.1 g rfl
        exact fun i => frozen_of_row wr g i _ _ hc
      have f1 := fz a
      have f2 := fz b
      have y5 : wrap64 ((b : Int) - 1) = ((b - 1 : Nat) : Int) := by unfold wrap64; omega
      have HAB := Lib.hid hab
      clear hst k1 k2 fz hab
      go_wp2
      go_region
      go_wp2_with fail
      exact ⟨⟨a + 1, b - 1, by have := HAB.out; omega, by go_num, by first | rw [y5] | (congr 1; omega), Lib.hid ⟨T5.out _ rfl, ((HQ.out.2.drew.setCell hg.out _).setCell hg.out _)⟩⟩, by simp [intOf]; omega⟩
    · have q0 : ¬ (a : Int) < (b : Int) := by omega
      have e9 := rvL_all L n a HNL.out (by omega)
      rw [HF.out] at e9
      have T5 := HQ.out.1
      rw [e9] at T5
      have BK := Lib.hid (BULKS _ _ (show L.reverse.length ≤ 1000 by rw [List.length_reverse, HNL.out]; have := HX.out.2.2.1; omega) wr T5.ssl)
      have Bq := Lib.hid (BB.out.trans (HQ.out.2.mono (Below.size BB.out)))
      have rq := Lib.hid ((HQ.out.2.block _ hgw.out).trans rb.out)
      have hcq := Lib.hid (Nat.le_trans hgw.out (Below.size HQ.out.2))
      clear e9 T5 y2 y3 hab
      go_wp2_with (first | (go_at_call 64; (with_reducible refine (BK.out).mono ?_); rintro e wz ⟨A4, m4, c4, rfl, hR4, h1⟩; have R4 := Lib.hid hR4; have B5 := Lib.hid (Bq.out.trans (h1.mono (Below.size Bq.out))); have r5 := Lib.hid (blk_below rq.out h1); clear h1 hR4; refine Hid.out ?_))
      refine Lib.hid ?_
      obtain ⟨⟨c0, c1, c2, c3⟩, ⟨f0, f1, f2, f3⟩⟩ := cells4 r5.out
      go_wp2
      have BF : Below w.heap.size w ((((wz.setCell ⟨w.heap.size, 0, none⟩ (.int .i64 6)).setCell ⟨w.heap.size, 1, none⟩ (.int .i64 0)).setCell ⟨w.heap.size, 2, none⟩ (.string ⟨#[]⟩)).setCell ⟨w.heap.size, 3, none⟩ (.slice A4 m4 c4)) := ((((B5.out.setCell (Nat.le_refl _) _).setCell (Nat.le_refl _) _).setCell (Nat.le_refl _) _).setCell (Nat.le_refl _) _)
      have h3 := hcq.out
      have R4 := R4.out
      rw [← HLq.out] at R4
      refine bodyPost_ret (v := .agg #[.int .i64 6, .int .i64 0, .string ⟨#[]⟩, .slice A4 m4 c4]) (by simp [results, Tryz.results61, go_sem, c0, c1, c2, c3]) rfl ⟨A4, m4, c4, rfl, row_mono (row_kept R4 (fun g hg => far4 _ _ _ _ (fun e => ?_))) (by omega), BF⟩
      have h1 := (row_own R4 g hg).1
      omega
set_option maxRecDepth 100000 in
set_option maxHeartbeats 8000000 in
theorem cZREVRANGE (bS bM : Nat) (D : List (ByteArray × List (ByteArray × Int))) (now : Int) (NM k : ByteArray) (b1 b2 : ByteArray) (hb1 : b1.size ≤ 100000) (hp1 : parseI b1.data.toList = some 0) (hb2 : b2.size ≤ 100000) (hp2 : parseI b2.data.toList = some (-1)) (F : List (ByteArray × Int)) (hF : (findD k D).getD [] = F) (hne : F ≠ []) (w : World) (hDB : DB w) (h3w : 3 < w.heap.size) : CmdD KS okS 62 bS bM D now [NM, k, b1, b2] 6 0 ⟨#[]⟩ (RO ((F.map Prod.fst).reverse.map some)) [] w := by
  intro j vA hS hj hA
  show Calls Tryz.prog 62 #[.pointer (some ⟨j, 0, none⟩)] w _
  have HJ := Lib.hid hj
  have A1 := Lib.hid (alloc_old (w := w) (o := .cells #[.int .i64 0, .int .i64 0, .string ⟨#[]⟩, .slice none 0 0] 29))
  have hr := Lib.hid (heap_alloc_new w (.cells #[.int .i64 0, .int .i64 0, .string ⟨#[]⟩, .slice none 0 0] 29))
  have ZR := Lib.hid (fun X (hX : Below w.heap.size w X) => zranksB bS bM j D now vA NM k b1 b2 hb1 hp1 hb2 hp2 F hF hne X (hDB.at_ hX) (Nat.lt_of_lt_of_le h3w (Below.size hX)) (SPG.below KS okS hS hX) (hj.below hX) (hA.below hX))
  have hz : (w.alloc (.cells #[.int .i64 0, .int .i64 0, .string ⟨#[]⟩, .slice none 0 0] 29)).heap.size = w.heap.size + 1 := by simp
  have HZ := Lib.hid hz
  clear hS hj hA hF hDB hz
  go_enter Tryz.func62, Tryz.ntmps62
  go_wp2_with (first | (go_at_call 61; (with_reducible refine (ZR.out _ A1.out).mono ?_); rintro e w4 ⟨A4, m4, c4, rfl, hR, h1⟩; have R4 := Lib.hid hR; have B4 := Lib.hid (A1.out.trans (h1.mono (Below.size A1.out))); have r4 := Lib.hid (blk_below hr.out h1); clear hR h1; obtain ⟨⟨c0, c1, c2, c3⟩, ⟨f0, f1, f2, f3⟩⟩ := cells4 r4.out))
  have BF : Below w.heap.size w ((((w4.setCell ⟨w.heap.size, 0, none⟩ (.int .i64 6)).setCell ⟨w.heap.size, 1, none⟩ (.int .i64 0)).setCell ⟨w.heap.size, 2, none⟩ (.string ⟨#[]⟩)).setCell ⟨w.heap.size, 3, none⟩ (.slice A4 m4 c4)) := ((((B4.out.setCell (Nat.le_refl _) _).setCell (Nat.le_refl _) _).setCell (Nat.le_refl _) _).setCell (Nat.le_refl _) _)
  have h3 := HZ.out
  refine bodyPost_ret (v := .agg #[.int .i64 6, .int .i64 0, .string ⟨#[]⟩, .slice A4 m4 c4]) (by simp [results, Tryz.results62, go_sem, c0, c1, c2, c3]) rfl ⟨A4, m4, c4, rfl, row_mono (row_kept R4.out (fun g hg => far4 _ _ _ _ (fun e => ?_))) (by omega), ⟨_, JD.nil KS _ (HJ.out.below BF)⟩, .of BF⟩
  have h1 := (row_own R4.out g hg).1
  omega
end Go.Proofs.YticlacjpgjkhcaaGreatDoor

/- scores: ZSCORE. -/
namespace Go.Proofs.YticlacjpgjkhcaaGreatDoor
open Go.ChangeShapes Go.WideShapes Go.ChangeAt Go.RowKit

set_option maxRecDepth 100000 in
set_option maxHeartbeats 8000000 in
theorem cZSCORE (bS bM : Nat) (D : List (ByteArray × List (ByteArray × Int))) (now : Int) (NM k : ByteArray) (nm : ByteArray) (s : Int) (hs : I64 s) (W0 : World) (hT : Tab W0)  (F : List (ByteArray × Int)) (hF : (findD k D).getD [] = F) (hfn : findD nm F = some s) (w : World) (hDB : DB w) (h3w : 3 < w.heap.size) (hI : Below W0.heap.size W0 w) : CmdD KS okS 55 bS bM D now [NM, k, nm] 4 0 (numT s) R0 [] w := by
  intro j vA hS hj hA
  show Calls Tryz.prog 55 #[.pointer (some ⟨j, 0, none⟩)] w _
  have hjw := lt_blk hj
  obtain ⟨blk, off, cap, rfl, hAR⟩ := AR.of hj hA (by simp)
  have HJ := Lib.hid hj
  have A1 := Lib.hid (alloc_old (w := w) (o := .cells #[.int .i64 0, .int .i64 0, .string ⟨#[]⟩, .slice none 0 0] 29))
  have hr := Lib.hid (heap_alloc_new w (.cells #[.int .i64 0, .int .i64 0, .string ⟨#[]⟩, .slice none 0 0] 29))
  have hl2 : ([NM, k, nm]).length = 3 := rfl
  rw [hl2] at HJ ⊢
  have hz : w.heap.size + 1 ≤ (w.alloc (.cells #[.int .i64 0, .int .i64 0, .string ⟨#[]⟩, .slice none 0 0] 29)).heap.size := by simp
  have HO := Lib.hid (fun X hX hc => zof_at bS bM j D now blk off cap ([NM, k, nm]) 3 hl2 (by omega) k rfl (.slice none 0 0) F hF w hDB h3w hS HJ.out hAR X hX (w.heap.size + 1) hc)
  have HFF := Lib.hid (okF_of hS hF)
  have HJA := Lib.hid (fun X (hX : Below w.heap.size w X) => And.intro (HJ.out.below hX) (hA.below hX))
  have HSX := Lib.hid hS
  have HDX := Lib.hid hDB
  have CJ := Lib.hid (fun Y hY => (hAR.job Y hY).1)
  rw [hl2] at CJ
  have CA := Lib.hid (fun Y hY i s hs => hAR.arg Y hY i s hs)
  have hcap := hAR.len
  rw [hl2] at hcap
  have hcap2 := hAR.cap
  have RK := fun c sp X (hX : SK X c sp F) => ScoreZ c sp F nm X hX
  simp only [hfn] at RK
  have RK := Lib.hid RK
  have PR := Lib.hid (fun X (hX : Below w.heap.size w X) => Print79 hT s hs X (hI.trans (hX.mono (Below.size hI))))
  obtain ⟨NT, hNT⟩ : ∃ NT, numT s = NT := ⟨_, rfl⟩
  simp only [hNT] at PR ⊢
  have BK := Lib.hid (fun X => Bulk67 NT X)
  have SX := Lib.hid (show ∀ X, Below w.heap.size w X → (X.cell? ⟨j, 2, none⟩ = some (.slice (some ⟨blk, off, none⟩) 3 cap) ∧ X.cell? ⟨blk, off + 2, none⟩ = some (.string nm)) from fun Y hY => ⟨CJ.out Y hY, CA.out Y hY 2 nm rfl⟩)
  obtain ⟨cj0, ca0⟩ := SX.out _ A1.out.drew
  have HOd := Lib.hid (HO.out _ A1.out.drew hz)
  have rd := Lib.hid (show (w.alloc (.cells #[.int .i64 0, .int .i64 0, .string ⟨#[]⟩, .slice none 0 0] 29)).drew.heap[w.heap.size]? = some (.cells #[.int .i64 0, .int .i64 0, .string ⟨#[]⟩, .slice none 0 0] 29) from hr.out)
  clear hS hj hA hAR hF hfn hT hI hs hNT hDB
  go_enter Tryz.func55, Tryz.ntmps55
  go_wp2
  go_region_with (first | (go_at_call 67; (with_reducible refine (HOd.out).mono ?_); rintro e w1 ⟨h, sp, e3, e4, e5, e6, rfl, hH1, h1⟩; have B1 := Lib.hid (A1.out.drew.trans (h1.mono (Below.size A1.out.drew))); have r1 := Lib.hid (blk_below rd.out h1); obtain ⟨cj1, ca1⟩ := SX.out _ B1.out; have K1 := Lib.hid (RK.out _ sp w1 hH1.sk); obtain ⟨⟨_, _, _, _, _, _, _, _, c8⟩, _⟩ := cells9 hH1.blk; clear h1 hH1) | (go_at_call 117; (with_reducible refine (K1.out).mono ?_); rintro e w2 ⟨rfl, hw2⟩; obtain rfl := hw2.symm))
  all_goals (
    go_wp2_with (first | (go_at_call 120; (with_reducible refine (PR.out _ B1.out).mono ?_); rintro e w3 ⟨rfl, h1⟩; have B3 := Lib.hid (B1.out.trans (h1.mono (Below.size B1.out))); have r3 := Lib.hid (blk_below r1.out h1); clear h1) | (go_at_call 119; (with_reducible refine (BK.out _).mono ?_); rintro e w4 ⟨rfl, h1⟩; have B4 := Lib.hid (B3.out.trans (h1.mono (Below.size B3.out))); have r4 := Lib.hid (blk_below r3.out h1); clear h1; obtain ⟨⟨c0, c1, c2, c3⟩, ⟨f0, f1, f2, f3⟩⟩ := cells4 r4.out))
    exact bodyPost_ret (v := .agg #[.int .i64 4, .int .i64 0, .string NT, .slice none 0 0]) (by simp [results, Tryz.results55, go_sem, c0, c1, c2, c3]) rfl (endD KS HJ.out ((((B4.out.setCell (Nat.le_refl _) _).setCell (Nat.le_refl _) _).setCell (Nat.le_refl _) _).setCell (Nat.le_refl _) _)))
end Go.Proofs.YticlacjpgjkhcaaGreatDoor
