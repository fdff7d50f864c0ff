/- Texts joined: L20, L23 -/
import Derived.Test.YtjljljjmdlddkaaGreatDoorQb30

/- The law ListsTakes: its walk. -/
namespace Go.Proofs.YtjljljjmdlddkaaGreatDoor
open Go.ChangeShapes Go.WideShapes Go.ChangeAt Go.RowKit

/-- The space with so many texts. -/
def dK (xs : List ByteArray) : List (ByteArray × List ByteArray) := if xs = [] then [] else [(⟨#[107]⟩, xs)]
theorem dK_push (xs : List ByteArray) (s : ByteArray) : putD ⟨#[107]⟩ (pushT false ((findD ⟨#[107]⟩ (dK xs)).getD []) [s]) (dK xs) = dK (xs ++ [s]) := by
  unfold dK
  by_cases h : xs = []
  · subst h
    simp [findD, putD, pushT]
  · simp [h, findD, putD, pushT]
theorem dK_find (xs : List ByteArray) : (findD ⟨#[107]⟩ (dK xs)).getD [] = xs := by
  unfold dK
  by_cases h : xs = []
  · subst h
    simp [findD]
  · simp [h, findD]
theorem dK_set (xs zs : List ByteArray) (h : xs ≠ []) : setD ⟨#[107]⟩ zs (dK xs) = dK zs := by
  unfold dK setD
  by_cases hz : zs = []
  · subst hz
    simp [h, delD]
  · simp [h, hz, putD]
theorem LD.sp0 {w0 w : World} {bS bM : Nat} (h : LD w0 w bS bM (dK [])) : SP w bS bM [] := by
  obtain ⟨⟨l, h1, h2⟩, _⟩ := h.sp
  rw [show dK [] = [] from if_pos rfl] at h2
  cases l with
  | nil => exact h1
  | cons _ _ => exact h2.elim
theorem toList_nil {s : ByteArray} (h : s.toList = []) : s = ⟨#[]⟩ := by
  rw [ByteArray.toList_eq] at h
  exact Go.WideShapes.bytes_inj (by rw [h])
theorem dK_len (xs : List ByteArray) : (dK xs).length < 4096 := by unfold dK; split <;> simp
theorem rpush1 (w : World) (bS bM : Nat) (X : World) (xs : List ByteArray) (s : ByteArray) (n : Nat) (hn : n ≤ 15) (hx : xs.length ≤ n) (hL : LD w X bS bM (dK xs)) (hok : okL ⟨#[107]⟩ (xs ++ [s])) : Calls Tryz.prog 8 #[.pointer (some ⟨bS, 0, none⟩), .slice (some ⟨X.heap.size, 0, none⟩) 3 3] (X.alloc (.cells #[.string ⟨#[82, 80, 85, 83, 72]⟩, .string ⟨#[107]⟩, .string s] 9)) fun e w' => e = .returned (.agg #[.int .i64 3, .int .i64 ((xs.length + 1 : Nat) : Int), .string ⟨#[]⟩, .slice none 0 0]) ∧ LD w w' bS bM (dK (xs ++ [s])) ∧ True := by
  refine (lit0 X hL [⟨#[82, 80, 85, 83, 72]⟩, ⟨#[107]⟩, s] (by simp) (fun vA w' h hA => d_RPUSH w bS bM (dK xs) ⟨#[107]⟩ [s] (by rw [dK_find]; simp; omega) (by simp) (by rw [dK_find]; exact hok) (dK_len _) vA w' h hA) (dK_push xs s) (show _ = ((xs.length + 1 : Nat) : Int) by rw [dK_find]; rfl)).mono ?_
  rintro e w' ⟨h1, h2, _⟩
  exact ⟨h1, h2, trivial⟩
theorem left_size (g : Nat → Bool) (bs : List Bool) : ∀ i, (jn (leftT g (bs.map tx) i)).size ≤ i
  | 0 => Nat.le_refl _
  | i + 1 => by
    have h := left_size g bs i
    show (jn (if g i then _ else _)).size ≤ _
    split
    · omega
    · cases hb : bs[i]? with
      | none =>
        rw [List.getElem?_map, hb]
        simp
        omega
      | some b =>
        rw [tx_at bs i b hb, Option.toList_some, jn_snoc, ByteArray.size_append]
        have : (tx b).size = 1 := rfl
        omega
theorem jn_len1 (bs : List Bool) (zs : List ByteArray) (h : ∀ s ∈ zs, s ∈ bs.map tx) : (jn zs).size = zs.length := by
  have h1 := congrArg List.length (jn_data zs)
  have h2 : (jn zs).data.toList.length = (jn zs).size := by simp
  rw [← h2, h1]
  clear h1 h2
  induction zs with
  | nil => rfl
  | cons s r ih =>
    obtain ⟨b, _, rfl⟩ := List.mem_map.1 (h s (by simp))
    rw [List.flatMap_cons, List.length_append, ih (fun s hs => h s (by simp [hs]))]
    simp [tx]
    omega
theorem conv1 (X : World) (B i cap : Nat) (c : UInt8) (h : X.cell? ⟨B, i, none⟩ = some (.int .u8 (c.toNat : Int))) : (convert 30 9 (.slice (some ⟨B, i, none⟩) 1 cap)).run Tryz.prog X = .ok (.string ⟨#[c]⟩) X := by
  refine run_convert_bytes_back (P := Tryz.prog) X 30 9 5 ⟨B, i, none⟩ cap [c] Tryz.underlying30 Tryz.underlying5 Tryz.underlying9 (fun j hj => ?_)
  have hj0 : j = 0 := by simpa using hj
  subst hj0
  exact h
theorem lr0 (w : World) (bS bM : Nat) (zs : List ByteArray) (hz : zs.length ≤ 15) (X : World) (hL : LD w X bS bM (dK zs)) (q : Nat) (hq : X.heap.size = q) : Calls Tryz.prog 8 #[.pointer (some ⟨bS, 0, none⟩), .slice (some ⟨q, 0, none⟩) 4 4] (X.alloc (.cells #[.string ⟨#[76, 82, 65, 78, 71, 69]⟩, .string ⟨#[107]⟩, .string ⟨#[48]⟩, .string ⟨#[45, 49]⟩] 9)) fun e w' => ∃ A m c, e = .returned (.agg #[.int .i64 6, .int .i64 0, .string ⟨#[]⟩, .slice A m c]) ∧ RO (zs.map some) X.heap.size w' (.slice A m c) ∧ LD w w' bS bM (dK zs) ∧ Kp X.heap.size (fun i => i ≠ bS ∧ i ≠ bM) X w' := by
  subst hq
  exact litR (RO.keep _) X hL [⟨#[76, 82, 65, 78, 71, 69]⟩, ⟨#[107]⟩, ⟨#[48]⟩, ⟨#[45, 49]⟩] (by simp) (fun vA X' h hA => d_LRANGE w bS bM (dK zs) ⟨#[107]⟩ ⟨#[48]⟩ 0 (by decide) (by kernel_rfl) (by omega) ⟨#[45, 49]⟩ (-1) (by decide) (by kernel_rfl) (by omega) zs (dK_find zs) (by omega) vA X' h hA) rfl rfl (by rw [spanT_all])
set_option maxRecDepth 100000 in
set_option maxHeartbeats 8000000 in
theorem takes_walk (bs : List Bool) (v0 : Value) (a1 : Int) (w : World) (hT : Tab w) (h0 : BoSl w v0 bs) (h1 : 1 ≤ bs.length) (h15 : bs.length ≤ 15) (hi1 : I64 a1) : Calls Tryz.prog 5 #[v0, .int .i64 a1] w fun e w' => e = .returned (.bool true) ∧ Below w.heap.size w w' := by
  have NW := Lib.hid (fun X => New9 X)
  obtain ⟨aA, cap, rfl, p1, p2, p3⟩ := h0
  obtain ⟨blk, off, rfl, hblt, hc⟩ := p3 (by intro e; rw [e] at h1; simp at h1)
  have CA := Lib.hid (show ∀ Y, Below w.heap.size w Y → ∀ (i : Nat) (x : Bool), bs[i]? = some x → Y.cell? ⟨blk, off + i, none⟩ = some (.bool x) from fun Y hY i x hx => (hY.cell (p := ⟨blk, off + i, none⟩) hblt).trans (hc i x hx))
  obtain ⟨n, hn⟩ : ∃ n : Nat, bs.length = n := ⟨_, rfl⟩
  rw [hn] at h1 h15
  simp only [hn]
  have HN := Lib.hid hn
  have q1 : ¬ (n : Int) = 0 := by omega
  have q2 : ¬ (15 : Int) < (n : Int) := by omega
  have q1b : ((n : Int) == 0) = false := by rw [beq_eq_false_iff_ne]; exact q1
  have q2b : decide ((15 : Int) < (n : Int)) = false := decide_eq_false q2
  clear p1 p2 p3 hc hn hblt
  go_enter Tryz.func5, Tryz.ntmps5
  go_wp2_with (first | (go_at_call 7; (with_reducible refine (NW.out _).mono ?_); rintro e v0 ⟨bS, bM, rfl, hS0, hbS, hbM, hB0⟩; have L0 := Lib.hid (LD.mk0 hS0 hB0 hbS hbM); clear hS0 hbS hbM hB0; refine Hid.out ?_))
  refine Lib.hid ?_
  go_wp2
  obtain ⟨ws, hws⟩ : ∃ ws, bs.map tx = ws := ⟨_, rfl⟩
  have HW := Lib.hid hws
  have hwl : ws.length = n := by rw [← hws, List.length_map]; exact HN.out
  have HWL := Lib.hid hwl
  have hokl : ∀ zs : List ByteArray, zs.length ≤ n → zs ≠ [] → (∀ s ∈ zs, s ∈ ws) → okL ⟨#[107]⟩ zs := fun zs hz hne h => ⟨by decide, by decide, hne, by omega, fun s hs => by
    have := h s hs
    rw [← HW.out] at this
    obtain ⟨b, _, rfl⟩ := List.mem_map.1 this
    exact (by decide : 1 ≤ 4096)⟩
  have HOK := Lib.hid hokl
  clear hws hwl hokl
  go_loopw [6, 7] (fun sv iv wr => ∃ i : Nat, i ≤ n ∧ sv = .string (jn (ws.take i)) ∧ iv = .int .i64 i ∧ Hid (LD w wr bS bM (dK (ws.take i)))) (fun _ iv _ => n - (intOf iv).toNat)
  case atStart => exact ⟨0, Nat.zero_le _, rfl, rfl, L0⟩
  case round =>
    obtain ⟨i, hi, rfl, rfl, HL⟩ := hrel
    by_cases hlt : i < n
    · obtain ⟨b, hb⟩ : ∃ b, bs[i]? = some b := ⟨_, List.getElem?_eq_getElem (by rw [HN.out]; exact hlt)⟩
      have hs : ws[i]? = some (tx b) := by rw [← HW.out]; exact tx_at bs i b hb
      have q3 : (i : Int) < (n : Int) := by omega
      have ca := CA.out _ HL.out.below i b hb
      have htk := take_at ws i (tx b) hs
      have HTK := Lib.hid htk
      obtain ⟨S0, hS0⟩ : ∃ S0, jn (ws.take i) = S0 := ⟨_, rfl⟩
      have hz0 : S0.size ≤ 15 := by
        rw [← hS0, ← HW.out, ← List.map_take, jn_size, List.length_take]
        omega
      have HS0 := Lib.hid hS0
      rw [hS0]
      have f1 : ¬ (S0.size + 1 > 9223372036854775807) := by omega
      clear htk hs hb hS0 hz0
      cases b with
      | false =>
        have HT2 := Lib.hid (show ws.take (i + 1) = ws.take i ++ [⟨#[97]⟩] from HTK.out)
        have D1 := Lib.hid (rpush1 w bS bM wr (ws.take i) ⟨#[97]⟩ n h15 (by simp; omega) HL.out (by
          rw [← HT2.out]
          exact HOK.out _ (by simp; omega) (by rw [HT2.out]; simp) (fun s hs => List.mem_of_mem_take hs)))
        go_wp2_with (first | (go_at_call 8; (with_reducible refine (D1.out).mono ?_); rintro e w4 ⟨rfl, h4, _⟩; have L4 := Lib.hid h4; clear h4))
        exact ⟨⟨i + 1, by omega, by rw [HT2.out, jn_snoc, HS0.out], by go_num, by rw [HT2.out]; exact L4⟩, by simp [intOf]; omega⟩
      | true =>
        have HT2 := Lib.hid (show ws.take (i + 1) = ws.take i ++ [⟨#[98]⟩] from HTK.out)
        have D1 := Lib.hid (rpush1 w bS bM wr (ws.take i) ⟨#[98]⟩ n h15 (by simp; omega) HL.out (by
          rw [← HT2.out]
          exact HOK.out _ (by simp; omega) (by rw [HT2.out]; simp) (fun s hs => List.mem_of_mem_take hs)))
        go_wp2_with (first | (go_at_call 8; (with_reducible refine (D1.out).mono ?_); rintro e w4 ⟨rfl, h4, _⟩; have L4 := Lib.hid h4; clear h4))
        exact ⟨⟨i + 1, by omega, by rw [HT2.out, jn_snoc, HS0.out], by go_num, by rw [HT2.out]; exact L4⟩, by simp [intOf]; omega⟩
    · obtain rfl : n = i := by omega
      have q3 : ¬ (n : Int) < (n : Int) := by omega
      obtain ⟨w2, rfl⟩ : ∃ w2, w2 = wr := ⟨_, rfl⟩
      have L2 := Lib.hid (show LD w w2 bS bM (dK ws) by
        have := HL.out
        rw [List.take_of_length_le (by rw [HWL.out]; exact Nat.le_refl _)] at this
        exact this)
      rw [List.take_of_length_le (by rw [HWL.out]; exact Nat.le_refl _)]
      obtain ⟨S, hS⟩ : ∃ S, jn ws = S := ⟨_, rfl⟩
      rw [hS]
      have hsz : S.size = n := by rw [← hS, ← HW.out, jn_size]; exact HN.out
      have HS := Lib.hid hS
      have HSZ := Lib.hid hsz
      clear HL hi hlt hS hsz q3
      have hcv := conv_sb
      have O0 := Lib.hid (OB.new w2 S)
      have BB := Lib.hid (Lib.bytesWorld_below w2 5 S)
      have hc1 := grownCap_ge w2 S.size 0 5
      have hc2 := grownCap_le_maxLen w2 S.size 0 5 (by unfold maxLen; have := HSZ.out; omega)
      unfold maxLen at hc2
      have hx := tmod20 a1
      go_wp2_with fail
      generalize grownCap w2 S.size 0 5 = C at hc1 hc2 ⊢
      generalize Lib.bytesWorld w2 5 S = w3 at O0 BB ⊢
      have L3 := Lib.hid (L2.out.old BB.out)
      generalize a1.tmod 20 = x at hx ⊢
      have HN2 := Lib.hid (show bs.length = S.size by rw [HSZ.out]; exact HN.out)
      have hn15 : S.size ≤ 15 := by rw [HSZ.out]; exact h15
      go_loopw [11, 12] (fun gv iv wr => ∃ i : Nat, i ≤ S.size ∧ gv = .int .i64 (remF x ⟨#[98]⟩ (bs.map tx) i).1 ∧ iv = .int .i64 i ∧ Hid (OB wr w2.heap.size S.size (fun q => if (remF x ⟨#[98]⟩ (bs.map tx) i).2 q then 0 else byteAt S q) ∧ Below w2.heap.size w2 wr)) (fun _ iv _ => S.size - (intOf iv).toNat)
      case atStart => exact ⟨0, Nat.zero_le _, rfl, rfl, Lib.hid ⟨O0.out, BB.out⟩⟩
      case round =>
        obtain ⟨i, hi, rfl, rfl, HO⟩ := hrel
        by_cases hlt : i < S.size
        · have q4 : (i : Int) < (S.size : Int) := by omega
          have hFb := remF_bound x ⟨#[98]⟩ (bs.map tx) i
          obtain ⟨F, hF⟩ : ∃ F, (remF x ⟨#[98]⟩ (bs.map tx) i).1 = F := ⟨_, rfl⟩
          rw [hF] at hFb ⊢
          have HF := Lib.hid hF
          obtain ⟨hF0, hF1⟩ := hFb
          have w2f : wrap64 (F + 1) = F + 1 := by unfold wrap64; omega
          clear hF
          -- ROUNDS
          by_cases hx0 : x < 0
          · obtain ⟨kk, hkk⟩ : ∃ kk : Nat, kk = S.size - 1 - i := ⟨_, rfl⟩
            have hkl : kk < S.size := by omega
            have HK := Lib.hid (show remK x S.size i = kk by unfold remK; rw [if_pos hx0, hkk])
            obtain ⟨b, hb⟩ : ∃ b, bs[kk]? = some b := ⟨_, List.getElem?_eq_getElem (by rw [HN2.out]; exact hkl)⟩
            have c0 := HO.out.1.2 kk hkl
            have hnew := remF_new x ⟨#[98]⟩ (bs.map tx) S.size i kk (by rw [List.length_map]; exact HN2.out) hlt HK.out
            simp only [hnew, Bool.false_eq_true, if_false] at c0
            have hbt : byteAt S kk = ab b := by rw [← HS.out, ← HW.out]; exact jn_at bs kk b hb
            rw [hbt] at c0
            obtain ⟨c1, c2⟩ := c0
            clear hnew hbt
            have w4 : ((S.size : Int) - 1 - (i : Int)).toNat = kk := by omega
            have w1 : wrap64 ((S.size : Int) - 1) = (S.size : Int) - 1 := by unfold wrap64; omega
            have w5 : wrap64 ((S.size : Int) - 1 - (i : Int)) = (S.size : Int) - 1 - (i : Int) := by unfold wrap64; omega
            have w6 : 0 ≤ (S.size : Int) - 1 - (i : Int) := by omega
            have w7 : (S.size : Int) - 1 - (i : Int) < (S.size : Int) := by omega
            have w8 : (i : Int) ≤ (S.size : Int) - 1 := by omega
            have w9 : wrap64 (-x) = -x := by unfold wrap64; omega
            have hxz : x ≠ 0 := by omega
            have hxb : (x == 0) = false := by rw [beq_eq_false_iff_ne]; exact hxz
            clear hkk
            cases b with
            | false =>
              clear hF0
              have RF := Lib.hid (scan_miss x bs S.size i kk HN2.out HK.out _ hb F HF.out (by exact .inl rfl))
              go_wp2
              exact ⟨⟨i + 1, by omega, by rw [RF.out, HF.out], rfl, Lib.hid ⟨by rw [RF.out]; exact HO.out.1, HO.out.2⟩⟩, by simp [intOf]; omega⟩
            | true =>
              by_cases hm : F < max x (-x)
              · have hmd : decide (F < max x (-x)) = true := decide_eq_true hm
                have RF := Lib.hid (scan_hit x bs S.size i kk HN2.out HK.out hb F HF.out (by exact .inr hm) hF0)
                go_wp2
                refine ⟨⟨i + 1, by omega, by rw [RF.out] <;> go_num, rfl, Lib.hid ⟨?_, ?_⟩⟩, by simp [intOf]; omega⟩
                · rw [RF.out]
                  refine (HO.out.1.store kk hkl 0).congr fun q _ => ?_
                  by_cases hq : q = kk
                  · simp [hq]
                  · simp [hq]
                · exact HO.out.2.setCell (Nat.le_refl _) _
              · have hmd : decide (F < max x (-x)) = false := decide_eq_false hm
                have RF := Lib.hid (scan_miss x bs S.size i kk HN2.out HK.out _ hb F HF.out (by exact .inr ⟨hxz, hm⟩))
                go_wp2
                exact ⟨⟨i + 1, by omega, by rw [RF.out, HF.out], rfl, Lib.hid ⟨by rw [RF.out]; exact HO.out.1, HO.out.2⟩⟩, by simp [intOf]; omega⟩
          · have HK := Lib.hid (show remK x S.size i = i by unfold remK; rw [if_neg hx0])
            have hkl : i < S.size := hlt
            obtain ⟨b, hb⟩ : ∃ b, bs[i]? = some b := ⟨_, List.getElem?_eq_getElem (by rw [HN2.out]; exact hkl)⟩
            have c0 := HO.out.1.2 i hkl
            have hnew := remF_new x ⟨#[98]⟩ (bs.map tx) S.size i i (by rw [List.length_map]; exact HN2.out) hlt HK.out
            simp only [hnew, Bool.false_eq_true, if_false] at c0
            have hbt : byteAt S i = ab b := by rw [← HS.out, ← HW.out]; exact jn_at bs i b hb
            rw [hbt] at c0
            obtain ⟨c1, c2⟩ := c0
            clear hnew hbt
            have w9 : wrap64 (-x) = -x := by unfold wrap64; omega
            by_cases hxz : x = 0
            · subst hxz
              cases b with
              | false =>
                clear hF0
                have RF := Lib.hid (scan_miss 0 bs S.size i i HN2.out HK.out _ hb F HF.out (by exact .inl rfl))
                go_wp2
                exact ⟨⟨i + 1, by omega, by rw [RF.out, HF.out], rfl, Lib.hid ⟨by rw [RF.out]; exact HO.out.1, HO.out.2⟩⟩, by simp [intOf]; omega⟩
              | true =>
                have RF := Lib.hid (scan_hit 0 bs S.size i i HN2.out HK.out hb F HF.out (by exact .inl rfl) hF0)
                go_wp2
                refine ⟨⟨i + 1, by omega, by rw [RF.out] <;> go_num, rfl, Lib.hid ⟨?_, ?_⟩⟩, by simp [intOf]; omega⟩
                · rw [RF.out]
                  refine (HO.out.1.store i hkl 0).congr fun q _ => ?_
                  by_cases hq : q = i
                  · simp [hq]
                  · simp [hq]
                · exact HO.out.2.setCell (Nat.le_refl _) _
            · have hxb : (x == 0) = false := by rw [beq_eq_false_iff_ne]; exact hxz
              cases b with
              | false =>
                clear hF0
                have RF := Lib.hid (scan_miss x bs S.size i i HN2.out HK.out _ hb F HF.out (by exact .inl rfl))
                go_wp2
                exact ⟨⟨i + 1, by omega, by rw [RF.out, HF.out], rfl, Lib.hid ⟨by rw [RF.out]; exact HO.out.1, HO.out.2⟩⟩, by simp [intOf]; omega⟩
              | true =>
                by_cases hm : F < max x (-x)
                · have hmd : decide (F < max x (-x)) = true := decide_eq_true hm
                  have RF := Lib.hid (scan_hit x bs S.size i i HN2.out HK.out hb F HF.out (by exact .inr hm) hF0)
                  go_wp2
                  refine ⟨⟨i + 1, by omega, by rw [RF.out] <;> go_num, rfl, Lib.hid ⟨?_, ?_⟩⟩, by simp [intOf]; omega⟩
                  · rw [RF.out]
                    refine (HO.out.1.store i hkl 0).congr fun q _ => ?_
                    by_cases hq : q = i
                    · simp [hq]
                    · simp [hq]
                  · exact HO.out.2.setCell (Nat.le_refl _) _
                · have hmd : decide (F < max x (-x)) = false := decide_eq_false hm
                  have RF := Lib.hid (scan_miss x bs S.size i i HN2.out HK.out _ hb F HF.out (by exact .inr ⟨hxz, hm⟩))
                  go_wp2
                  exact ⟨⟨i + 1, by omega, by rw [RF.out, HF.out], rfl, Lib.hid ⟨by rw [RF.out]; exact HO.out.1, HO.out.2⟩⟩, by simp [intOf]; omega⟩
        -- END
        · obtain rfl : S.size = i := by omega
          have q4 : ¬ (S.size : Int) < (S.size : Int) := by omega
          obtain ⟨w4, rfl⟩ : ∃ w4, w4 = wr := ⟨_, rfl⟩
          obtain ⟨G, hG⟩ : ∃ G, (remF x ⟨#[98]⟩ (bs.map tx) S.size).2 = G := ⟨_, rfl⟩
          obtain ⟨F, hF⟩ : ∃ F, (remF x ⟨#[98]⟩ (bs.map tx) S.size).1 = F := ⟨_, rfl⟩
          have hFb := remF_bound x ⟨#[98]⟩ (bs.map tx) S.size
          obtain ⟨hO1, hO2⟩ := HO.out
          simp only [hG] at hO1
          rw [hF] at hFb ⊢
          have HF := Lib.hid hF
          have HG := Lib.hid hG
          have HFB := Lib.hid hFb
          have L4 := Lib.hid (L2.out.old hO2)
          have O4 := Lib.hid hO1
          clear HO hO1 hO2 hF hG hFb hlt hi O0
          have HC := Lib.hid (show S.size ≤ C ∧ C ≤ 9223372036854775807 from ⟨hc1, by omega⟩)
          clear hc1 hc2
          go_wp2
          go_loopw [14, 15] (fun lv iv wr => ∃ i : Nat, i ≤ S.size ∧ lv = .string (jn (leftT G (bs.map tx) i)) ∧ iv = .int .i64 i ∧ Hid (OB wr w2.heap.size S.size (fun q => if G q then 0 else byteAt S q) ∧ Below w4.heap.size w4 wr)) (fun _ iv _ => S.size - (intOf iv).toNat)
          case atStart => exact ⟨0, Nat.zero_le _, rfl, rfl, Lib.hid ⟨O4.out, Below.refl _ _⟩⟩
          case round =>
            obtain ⟨i, hi, rfl, rfl, HO⟩ := hrel
            by_cases hlt : i < S.size
            · have q5 : (i : Int) < (S.size : Int) := by omega
              obtain ⟨b, hb⟩ : ∃ b, bs[i]? = some b := ⟨_, List.getElem?_eq_getElem (by rw [HN2.out]; exact hlt)⟩
              have c0 := HO.out.1.2 i hlt
              have hst := leftT_step G bs i b hb
              have hbt : byteAt S i = ab b := by rw [← HS.out, ← HW.out]; exact jn_at bs i b hb
              simp only [hbt] at c0
              obtain ⟨T, hTT⟩ : ∃ T, jn (leftT G (bs.map tx) i) = T := ⟨_, rfl⟩
              have hTz : T.size ≤ i := by
                rw [← hTT]
                exact left_size G bs i
              have f1 : ¬ (T.size + 1 > 9223372036854775807) := by omega
              have sc1 : (i : Int) + 1 ≤ (C : Int) := by have := HC.out.1; omega
              have sc2 : ¬ C = i := by have := HC.out.1; omega
              have sc3 : i + 1 - i = 1 := by omega
              have sc4 : wrap64 ((i : Int) + 1) = (i : Int) + 1 := by unfold wrap64; omega
              have sc5 : ((i : Int) + 1).toNat = i + 1 := by omega
              have sc6 : (0 : Int) ≤ (i : Int) + 1 := by omega
              have sc7 : i ≤ i + 1 := by omega
              rw [hTT] at hst ⊢
              have HST := Lib.hid hst
              clear hst hbt hb hTT hTz
              cases hg : G i with
              | true =>
                rw [hg] at c0
                obtain ⟨c1, c2⟩ := c0
                have HS2 := Lib.hid (show jn (leftT G (bs.map tx) (i + 1)) = T by rw [HST.out, hg]; rfl)
                clear hg HST
                go_wp2
                exact ⟨⟨i + 1, by omega, by rw [HS2.out], by go_num, HO⟩, by simp [intOf]; omega⟩
              | false =>
                rw [hg] at c0
                cases b with
                | false =>
                  have c1 : wr.cell? ⟨w2.heap.size, i, none⟩ = some (.int .u8 97) := c0.1
                  have HS2 := Lib.hid (show jn (leftT G (bs.map tx) (i + 1)) = T ++ ⟨#[97]⟩ by rw [HST.out, hg]; rfl)
                  have hcv2 := conv1 wr w2.heap.size i (C - i) 97 c1
                  clear hg HST c0
                  go_wp2
                  exact ⟨⟨i + 1, by omega, by rw [HS2.out], by go_num, HO⟩, by simp [intOf]; omega⟩
                | true =>
                  have c1 : wr.cell? ⟨w2.heap.size, i, none⟩ = some (.int .u8 98) := c0.1
                  have HS2 := Lib.hid (show jn (leftT G (bs.map tx) (i + 1)) = T ++ ⟨#[98]⟩ by rw [HST.out, hg]; rfl)
                  have hcv2 := conv1 wr w2.heap.size i (C - i) 98 c1
                  clear hg HST c0
                  go_wp2
                  exact ⟨⟨i + 1, by omega, by rw [HS2.out], by go_num, HO⟩, by simp [intOf]; omega⟩
            · obtain rfl : S.size = i := by omega
              have q5 : ¬ (S.size : Int) < (S.size : Int) := by omega
              obtain ⟨w5, rfl⟩ : ∃ w5, w5 = wr := ⟨_, rfl⟩
              obtain ⟨zs, hzs⟩ : ∃ zs, remT x ⟨#[98]⟩ ws = zs := ⟨_, rfl⟩
              have hz1 : leftT G (bs.map tx) S.size = zs := by
                rw [← hzs, ← HG.out, ← HN2.out]
                unfold remT
                rw [← HW.out, List.length_map]
              rw [hz1]
              obtain ⟨T, hTT⟩ : ∃ T, jn zs = T := ⟨_, rfl⟩
              have hzl : zs.length ≤ 15 := by
                have := leftT_len G (bs.map tx) S.size
                rw [hz1] at this
                omega
              have hzm : ∀ s ∈ zs, s ∈ bs.map tx := fun s hs => leftT_mem G (bs.map tx) S.size s (by rw [hz1]; exact hs)
              rw [hTT]
              have HZS := Lib.hid hzs
              have HTT := Lib.hid hTT
              have HZM := Lib.hid hzm
              have HZL := Lib.hid hzl
              have hwne : ws ≠ [] := by intro e; have := HWL.out; rw [e] at this; simp at this; omega
              have L5 := Lib.hid (L4.out.old HO.out.2)
              clear HO hlt hi hzs hTT hz1 hzm hzl
              have N1 := Lib.hid (Number13 hT x ⟨by omega, by omega⟩ w5 L5.out.below)
              go_wp2_with (first | (go_at_call 9; (with_reducible refine (N1.out).mono ?_); rintro e v6 ⟨rfl, h6⟩; have L6 := Lib.hid (L5.out.old h6); clear h6 N1; refine Hid.out ?_))
              refine Lib.hid ?_
              have D6 := Lib.hid (show Calls Tryz.prog 8 #[.pointer (some ⟨bS, 0, none⟩), .slice (some ⟨v6.heap.size, 0, none⟩) 4 4] (v6.alloc (.cells #[.string ⟨#[76, 82, 69, 77]⟩, .string ⟨#[107]⟩, .string (numT x), .string ⟨#[98]⟩] 9)) (fun e w' => e = .returned (.agg #[.int .i64 3, .int .i64 F, .string ⟨#[]⟩, .slice none 0 0]) ∧ LD w w' bS bM (dK zs) ∧ Kp v6.heap.size (fun i => i ≠ bS ∧ i ≠ bM) v6 w') from lit0 v6 L6.out [⟨#[76, 82, 69, 77]⟩, ⟨#[107]⟩, numT x, ⟨#[98]⟩] (by simp) (fun vA X h hA => d_LREM w bS bM (dK ws) ⟨#[107]⟩ (numT x) x (Nat.le_trans (numT_size x ⟨by omega, by omega⟩) (by decide)) (parse_numT x ⟨by omega, by omega⟩) (by omega) ⟨#[98]⟩ ws (by unfold dK; rw [if_neg hwne]; rfl) (dK_len _) vA X h hA) (by rw [HZS.out, dK_set ws zs hwne]) (by rw [HWL.out, ← HSZ.out, ← HW.out]; exact HF.out))
              go_wp2_with (first | (go_at_call 8; (with_reducible refine (D6.out).mono ?_); rintro e v7 ⟨rfl, hL7, _⟩; have L7 := Lib.hid hL7; clear hL7; refine Hid.out ?_))
              refine Lib.hid ?_
              have M7 := Lib.hid (L7.out.old (alloc_old (o := .cells #[.int .i64 3, .int .i64 F, .string ⟨#[]⟩, .slice none 0 0] 28)))
              have g7 := Lib.hid (heap_alloc_new v7 (.cells #[.int .i64 3, .int .i64 F, .string ⟨#[]⟩, .slice none 0 0] 28))
              have D8 := Lib.hid (lr0 w bS bM zs HZL.out (v7.alloc (.cells #[.int .i64 3, .int .i64 F, .string ⟨#[]⟩, .slice none 0 0] 28)) M7.out (v7.heap.size + 1) (by simp))
              go_wp2_with (first | (go_at_call 8; (with_reducible refine (D8.out).mono ?_); rintro e v8 ⟨A, m, cc, rfl, hR8, hL8, hK8⟩; refine Hid.out ?_))
              refine Lib.hid ?_
              have fa8 := Lib.hid (keepL hK8 M7.out g7.out (by decide))
              have L9 := Lib.hid (hL8.old (alloc_old (o := .cells #[.int .i64 6, .int .i64 0, .string ⟨#[]⟩, .slice A m cc] 28)))
              have g9 := Lib.hid (heap_alloc_new v8 (.cells #[.int .i64 6, .int .i64 0, .string ⟨#[]⟩, .slice A m cc] 28))
              have ga9 := Lib.hid (blk_below fa8.out (alloc_old (o := .cells #[.int .i64 6, .int .i64 0, .string ⟨#[]⟩, .slice A m cc] 28)))
              have R9 := Lib.hid (RO.below hR8 (alloc_old (o := .cells #[.int .i64 6, .int .i64 0, .string ⟨#[]⟩, .slice A m cc] 28)))
              clear hL8 hR8 hK8
              have hzl : m = zs.length := by
                have h := R9.out
                unfold RO World.ownsRow at h
                obtain ⟨_, ⟨h1, h2⟩ | ⟨g', cap', cur, h1, _⟩⟩ := h
                · cases h1
                  rw [List.length_map] at h2
                  exact h2.symm
                · cases h1
                  simp
              have HML := Lib.hid hzl
              clear hzl
              go_wp2
              generalize (v8.alloc (.cells #[.int .i64 6, .int .i64 0, .string ⟨#[]⟩, .slice A m cc] 28)) = v9 at L9 g9 ga9 R9 ⊢
              go_loopw [18, 19] (fun sv iv wr => ∃ k : Nat, k ≤ m ∧ sv = .string (jn (zs.take k)) ∧ iv = .int .i64 k ∧ Hid (Below v9.heap.size v9 wr)) (fun _ iv _ => m - (intOf iv).toNat)
              case atStart => exact ⟨0, Nat.zero_le _, rfl, rfl, Lib.hid (Below.refl _ _)⟩
              case round =>
                obtain ⟨kq, hkq, rfl, rfl, HB⟩ := hrel
                obtain ⟨⟨e0, e1, e2, e3⟩, _⟩ := cells4 (blk_below g9.out HB.out)
                by_cases hlk : kq < m
                · have q8 : (kq : Int) < (m : Int) := by omega
                  obtain ⟨s, hs⟩ : ∃ s, zs[kq]? = some s := ⟨_, List.getElem?_eq_getElem (by rw [← HML.out]; exact hlk)⟩
                  have R10 := R9.out.below HB.out
                  obtain ⟨hmm, ⟨gq, rfl⟩, hcc⟩ := R10.form (by intro e; have := HML.out; have h := List.map_eq_nil_iff.1 e; rw [h] at this; simp at this; omega)
                  have R11 : wr.ownsRow v7.heap.size.succ 28 4 (.slice (some ⟨gq, 0, none⟩) (zs.map some).length cc) (zs.map some).length ((zs.map some).flatMap repC) := by
                    rw [← hmm]
                    have h := R10
                    unfold RO at h
                    rw [← hmm] at h
                    have e9 : (v7.alloc (.cells #[.int .i64 3, .int .i64 F, .string ⟨#[]⟩, .slice none 0 0] 28)).heap.size = v7.heap.size.succ := by simp
                    rw [e9] at h
                    exact h
                  have rc := row_cell R11 (kq * 4 + 2) (.string s) (repC_at (zs.map some) kq 2 (some s) _ (by simp [hs]) rfl)
                  have htk := take_at zs kq s hs
                  have HTK := Lib.hid (show jn (zs.take (kq + 1)) = jn (zs.take kq) ++ s by rw [htk, jn_snoc])
                  have hss : s.size = 1 := by
                    obtain ⟨b, _, rfl⟩ := List.mem_map.1 (HZM.out s (List.mem_of_getElem? hs))
                    rfl
                  have hjz : (jn (zs.take kq)).size ≤ 15 := by
                    rw [jn_len1 bs (zs.take kq) (fun s hs => HZM.out s (List.mem_of_mem_take hs)), List.length_take]
                    have := HZL.out
                    omega
                  obtain ⟨T2, hT2⟩ : ∃ T2, jn (zs.take kq) = T2 := ⟨_, rfl⟩
                  rw [hT2] at hjz HTK ⊢
                  have f1 : ¬ (T2.size + s.size > 9223372036854775807) := by omega
                  have hm15 : m ≤ 15 := by rw [HML.out]; exact HZL.out
                  clear hs R10 R11 hmm hcc htk hss hjz hT2
                  go_wp2
                  exact ⟨⟨kq + 1, by omega, by rw [HTK.out], by go_num, HB⟩, by simp [intOf]; omega⟩
                · obtain rfl : m = kq := by omega
                  have q8 : ¬ (m : Int) < (m : Int) := by omega
                  obtain ⟨w9, rfl⟩ : ∃ w9, w9 = wr := ⟨_, rfl⟩
                  have htk : jn (zs.take m) = T := by rw [HML.out, List.take_length]; exact HTT.out
                  rw [htk]
                  have L10 := Lib.hid (L9.out.old HB.out)
                  have ga10 := Lib.hid (blk_below ga9.out HB.out)
                  clear htk hlk hkq
                  have TL := Lib.hid (fun X => told X)
                  go_wp2_with (first | (go_at_call 6; (with_reducible refine (TL.out _).mono ?_); rintro e v10 ⟨rfl, h10⟩; have L11 := Lib.hid (L10.out.old h10); have ga11 := Lib.hid (blk_below ga10.out h10); clear h10; refine Hid.out ?_))
                  refine Lib.hid ?_
                  obtain ⟨⟨b0, b1, b2, b3⟩, _⟩ := cells4 ga11.out
                  have w9 : IntKind.i64.wrap F = F := IntWalk.i64_in _ (by have := HFB.out; omega)
                  by_cases hz : zs = []
                  · have hT0 : T = ⟨#[]⟩ := by rw [← HTT.out, hz]; rfl
                    subst hT0
                    have AL := Lib.hid (All0 bS bM v10 (by have h := L11.out; rw [hz] at h; exact h.sp0))
                    go_wp2_with (first | (go_at_call 10; (with_reducible refine (AL.out).mono ?_); rintro e v11 ⟨rfl, h11⟩; have L12 := Lib.hid (L11.out.old h11); clear h11))
                    go_ret
                    exact ⟨by simp, L12.out.below⟩
                  · have hTn : ¬ T.toList = [] := by
                      intro e
                      rw [toList_nil e] at HTT
                      exact hz ((jn_empty bs zs HZM.out).1 HTT.out)
                    go_wp2
                    go_ret
                    exact ⟨by simp, L11.out.below⟩
end Go.Proofs.YtjljljjmdlddkaaGreatDoor

/- The law ListsTakes, whole. -/
namespace Go.Proofs.YtjljljjmdlddkaaGreatDoor
open Go.ChangeShapes Go.WideShapes Go.ChangeAt Go.RowKit

theorem tab_takes {W : World} (h : laidMetH Tryz.prog Rows.listsTakesRow.laid W) : Tab W :=
  Lib.tabIs_of_head (rest := []) (zs := Lib.pow10Tab) gPow gPowType (by kernel_rfl) (by kernel_rfl) cellsE cellsTb (laidMet.tail (laidMet.tail h))
set_option maxRecDepth 100000 in
set_option maxHeartbeats 8000000 in
theorem takes_none (bs : List Bool) (v0 : Value) (a1 : Int) (w : World) (h0 : BoSl w v0 bs) (h : bs.length = 0 ∨ 15 < bs.length) : Calls Tryz.prog 5 #[v0, .int .i64 a1] w fun e w' => e = .returned (.bool true) ∧ Below w.heap.size w w' := by
  have TL := Lib.hid (fun X => told X)
  obtain ⟨aA, cap, rfl, p1, p2, p3⟩ := h0
  obtain ⟨n, hn⟩ : ∃ n : Nat, bs.length = n := ⟨_, rfl⟩
  rw [hn] at h
  simp only [hn]
  rcases h with h | h
  · subst h
    clear p1 p2 p3 hn
    go_enter Tryz.func5, Tryz.ntmps5
    go_wp2_with (first | (go_at_call 6; (with_reducible refine (TL.out _).mono ?_); rintro e w7 ⟨rfl, h7⟩; have B7 := Lib.hid h7; clear h7))
    exact bodyPost_ret (v := .bool true) (by simp [results, Tryz.results5, go_sem]) rfl ⟨rfl, B7.out⟩
  · have q1 : ¬ (n : Int) = 0 := by omega
    have q2 : (15 : Int) < (n : Int) := by omega
    have q1b : ((n : Int) == 0) = false := by rw [beq_eq_false_iff_ne]; exact q1
    clear p1 p2 p3 hn
    go_enter Tryz.func5, Tryz.ntmps5
    go_wp2_with (first | (go_at_call 6; (with_reducible refine (TL.out _).mono ?_); rintro e w7 ⟨rfl, h7⟩; have B7 := Lib.hid h7; clear h7))
    exact bodyPost_ret (v := .bool true) (by simp [results, Tryz.results5, go_sem]) rfl ⟨rfl, B7.out⟩
theorem takes_law {W : World} (hT : Tab W) (v0 : Value) (bs : List Bool) (h0 : BoSl W v0 bs) (a1 : Int) (h1 : I64 a1) : Calls Tryz.prog 5 #[v0, .int .i64 a1] W fun e w' => e = .returned (.bool true) ∧ Below W.heap.size W w' := by
  by_cases h : 1 ≤ bs.length ∧ bs.length ≤ 15
  · exact takes_walk bs v0 a1 W hT h0 h.1 h.2 h1
  · exact takes_none bs v0 a1 W h0 (by omega)
end Go.Proofs.YtjljljjmdlddkaaGreatDoor
