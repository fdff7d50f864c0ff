/- Texts joined: Iter, G17, L19 -/
import Derived.Shelf.SlIter.Nil
import Derived.Shelf.SortM.Plain
import Derived.Shelf.SortM.SortNone
import Derived.Test.YtjljljjmdlddkaaGreatDoorProg
import Derived.Test.YtjljljjmdlddkaaGreatDoorQb12
import Derived.Test.YtjljljjmdlddkaaGreatDoorQb23
import Derived.Deep.AppendLies
import Derived.Test.YtjljljjmdlddkaaGreatDoorQb29
import Derived.Deep.Grids

/-
  DERIVED: THE SHELF's CONTRACTS AT THIS DUMP, IN PLAIN WORDS (tools/lay-plain.mjs out of 'TryzIter.lean', which tools/lay-shelf.mjs wrote): THE SAME DECLARATIONS UNDER THE SAME NAMES: 'import', 'namespace', 'open', 'def', 'theorem' AND NOTHING ELSE: no command of the shelf's: FOR A HAND-IN. Each laying: the table of numbers ('.._ren') and one theorem, a field a fact of the dump's own or the kernel's comparison; each contract: ONE APPLICATION.
-/
namespace Go.Proofs
open Go.Shelf
def Tryz.keys16_ren : Go.Shelf.Ren := ⟨fun | 7 => 16 | 10 => 38 | n => n, fun | 23 => 39 | 26 => 9 | 3 => 51 | 28 => 58 | 0 => 0 | 27 => 57 | 33 => 54 | 4 => 4 | n => n, fun | n => n⟩
theorem Tryz.keys16 : Go.Proofs.SlLaysZ.n7 Tryz.prog Tryz.keys16_ren := {
  mixed := by kernel_rfl
  f7 := ⟨Tryz.f16.name, by decide, Tryz.func16.trans (congrArg some (by kernel_rfl))⟩
  f10 := ⟨Tryz.f38.name, by decide, Tryz.func38.trans (congrArg some (by kernel_rfl))⟩
  t0 := Tryz.underlying0
  a0 := Tryz.isAgg0
  z0 := Tryz.sizeOf0
  v0 := Tryz.zeroValue0
  t4 := Tryz.underlying4
  a4 := Tryz.isAgg4
  z4 := Tryz.sizeOf4
  v4 := Tryz.zeroValue4
  t23 := Tryz.underlying39
  a23 := Tryz.isAgg39
  z23 := Tryz.sizeOf39
  v23 := Tryz.zeroValue39
  t26 := Tryz.underlying9
  a26 := Tryz.isAgg9
  z26 := Tryz.sizeOf9
  v26 := Tryz.zeroValue9
  t27 := Tryz.underlying57
  a27 := Tryz.isAgg57
  z27 := Tryz.sizeOf57
  v27 := Tryz.zeroValue57
  t28 := Tryz.underlying58
  a28 := Tryz.isAgg58
  z28 := Tryz.sizeOf58
  v28 := Tryz.zeroValue58
  t33 := Tryz.underlying54
  a33 := Tryz.isAgg54
  z33 := Tryz.sizeOf54
  v33 := Tryz.zeroValue54 }
def Tryz.sorted15_ren : Go.Shelf.Ren := ⟨fun | 6 => 15 | 8 => 36 | 9 => 37 | 11 => 67 | 13 => 69 | 12 => 68 | 23 => 112 | 24 => 113 | 14 => 103 | 15 => 104 | 16 => 105 | 17 => 106 | 18 => 107 | 19 => 108 | 20 => 109 | 21 => 110 | 22 => 111 | 25 => 135 | 26 => 136 | 27 => 137 | 28 => 138 | 29 => 139 | 30 => 140 | 31 => 156 | n => n, fun | 26 => 9 | 28 => 58 | 24 => 33 | 0 => 0 | 3 => 3 | 37 => 23 | 48 => 167 | 50 => 154 | 4 => 4 | 40 => 161 | 39 => 160 | 45 => 131 | 5 => 5 | 9 => 9 | 51 => 189 | 55 => 193 | 57 => 202 | 58 => 133 | 33 => 54 | n => n, fun | n => n⟩
theorem Tryz.sorted15 : Go.Proofs.SlLaysZ.n6 Tryz.prog Tryz.sorted15_ren := {
  mixed := by kernel_rfl
  f6 := ⟨Tryz.f15.name, by decide, Tryz.func15.trans (congrArg some (by kernel_rfl))⟩
  f8 := ⟨Tryz.f36.name, by decide, Tryz.func36.trans (congrArg some (by kernel_rfl))⟩
  f11 := ⟨Tryz.f67.name, by decide, Tryz.func67.trans (congrArg some (by kernel_rfl))⟩
  t0 := Tryz.underlying0
  a0 := Tryz.isAgg0
  z0 := Tryz.sizeOf0
  v0 := Tryz.zeroValue0
  t24 := Tryz.underlying33
  a24 := Tryz.isAgg33
  z24 := Tryz.sizeOf33
  v24 := Tryz.zeroValue33
  t26 := Tryz.underlying9
  a26 := Tryz.isAgg9
  z26 := Tryz.sizeOf9
  v26 := Tryz.zeroValue9
  t28 := Tryz.underlying58
  a28 := Tryz.isAgg58
  z28 := Tryz.sizeOf58
  v28 := Tryz.zeroValue58
  i26 := by kernel_rfl }
def Tryz.sort37_ren : Go.Shelf.Ren := ⟨fun | 6 => 37 | 8 => 69 | 9 => 68 | 19 => 112 | 20 => 113 | 21 => 103 | 22 => 104 | 23 => 105 | 24 => 106 | 25 => 107 | 26 => 108 | 27 => 109 | 28 => 110 | 29 => 111 | 36 => 135 | 31 => 136 | 32 => 137 | 37 => 138 | 38 => 139 | 39 => 140 | 41 => 156 | n => n, fun | 27 => 33 | 29 => 9 | 3 => 3 | 32 => 23 | 26 => 33 | 0 => 0 | 44 => 167 | 46 => 154 | 4 => 4 | 36 => 161 | 35 => 160 | 41 => 131 | 5 => 5 | 9 => 9 | 53 => 189 | 57 => 193 | 63 => 202 | 64 => 133 | n => n, fun | n => n⟩
theorem Tryz.sort37 : Go.Proofs.SlLaysM.n6 Tryz.prog Tryz.sort37_ren := {
  mixed := by kernel_rfl
  f6 := ⟨Tryz.f37.name, by decide, Tryz.func37.trans (congrArg some (by kernel_rfl))⟩
  f8 := Tryz.func69.trans (congrArg some (by kernel_rfl))
  f9 := ⟨Tryz.f68.name, by decide, Tryz.func68.trans (congrArg some (by kernel_rfl))⟩
  f19 := Tryz.func112.trans (congrArg some (by kernel_rfl))
  f20 := Tryz.func113.trans (congrArg some (by kernel_rfl))
  f21 := ⟨Tryz.f103.name, by decide, Tryz.func103.trans (congrArg some (by kernel_rfl))⟩
  f22 := ⟨Tryz.f104.name, by decide, Tryz.func104.trans (congrArg some (by kernel_rfl))⟩
  f23 := ⟨Tryz.f105.name, by decide, Tryz.func105.trans (congrArg some (by kernel_rfl))⟩
  f24 := ⟨Tryz.f106.name, by decide, Tryz.func106.trans (congrArg some (by kernel_rfl))⟩
  f25 := ⟨Tryz.f107.name, by decide, Tryz.func107.trans (congrArg some (by kernel_rfl))⟩
  f26 := ⟨Tryz.f108.name, by decide, Tryz.func108.trans (congrArg some (by kernel_rfl))⟩
  f27 := ⟨Tryz.f109.name, by decide, Tryz.func109.trans (congrArg some (by kernel_rfl))⟩
  f28 := ⟨Tryz.f110.name, by decide, Tryz.func110.trans (congrArg some (by kernel_rfl))⟩
  f29 := ⟨Tryz.f111.name, by decide, Tryz.func111.trans (congrArg some (by kernel_rfl))⟩
  f31 := Tryz.func136.trans (congrArg some (by kernel_rfl))
  f32 := Tryz.func137.trans (congrArg some (by kernel_rfl))
  f36 := ⟨Tryz.f135.name, by decide, Tryz.func135.trans (congrArg some (by kernel_rfl))⟩
  f37 := ⟨Tryz.f138.name, by decide, Tryz.func138.trans (congrArg some (by kernel_rfl))⟩
  f38 := ⟨Tryz.f139.name, by decide, Tryz.func139.trans (congrArg some (by kernel_rfl))⟩
  f39 := ⟨Tryz.f140.name, by decide, Tryz.func140.trans (congrArg some (by kernel_rfl))⟩
  f41 := ⟨Tryz.f156.name, by decide, Tryz.func156.trans (congrArg some (by kernel_rfl))⟩
  t0 := Tryz.underlying0
  a0 := Tryz.isAgg0
  z0 := Tryz.sizeOf0
  v0 := Tryz.zeroValue0
  t3 := Tryz.underlying3
  a3 := Tryz.isAgg3
  z3 := Tryz.sizeOf3
  v3 := Tryz.zeroValue3
  t4 := Tryz.underlying4
  a4 := Tryz.isAgg4
  z4 := Tryz.sizeOf4
  v4 := Tryz.zeroValue4
  t5 := Tryz.underlying5
  a5 := Tryz.isAgg5
  z5 := Tryz.sizeOf5
  v5 := Tryz.zeroValue5
  t9 := Tryz.underlying9
  a9 := Tryz.isAgg9
  z9 := Tryz.sizeOf9
  v9 := Tryz.zeroValue9
  t26 := Tryz.underlying33
  a26 := Tryz.isAgg33
  z26 := Tryz.sizeOf33
  v26 := Tryz.zeroValue33
  t27 := Tryz.underlying33
  a27 := Tryz.isAgg33
  z27 := Tryz.sizeOf33
  v27 := Tryz.zeroValue33
  t29 := Tryz.underlying9
  a29 := Tryz.isAgg9
  z29 := Tryz.sizeOf9
  v29 := Tryz.zeroValue9
  t32 := Tryz.underlying23
  a32 := Tryz.isAgg23
  z32 := Tryz.sizeOf23
  v32 := Tryz.zeroValue23
  t35 := Tryz.underlying160
  a35 := Tryz.isAgg160
  z35 := Tryz.sizeOf160
  v35 := Tryz.zeroValue160
  t36 := Tryz.underlying161
  a36 := Tryz.isAgg161
  z36 := Tryz.sizeOf161
  v36 := Tryz.zeroValue161
  t41 := Tryz.underlying131
  a41 := Tryz.isAgg131
  z41 := Tryz.sizeOf131
  v41 := Tryz.zeroValue131
  t44 := Tryz.underlying167
  a44 := Tryz.isAgg167
  z44 := Tryz.sizeOf167
  v44 := Tryz.zeroValue167
  t46 := Tryz.underlying154
  a46 := Tryz.isAgg154
  z46 := Tryz.sizeOf154
  v46 := Tryz.zeroValue154
  t53 := Tryz.underlying189
  a53 := Tryz.isAgg189
  z53 := Tryz.sizeOf189
  v53 := Tryz.zeroValue189
  t57 := Tryz.underlying193
  a57 := Tryz.isAgg193
  z57 := Tryz.sizeOf193
  v57 := Tryz.zeroValue193
  t63 := Tryz.underlying202
  a63 := Tryz.isAgg202
  z63 := Tryz.sizeOf202
  v63 := Tryz.zeroValue202
  t64 := Tryz.underlying133
  a64 := Tryz.isAgg133
  z64 := Tryz.sizeOf133
  v64 := Tryz.zeroValue133 }
end Go.Proofs
namespace Go.Proofs
open Go.RowKit Go.Maps Go.Sort Go.Shelf
/-- slices.Sort's two contracts at this dump, at the fence that asks nothing. -/
theorem Tryz.sorts15 (m : Nat) : AnyZ.SortsIn Tryz.prog Tryz.sorted15_ren Fence.wide m :=
  ⟨fun blk off cap ss W hH hblk hsz => callsIn_wide.2 (AnyM.slices_Sort_string Tryz.sort37 blk off cap ss W hH hblk hsz),
   fun p cap W => callsIn_wide.2 (AnyM.slices_Sort_string_none Tryz.sort37 p cap W)⟩

/-- **maps.Keys[map[string]scriptorium/api.Entry,string,scriptorium/api.Entry], at whatever map, the nil one too:** a function value over ONE NEW BLOCK, which holds the map. -/
theorem Tryz.maps_Keys_16 (mb : Option Nat) (W : World) : CallsIn Fence.wide 5 Tryz.prog 16 #[.map mb] W fun e w' => e = .returned (.func (.func 38) #[] #[.pointer (some ⟨W.heap.size, 0, none⟩)]) ∧ w' = W.alloc (.cells #[.map mb] 39) :=
  AnyZ.keys_in Tryz.keys16 Fence.wide 5 trivial rfl mb W

set_option maxHeartbeats 1000000 in
/-- **slices.Sorted[string] AT WHAT maps.Keys[map[string]scriptorium/api.Entry,string,scriptorium/api.Entry] HANDED BACK FOR A MAP THAT IS NOT nil** ('w': the world AHEAD of maps.Keys' call): A NEW SLICE THAT HOLDS THE MAP's KEYS, SORTED; nil just where it has none; nothing that lay before has turned. -/
theorem Tryz.slices_Sorted_keys_15_16 {H : Type} (b nn : Nat) (D0 : DataW H) (R : Value → Option (DataW H × List MemPlace)) (w : World) (hown : w.ownsMap Tryz.prog 9 R b nn D0) (hmax : Maps.size D0 ≤ maxLen) (hbytes : Maps.size D0 * 16 ≤ 140737488355328) :
    CallsIn Fence.wide 5 Tryz.prog 15 #[.func (.func 38) #[] #[.pointer (some ⟨w.heap.size, 0, none⟩)]] (w.alloc (.cells #[.map (some b)] 39)) fun e w' => ∃ (v : Value) (ss : List (List UInt8)), e = .returned v ∧ ss.Perm (strKeys D0) ∧
      w'.ownsRow (w.alloc (.cells #[.map (some b)] 39)).heap.size 9 1 v ss.length ((ss.mergeSort (fun x y => decide (x ≤ y))).map encStr) ∧ (v = .slice none 0 0 ↔ ss = []) ∧ Below (w.alloc (.cells #[.map (some b)] 39)).heap.size (w.alloc (.cells #[.map (some b)] 39)) w' := by
  have hbl := hown.lt
  have hseq : SeqGives Fence.wide 2 Tryz.prog 38 #[.pointer (some ⟨w.heap.size, 0, none⟩)] encStr (fun ss => ss.Perm (strKeys D0)) (Maps.size D0) (w.alloc (.cells #[.map (some b)] 39)) :=
    AnyZ.keys_gives (ρ := Tryz.keys16_ren) { Tryz.keys16 with } Fence.wide _ trivial rfl (by omega) w.heap.size b nn D0 _ (by simp) (by simp) (by
      obtain ⟨es, clock, hb, Ft, hs, hD⟩ := hown
      exact ⟨es, clock, (Below.heap_alloc _ _ b hbl).trans hb, Ft, hs, hD⟩)
  exact AnyZ.sorted_in Tryz.sorted15 Fence.wide 5 trivial trivial trivial trivial rfl (by omega) (Tryz.sorts15 _) (enters_of Tryz.func37 (by kernel_rfl) rfl) 38 #[.pointer (some ⟨w.heap.size, 0, none⟩)] trivial (enters_of Tryz.func38 (by kernel_rfl) rfl) _ _ hmax hbytes _ hseq

set_option maxHeartbeats 1000000 in
/-- **.. AND FOR THE nil MAP: nil.** -/
theorem Tryz.slices_Sorted_keys_nil_15_16 (w : World) :
    CallsIn Fence.wide 5 Tryz.prog 15 #[.func (.func 38) #[] #[.pointer (some ⟨w.heap.size, 0, none⟩)]] (w.alloc (.cells #[.map none] 39)) fun e w' => ∃ (v : Value) (ss : List (List UInt8)), e = .returned v ∧ ss = [] ∧
      w'.ownsRow (w.alloc (.cells #[.map none] 39)).heap.size 9 1 v ss.length ((ss.mergeSort (fun x y => decide (x ≤ y))).map encStr) ∧ (v = .slice none 0 0 ↔ ss = []) ∧ Below (w.alloc (.cells #[.map none] 39)).heap.size (w.alloc (.cells #[.map none] 39)) w' := by
  have hseq : SeqGives Fence.wide 2 Tryz.prog 38 #[.pointer (some ⟨w.heap.size, 0, none⟩)] encStr (fun ss : List (List UInt8) => ss = []) 0 (w.alloc (.cells #[.map none] 39)) :=
    AnyZ.keys_gives_nil (ρ := Tryz.keys16_ren) { Tryz.keys16 with } Fence.wide _ trivial rfl w.heap.size _ (by simp) (by simp)
  exact AnyZ.sorted_in Tryz.sorted15 Fence.wide 5 trivial trivial trivial trivial rfl (by omega) (Tryz.sorts15 _) (enters_of Tryz.func37 (by kernel_rfl) rfl) 38 #[.pointer (some ⟨w.heap.size, 0, none⟩)] trivial (enters_of Tryz.func38 (by kernel_rfl) rfl) _ 0 (Nat.zero_le _) (by omega) _ hseq



end Go.Proofs

/- All entries of a space with no key, with one. -/
namespace Go.Proofs.YtjljljjmdlddkaaGreatDoor
open Go.ChangeShapes Go.WideShapes Go.ChangeAt Go.RowKit Go.WideElems Go.Sort

theorem keys0 {w : World} {b : Nat} (h : MapT.MB w b []) : ∃ (D0 : DataW Unit) (R : Value → Option (DataW Unit × List MemPlace)), w.ownsMap Tryz.prog 9 R b 0 D0 ∧ Maps.size D0 = 0 ∧ strKeys D0 = [] := by
  obtain ⟨es, c, h1, h2, h3⟩ := h
  have he : es.toList = [] := by
    cases hl : es.toList with
    | nil => rfl
    | cons e r => rw [hl] at h2; simp [MapT.pairs, MapT.vals] at h2
  have hsz : es.size = 0 := by rw [← Array.length_toList, he]; rfl
  refine ⟨_, fun _ => some (.lit (.bool true), []), ⟨es, c, h1, ⟨by rw [hsz]; unfold maxLen; decide, h3, fun x hx => ?_⟩, by omega, rfl⟩, ?_, ?_⟩
  · rw [he] at hx
    cases hx
  · rw [he]
    rfl
  · rw [he]
    rfl
theorem Sorted0 (bM : Nat) (w : World) (h : MapT.MB w bM []) : Calls Tryz.prog 15 #[.func (.func 38) #[] #[.pointer (some ⟨w.heap.size, 0, none⟩)]] (w.alloc (.cells #[.map (some bM)] 39)) fun e w' => e = .returned (.slice none 0 0) ∧ Below w.heap.size w w' := by
  obtain ⟨D0, R, hown, hs, hK⟩ := keys0 h
  refine (callsIn_wide.1 (Tryz.slices_Sorted_keys_15_16 bM 0 D0 R w hown (by rw [hs]; unfold maxLen; decide) (by rw [hs]; decide))).mono ?_
  rintro e w' ⟨v', ss, rfl, hp, hrow, hnil, hb⟩
  rw [hK] at hp
  have hss : ss = [] := List.perm_nil.1 hp
  rw [hnil.2 hss]
  exact ⟨rfl, alloc_old.trans (hb.mono (by simp))⟩
set_option maxRecDepth 100000 in
set_option maxHeartbeats 8000000 in
theorem All0 (bS bM : Nat) (w : World) (h : SP w bS bM []) : Calls Tryz.prog 10 #[.pointer (some ⟨bS, 0, none⟩)] w fun e w' => e = .returned (.slice none 0 0) ∧ Below w.heap.size w w' := by
  have MK := Lib.hid (callsIn_wide.1 (Tryz.maps_Keys_16 (some bM) w))
  have SO := Lib.hid (Sorted0 bM w h.2.1)
  obtain ⟨hs1, hs2⟩ := h.cell
  clear h
  go_enter Tryz.func10, Tryz.ntmps10
  go_wp2_with (first | (go_at_call 16; (with_reducible refine (MK.out).mono ?_); rintro e w1 ⟨rfl, rfl⟩) | (go_at_call 15; (with_reducible refine (SO.out).mono ?_); rintro e w2 ⟨rfl, hb2⟩; have B2 := Lib.hid hb2; clear hb2; refine Hid.out ?_))
  refine Lib.hid ?_
  go_wp2_with fail
  go_loopw [3, 15] (fun lv iv wr => Hid (iv = .int .i64 0 ∧ lv = .slice none 0 0 ∧ Below w.heap.size w wr)) (fun _ iv _ => 1 - (intOf iv).toNat)
  case atStart => exact Lib.hid ⟨rfl, rfl, B2.out⟩
  case round =>
    obtain ⟨rfl, rfl, hB⟩ := hrel.out
    have HB := Lib.hid hB
    clear hB
    go_wp2
    go_ret
    exact ⟨rfl, HB.out⟩
end Go.Proofs.YtjljljjmdlddkaaGreatDoor

/- The law ListsTakes: its plain parts. -/
namespace Go.Proofs.YtjljljjmdlddkaaGreatDoor
open Go.ChangeShapes Go.WideShapes Go.ChangeAt Go.RowKit

def ab (b : Bool) : UInt8 := if b then 98 else 97
def tx (b : Bool) : ByteArray := ⟨#[ab b]⟩
def jn (xs : List ByteArray) : ByteArray := xs.foldl (· ++ ·) ⟨#[]⟩
theorem jn_snoc (xs : List ByteArray) (s : ByteArray) : jn (xs ++ [s]) = jn xs ++ s := by simp [jn]
theorem jn_from (xs : List ByteArray) : ∀ a : ByteArray, (xs.foldl (· ++ ·) a).data.toList = a.data.toList ++ xs.flatMap (fun s => s.data.toList) := by
  induction xs with
  | nil => intro a; simp
  | cons s r ih => intro a; rw [List.foldl_cons, ih]; simp
theorem jn_data (xs : List ByteArray) : (jn xs).data.toList = xs.flatMap (fun s => s.data.toList) := by unfold jn; rw [jn_from]; simp
theorem jn_tx (bs : List Bool) : (jn (bs.map tx)).data.toList = bs.map ab := by
  rw [jn_data, List.flatMap_map]
  induction bs with
  | nil => rfl
  | cons b r ih => rw [List.flatMap_cons, ih]; rfl
theorem jn_size (bs : List Bool) : (jn (bs.map tx)).size = bs.length := by
  have h := congrArg List.length (jn_tx bs)
  rw [List.length_map] at h
  rw [← h]
  simp
theorem jn_at (bs : List Bool) (q : Nat) (b : Bool) (h : bs[q]? = some b) : byteAt (jn (bs.map tx)) q = ab b := by
  unfold byteAt
  rw [jn_tx, List.getD, List.getElem?_map, h]
  rfl
theorem jn_empty (bs : List Bool) (zs : List ByteArray) (h : ∀ s ∈ zs, s ∈ bs.map tx) : jn zs = ⟨#[]⟩ ↔ zs = [] := by
  constructor
  · intro e
    cases zs with
    | nil => rfl
    | cons s r =>
      have h1 := jn_data (s :: r)
      rw [e] at h1
      obtain ⟨b, _, rfl⟩ := List.mem_map.1 (h s (by simp))
      simp [tx] at h1
  · rintro rfl
    rfl
/-- A row of bools that came in. -/
def BoSl (w : World) (v : Value) (bs : List Bool) : Prop := ∃ A cap, v = .slice A bs.length cap ∧ bs.length ≤ cap ∧ cap ≤ maxLen ∧ (bs ≠ [] → ∃ b off, A = some ⟨b, off, none⟩ ∧ b < w.heap.size ∧ ∀ i x, bs[i]? = some x → w.cell? ⟨b, off + i, none⟩ = some (.bool x))
theorem BoSl.of_trod {H : Type} {enc : TypeId × Value → H} {W : World} {v : Value} {d : DataW H} {ps : List MemPlace} (h : DataW.Trod enc Tryz.prog W 0 (fun _ => true) true 35 v d ps) (hv : ∃ A n c, v = .slice A n c) : ∃ bs, BoSl W v bs := by
  obtain ⟨A, n, c, rfl⟩ := hv
  obtain ⟨m, hm⟩ := h
  rcases Go.Deep.open_bools Tryz.underlying35 Tryz.underlying4 (by kernel_rfl) hm with ⟨hcs, _⟩ | ⟨a, len, cap, B, hcs, _, hl, hc, _, hcell⟩
  · obtain ⟨rfl, rfl, rfl⟩ : A = none ∧ n = 0 ∧ c = 0 := by simpa [Value.cells] using hcs
    exact ⟨[], none, 0, rfl, Nat.le_refl _, Nat.zero_le _, fun h => absurd rfl h⟩
  · obtain ⟨rfl, rfl, rfl⟩ : A = some a ∧ n = len ∧ c = cap := by simpa [Value.cells] using hcs
    have e : ((List.range n).map B).length = n := by simp
    refine ⟨(List.range n).map B, some a, c, by rw [e], by rw [e]; exact hl, hc, fun hne => ?_⟩
    have hn : 0 < n := by
      rcases Nat.eq_zero_or_pos n with h | h
      · subst h; simp at hne
      · exact h
    obtain ⟨b, off, rfl, hb, hcell'⟩ := at_of (f := fun i => .bool (B i)) hcell (by omega)
    refine ⟨b, off, rfl, hb, fun i x hi => ?_⟩
    obtain ⟨hi1, hi2⟩ := List.getElem?_eq_some_iff.1 hi
    rw [e] at hi1
    rw [hcell' i (by omega)]
    simp at hi2
    rw [hi2]
theorem remK_lt (x : Int) (n i : Nat) (hi : i < n) : remK x n i < n := by unfold remK; split <;> omega
theorem remF_seen (x : Int) (s : ByteArray) (ys : List ByteArray) : ∀ i q, (remF x s ys i).2 q = true → ∃ j, j < i ∧ q = remK x ys.length j
  | 0, q, h => by cases h
  | i + 1, q, h => by
    by_cases hc : ys[remK x ys.length i]? = some s ∧ (x = 0 ∨ (x > 0 ∧ (remF x s ys i).1 < x) ∨ (x < 0 ∧ -(remF x s ys i).1 > x))
    · have e : remF x s ys (i + 1) = ((remF x s ys i).1 + 1, fun q => if q = remK x ys.length i then true else (remF x s ys i).2 q) := if_pos hc
      rw [e] at h
      by_cases hq : q = remK x ys.length i
      · exact ⟨i, by omega, hq⟩
      · simp only [hq, if_false] at h
        obtain ⟨j, h1, h2⟩ := remF_seen x s ys i q h
        exact ⟨j, by omega, h2⟩
    · rw [remF_miss x s ys i hc] at h
      obtain ⟨j, h1, h2⟩ := remF_seen x s ys i q h
      exact ⟨j, by omega, h2⟩
theorem remF_new (x : Int) (s : ByteArray) (ys : List ByteArray) (n i k : Nat) (hn : ys.length = n) (hi : i < n) (hk : remK x n i = k) : (remF x s ys i).2 k = false := by
  cases h : (remF x s ys i).2 k with
  | false => rfl
  | true =>
    obtain ⟨j, h1, h2⟩ := remF_seen x s ys i k h
    rw [hn, ← hk] at h2
    unfold remK at h2
    split at h2 <;> omega
theorem tx_at (bs : List Bool) (k : Nat) (b : Bool) (h : bs[k]? = some b) : (bs.map tx)[k]? = some (tx b) := by rw [List.getElem?_map, h]; rfl
theorem scan_hit (x : Int) (bs : List Bool) (n i k : Nat) (hn : bs.length = n) (hk : remK x n i = k) (hb : bs[k]? = some true) (f : Int) (hf : (remF x ⟨#[98]⟩ (bs.map tx) i).1 = f) (hc : x = 0 ∨ f < max x (-x)) (h0 : 0 ≤ f) : remF x ⟨#[98]⟩ (bs.map tx) (i + 1) = (f + 1, fun q => if q = k then true else (remF x ⟨#[98]⟩ (bs.map tx) i).2 q) := by
  subst hf
  exact remF_hit x ⟨#[98]⟩ (bs.map tx) i k (by rw [List.length_map, hn]; exact hk) (tx_at bs k true hb) (by omega)
theorem scan_miss (x : Int) (bs : List Bool) (n i k : Nat) (hn : bs.length = n) (hk : remK x n i = k) (b : Bool) (hb : bs[k]? = some b) (f : Int) (hf : (remF x ⟨#[98]⟩ (bs.map tx) i).1 = f) (hc : b = false ∨ (x ≠ 0 ∧ ¬ f < max x (-x))) : remF x ⟨#[98]⟩ (bs.map tx) (i + 1) = remF x ⟨#[98]⟩ (bs.map tx) i := by
  subst hf
  refine remF_miss x ⟨#[98]⟩ (bs.map tx) i ?_
  rw [List.length_map, hn, hk, tx_at bs k b hb]
  rintro ⟨h1, h2⟩
  rcases hc with rfl | hc
  · exact absurd (congrArg (fun o => o.map (fun s : ByteArray => s.data.toList)) h1) (by decide)
  · omega
theorem spanT_all (zs : List ByteArray) : spanT 0 (-1) zs = zs := by
  rcases Nat.eq_zero_or_pos zs.length with h | h
  · obtain rfl := List.length_eq_zero_iff.1 h
    unfold spanT
    split <;> simp
  · have e1 : spA 0 (zs.length : Int) = 0 := rfl
    have e2 : spC (-1) (zs.length : Int) = (zs.length : Int) - 1 := by
      unfold spC
      rw [if_pos (by omega)]
      omega
    unfold spanT
    rw [e1, e2, if_pos (by omega)]
    rw [show (0 : Int).toNat = 0 from rfl, List.drop_zero]
    exact List.take_of_length_le (by omega)
theorem leftT_step (g : Nat → Bool) (bs : List Bool) (i : Nat) (b : Bool) (h : bs[i]? = some b) : jn (leftT g (bs.map tx) (i + 1)) = if g i then jn (leftT g (bs.map tx) i) else jn (leftT g (bs.map tx) i) ++ tx b := by
  show jn (if g i then _ else _) = _
  rw [tx_at bs i b h]
  split
  · rfl
  · exact jn_snoc _ _
end Go.Proofs.YtjljljjmdlddkaaGreatDoor
