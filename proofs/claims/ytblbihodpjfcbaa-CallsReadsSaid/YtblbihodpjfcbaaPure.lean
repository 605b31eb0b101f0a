/- What is written is read as it was; what is cut off is too short. Plain lists of bytes, no program. No condition. -/
import Derived.Test.YtblbihodpjfcbaaOwn
namespace Go.Tr
set_option linter.unusedVariables false

theorem beN_be32 (n : Nat) (hn : n < 4294967296) : beN (be32 n) = n := by
  simp only [beN, be32, List.foldl_cons, List.foldl_nil, UInt8.toNat_ofNat']
  omega
theorem fold_be : ∀ (b : List UInt8) (x : Nat), b.foldl (fun n c => n * 256 + c.toNat) x = b.foldl (fun n c => n * 256 + c.toNat) 0 + x * 256 ^ b.length
  | [], x => by simp
  | c :: t, x => by
    simp only [List.foldl_cons, List.length_cons, Nat.zero_mul, Nat.zero_add]
    rw [fold_be t (x * 256 + c.toNat), fold_be t c.toNat, Nat.pow_succ, Nat.add_mul, Nat.mul_assoc, Nat.mul_comm 256]
    omega
theorem beN_app (a b : List UInt8) : beN (a ++ b) = beN b + beN a * 256 ^ b.length := by
  unfold beN
  rw [List.foldl_append]
  exact fold_be b _
theorem rdN4_app (n : Nat) (hn : n < 4294967296) (l : List UInt8) : rdN 4 (be32 n ++ l) = .ok (n, l) := by
  have h4 : (be32 n).length = 4 := be32_length n
  unfold rdN
  rw [if_neg (by rw [List.length_append]; omega), List.take_append_of_le_length (by omega), List.take_of_length_le (by omega), beN_be32 n hn, ← h4, List.drop_left]
theorem rdN8_app (n : Nat) (hn : n < 18446744073709551616) (l : List UInt8) : rdN 8 (be64 n ++ l) = .ok (n, l) := by
  have h8 : (be64 n).length = 8 := be64_length n
  have hv : beN (be64 n) = n := by
    unfold be64
    rw [beN_app, beN_be32 _ (by omega), beN_be32 _ (by omega), be32_length]
    omega
  unfold rdN
  rw [if_neg (by rw [List.length_append]; omega), List.take_append_of_le_length (by omega), List.take_of_length_le (by omega), hv, ← h8, List.drop_left]
theorem rdText_app (m : Nat) (d l : List UInt8) (hd : d.length ≤ m) (hm : m ≤ 1000000) : rdText m (textB d ++ l) = .ok (d, l) := by
  unfold rdText textB
  rw [List.append_assoc, List.append_assoc, rdN4_app _ (by omega)]
  simp only []
  rw [if_neg (by omega), if_neg (by simp), List.drop_left, if_pos, List.take_left]
  · have : (d ++ (List.replicate (padN d.length) 0 ++ l)).drop (d.length + padN d.length) = l := by
      rw [← List.append_assoc, ← (by simp : (d ++ List.replicate (padN d.length) (0 : UInt8)).length = d.length + padN d.length), List.drop_left]
    rw [this]
  · rw [List.take_append_of_le_length (by simp), List.take_of_length_le (by simp)]
    simp
theorem rdN_short (n : Nat) (l : List UInt8) (h : l.length < n) : rdN n l = .error 3 := by
  unfold rdN
  rw [if_pos h]
theorem rdText_cut (m : Nat) (d : List UInt8) (k : Nat) (hd : d.length ≤ m) (hm : m ≤ 1000000) (hk : k < (textB d).length) : rdText m ((textB d).take k) = .error 3 := by
  have hlen : (textB d).length = 4 + d.length + padN d.length := by simp [textB, be32_length]; omega
  by_cases h4 : k < 4
  · unfold rdText
    rw [rdN_short 4 _ (by rw [List.length_take]; omega)]
  · have h32 : (be32 d.length).length = 4 := be32_length _
    unfold rdText textB
    rw [List.append_assoc, List.take_append, List.take_of_length_le (l := be32 d.length) (by omega), rdN4_app _ (by omega)]
    simp only []
    rw [if_neg (by omega), if_pos]
    rw [List.length_take, h32]
    simp
    omega

/-- within the bounds -/
structure Bnd (x : AA) : Prop where
  size : 0 ≤ x.size ∧ x.size < 4294967296
  count : 0 ≤ x.count ∧ x.count < 4294967296
  mode : 0 ≤ x.mode ∧ x.mode < 4294967296
  hi : 0 ≤ x.hi ∧ x.hi < 4294967296
  hg : 0 ≤ x.hg ∧ x.hg < 4294967296
  ji : 0 ≤ x.ji ∧ x.ji < 4294967296
  jg : 0 ≤ x.jg ∧ x.jg < 4294967296
  off : 0 ≤ x.off ∧ x.off ≤ 4611686018427387904
  n1 : x.name.size ≤ 40
  n2 : x.name2.size ≤ 40
  d : x.dl.length ≤ 30
theorem rd32 {x : Int} (h : 0 ≤ x ∧ x < 4294967296) (l : List UInt8) : rdN 4 (num32 x ++ l) = .ok (x.toNat, l) := by
  unfold num32
  have : (x % 4294967296).toNat = x.toNat := by omega
  rw [this]
  exact rdN4_app _ (by omega) l
theorem num32_length (x : Int) : (num32 x).length = 4 := rfl
theorem num64_length (x : Int) : (num64 x).length = 8 := rfl
theorem sb_back (s : ByteArray) : (⟨(sb s).toArray⟩ : ByteArray) = s := by
  obtain ⟨d⟩ := s
  simp [sb]
theorem rdF_app (f : Nat) (hf : f < 9) (a b : AA) (hb : Bnd b) (l : List UInt8) : rdF f a (b.bytesF f ++ l) = .ok (a.setF b f, l) := by
  have c {x : Int} (h : 0 ≤ x ∧ x < 4294967296) : ((x.toNat : Nat) : Int) = x := by omega
  match f, hf with
  | 0, _ =>
    simp only [rdF, rdH, AA.bytesF, List.append_assoc, rd32 hb.hi, rd32 hb.hg, c hb.hi, c hb.hg, AA.setF]
  | 1, _ =>
    simp only [rdF, rdH, AA.bytesF, List.append_assoc, rd32 hb.ji, rd32 hb.jg, c hb.ji, c hb.jg, AA.setF]
  | 2, _ =>
    have h1 := hb.n1
    simp only [rdF, AA.bytesF, rdText_app 64 (sb b.name) l (by rw [sb_length]; omega) (by omega), AA.setF, sb_back]
  | 3, _ =>
    have h1 := hb.n2
    simp only [rdF, AA.bytesF, rdText_app 64 (sb b.name2) l (by rw [sb_length]; omega) (by omega), AA.setF, sb_back]
  | 4, _ =>
    have h1 := hb.off
    have h2 : (b.off % 18446744073709551616).toNat = b.off.toNat := by omega
    have h3 : ((b.off.toNat : Nat) : Int) = b.off := by omega
    simp only [rdF, AA.bytesF, num64, h2, rdN8_app b.off.toNat (by omega) l, AA.setF, h3]
    rw [if_neg (by omega)]
  | 5, _ => simp only [rdF, AA.bytesF, rd32 hb.count, c hb.count, AA.setF]
  | 6, _ => simp only [rdF, AA.bytesF, rd32 hb.size, c hb.size, AA.setF]
  | 7, _ => simp only [rdF, AA.bytesF, rd32 hb.mode, c hb.mode, AA.setF]
  | 8, _ =>
    have h1 := hb.d
    simp only [rdF, AA.bytesF, rdText_app 2048 b.dl l (by omega) (by omega), AA.setF]
theorem rdAll_app (b : AA) (hb : Bnd b) : ∀ (row : List Nat) (a : AA), (∀ f ∈ row, f < 9) → rdAll row a (row.flatMap b.bytesF) = .ok (row.foldl (fun x f => x.setF b f) a, [])
  | [], a, _ => rfl
  | f :: row, a, h => by
    rw [List.flatMap_cons, rdAll, rdF_app f (h f (by simp)) a b hb]
    exact rdAll_app b hb row _ (fun g hg => h g (by simp [hg]))
theorem rdF_cut (f : Nat) (hf : f < 9) (a b : AA) (hb : Bnd b) (k : Nat) (hk : k < (b.bytesF f).length) : rdF f a ((b.bytesF f).take k) = .error 3 := by
  match f, hf with
  | 0, _ =>
    simp only [AA.bytesF, List.length_append, num32_length] at hk
    simp only [rdF, rdH, AA.bytesF]
    by_cases h4 : k < 4
    · rw [rdN_short 4 _ (by rw [List.length_take]; omega)]
    · rw [List.take_append, List.take_of_length_le (l := num32 b.hi) (by rw [num32_length]; omega), rd32 hb.hi]
      simp only []
      rw [rdN_short 4 _ (by rw [List.length_take, num32_length]; omega)]
  | 1, _ =>
    simp only [AA.bytesF, List.length_append, num32_length] at hk
    simp only [rdF, rdH, AA.bytesF]
    by_cases h4 : k < 4
    · rw [rdN_short 4 _ (by rw [List.length_take]; omega)]
    · rw [List.take_append, List.take_of_length_le (l := num32 b.ji) (by rw [num32_length]; omega), rd32 hb.ji]
      simp only []
      rw [rdN_short 4 _ (by rw [List.length_take, num32_length]; omega)]
  | 2, _ =>
    have h1 := hb.n1
    simp only [rdF, AA.bytesF]
    rw [rdText_cut 64 (sb b.name) k (by rw [sb_length]; omega) (by omega) hk]
  | 3, _ =>
    have h1 := hb.n2
    simp only [rdF, AA.bytesF]
    rw [rdText_cut 64 (sb b.name2) k (by rw [sb_length]; omega) (by omega) hk]
  | 4, _ =>
    simp only [AA.bytesF, num64_length] at hk
    simp only [rdF, AA.bytesF]
    rw [rdN_short 8 _ (by rw [List.length_take]; omega)]
  | 5, _ | 6, _ | 7, _ =>
    simp only [AA.bytesF, num32_length] at hk
    simp only [rdF, AA.bytesF]
    rw [rdN_short 4 _ (by rw [List.length_take]; omega)]
  | 8, _ =>
    have h1 := hb.d
    simp only [rdF, AA.bytesF]
    rw [rdText_cut 2048 b.dl k (by omega) (by omega) hk]
theorem rdAll_cut (b : AA) (hb : Bnd b) : ∀ (row : List Nat) (a : AA) (k : Nat), (∀ f ∈ row, f < 9) → k < (row.flatMap b.bytesF).length → rdAll row a ((row.flatMap b.bytesF).take k) = .error 3
  | [], a, k, _, hk => by simp at hk
  | f :: row, a, k, h, hk => by
    rw [List.flatMap_cons] at hk ⊢
    rw [rdAll]
    by_cases h1 : k < (b.bytesF f).length
    · rw [List.take_append_of_le_length (by omega), rdF_cut f (h f (by simp)) a b hb k h1]
    · rw [List.take_append, List.take_of_length_le (l := b.bytesF f) (by omega), rdF_app f (h f (by simp)) a b hb]
      simp only []
      exact rdAll_cut b hb row _ _ (fun g hg => h g (by simp [hg])) (by rw [List.length_append] at hk; omega)
end Go.Tr
