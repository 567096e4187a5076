/- What the printed functions of crc and of the reference come to: the linear law of Plain. -/
import Derived.Test.YteakllmajhnhpaaPlain
import Derived.Test.YteakllmajhnhpaaPx1
namespace Go.Proofs.Yteakllmajhnhpaa.Crc
open Go.RowKit Go.Proofs.Yteakllmajhnhpaa.P Go.Proofs.YteakllmajhnhpaaW.PrintWords Go.Proofs.YteakllmajhnhpaaW.PrintLast Go.Proofs.Yteakllmajhnhpaa.Aids

theorem flip (x : Nat) (h : x < 4294967296) : 4294967295 ^^^ x = 4294967295 - x := by
  have e : BitVec.allOnes 32 ^^^ BitVec.ofNat 32 x = ~~~ BitVec.ofNat 32 x := BitVec.allOnes_xor
  have e2 := congrArg BitVec.toNat e
  rw [BitVec.toNat_xor, BitVec.toNat_not, BitVec.toNat_allOnes, BitVec.toNat_ofNat] at e2
  have : x % 2 ^ 32 = x := Nat.mod_eq_of_lt h
  rw [this] at e2
  simpa using e2
theorem T_eq (j : Nat) (h : j < 16) : crc_T j = (An 4 j : Nat) := by
  have all : ∀ j : Nat, j < 16 → crc_T j = (An 4 j : Nat) := by decide +kernel
  exact all j h
theorem and15 (x : Nat) (h : x < 4294967296) : Go.bits .and .u32 (x : Int) 15 = ((x % 16 : Nat) : Int) := by
  have := u32_and_nat x 15 h (by decide)
  rw [show (15 : Int) = ((15 : Nat) : Int) from rfl, this]
  have e := Nat.and_two_pow_sub_one_eq_mod x 4
  simp only [show (2 : Nat) ^ 4 - 1 = 15 from rfl, show (2 : Nat) ^ 4 = 16 from rfl] at e
  rw [e]
theorem Four_eq (x f : Nat) (hx : x < 4294967296) (hf : f < 16) : crc_Four (x : Int) (f : Int) = (An 4 (x ^^^ f) : Nat) := by
  unfold crc_Four
  have hxf : x ^^^ f < 2 ^ 32 := Nat.xor_lt_two_pow hx (by omega)
  rw [u32_xor_nat x f hx (by omega), and15 _ hxf, Int.toNat_natCast, T_eq _ (Nat.mod_lt _ (by decide)), show ((x : Int) / 16) = ((x / 16 : Nat) : Int) by simp, u32_xor_nat _ _ (by omega) (An_lt 4 (by omega)), four_eq x f hf]
theorem Byte_eq (x c : Nat) (hx : x < 4294967296) (hc : c < 256) : crc_Byte (x : Int) (c : Int) = (An 8 (x ^^^ c) : Nat) := by
  unfold crc_Byte
  have h1 : Go.bits .and .u8 (c : Int) 15 % 4294967296 = ((c % 16 : Nat) : Int) := by
    rw [show (15 : Int) = ((15 : Nat) : Int) from rfl, u8_and_nat c 15 hc (by decide)]
    have e := Nat.and_two_pow_sub_one_eq_mod c 4
    simp only [show (2 : Nat) ^ 4 - 1 = 15 from rfl, show (2 : Nat) ^ 4 = 16 from rfl] at e
    rw [e]; omega
  have h2 : (c : Int) / 16 % 4294967296 = ((c / 16 : Nat) : Int) := by omega
  rw [h1, h2, Four_eq x (c % 16) hx (by omega), Four_eq _ (c / 16) (An_lt 4 (Nat.xor_lt_two_pow hx (by omega))) (by omega), byte_eq]
def nat (l : List Int) : List Nat := l.map Int.toNat
theorem nat_lt {l : List Int} (h : ∀ x ∈ l, 0 ≤ x ∧ x ≤ 255) : ∀ c ∈ nat l, c < 256 := by
  intro c hc
  simp only [nat, List.mem_map] at hc
  obtain ⟨x, hx, rfl⟩ := hc
  have := h x hx
  omega
theorem fold_eq (l : List Int) : ∀ x : Nat, x < 4294967296 → (∀ y ∈ l, 0 ≤ y ∧ y ≤ 255) → l.foldl crc_Byte (x : Int) = (crcs x (nat l) : Nat) := by
  induction l with
  | nil => intro x _ _; rfl
  | cons c l ih =>
    intro x hx h
    have hc := h c List.mem_cons_self
    obtain ⟨n, rfl⟩ := Int.eq_ofNat_of_zero_le hc.1
    rw [List.foldl_cons, Byte_eq x n hx (by omega), ih _ (An_lt 8 (Nat.xor_lt_two_pow hx (by omega))) (fun y hy => h y (List.mem_cons_of_mem _ hy))]
    simp [nat, crcs_cons]
/-- The document's sum: from x on, each bit turned. -/
def sum (x : Nat) (l : List Int) : Nat := 4294967295 ^^^ crcs (4294967295 ^^^ x) (nat l)
theorem ones_lt (x : Nat) (h : x < 4294967296) : 4294967295 ^^^ x < 4294967296 := Nat.xor_lt_two_pow (n := 32) (by decide) h
theorem sum_lt (x : Nat) (l : List Int) (hx : x < 4294967296) (h : ∀ y ∈ l, 0 ≤ y ∧ y ≤ 255) : sum x l < 4294967296 := ones_lt _ (crcs_lt _ _ (ones_lt x hx) (nat_lt h))
theorem More_eq (x : Nat) (l : List Int) (hx : x < 4294967296) (h : ∀ y ∈ l, 0 ≤ y ∧ y ≤ 255) : crc_More.f (x : Int) l = some ((sum x l : Nat) : Int) := by
  unfold crc_More.f
  rw [show (4294967295 : Int) = ((4294967295 : Nat) : Int) from rfl, u32_xor_nat _ x (by decide) hx, fold_eq l _ (ones_lt x hx) h, u32_xor_nat _ _ (by decide) (crcs_lt _ _ (ones_lt x hx) (nat_lt h))]
  rfl
theorem Of_eq (l : List Int) (h : ∀ y ∈ l, 0 ≤ y ∧ y ≤ 255) : crc_Of.f l = some ((sum 0 l : Nat) : Int) := by
  unfold crc_Of.f
  rw [show (0 : Int) = ((0 : Nat) : Int) from rfl, More_eq 0 l (by decide) h]; rfl
/-- The reference, bit by bit. -/
theorem ref_l1 (s : ByteArray) (i : Int) (d : Nat) : ∀ (k x c : Nat), x < 4294967296 → c < 256 → d ≤ 8 →
    letterboxref04_More.l1 (k + d + 1) s (x : Int) i (c : Int) ((8 - d : Nat) : Int) = letterboxref04_More.l0 k s (bs d x c : Nat) (wrap64 (i + 1)) := by
  induction d with
  | zero =>
    intro k x c hx hc hd
    rw [letterboxref04_More.l1, if_neg (by omega)]
    rfl
  | succ d ih =>
    intro k x c hx hc hd
    rw [show k + (d + 1) + 1 = (k + d + 1) + 1 by omega]
    rw [letterboxref04_More.l1, if_pos (by omega)]
    have e1 : (Int.tmod (c : Int) 2) % 4294967296 = ((c % 2 : Nat) : Int) := by rw [tmod_pos (by omega)]; omega
    have hy : x ^^^ c % 2 < 2 ^ 32 := Nat.xor_lt_two_pow hx (by omega)
    rw [e1, u32_xor_nat x (c % 2) hx (by omega)]
    have e2 : (Int.tdiv ((x ^^^ c % 2 : Nat) : Int) 2) % 4294967296 = (((x ^^^ c % 2) / 2 : Nat) : Int) := by rw [tdiv_pos (by omega)]; omega
    have e3 : (Int.tdiv (c : Int) 2) % 256 = ((c / 2 : Nat) : Int) := by rw [tdiv_pos (by omega)]; omega
    have e4 : wrap64 (((8 - (d + 1) : Nat) : Int) + 1) = ((8 - d : Nat) : Int) := by rw [w64 (by omega) (by omega)]; omega
    rw [e2, e3, e4, show (3988292384 : Int) = ((P : Nat) : Int) from rfl, u32_xor_nat _ P (by omega) (by decide)]
    by_cases hb : (x ^^^ c % 2) % 2 = 1
    · rw [if_pos (by rw [tmod_pos (by omega)]; omega), ih k _ _ (Nat.xor_lt_two_pow (n := 32) (by omega) (by decide)) (by omega) (by omega)]
      simp [bs, A, hb]
    · rw [if_neg (by rw [tmod_pos (by omega)]; omega), ih k _ _ (by omega) (by omega) (by omega)]
      simp [bs, A, hb]
theorem ref_l0 (s : ByteArray) (hs : s.size ≤ 140737488351232) (d : Nat) : ∀ (k x i : Nat), x < 4294967296 → i + d = s.size →
    letterboxref04_More.l0 (k + 10 * d + 1) s (x : Int) (i : Int) = some ((4294967295 ^^^ crcs x (nat ((bytesOf s).drop i)) : Nat) : Int) := by
  induction d with
  | zero =>
    intro k x i hx hi
    rw [letterboxref04_More.l0, if_neg (by omega), List.drop_eq_nil_of_le (by rw [size_bytes]; omega)]
    show some _ = some ((4294967295 ^^^ x : Nat) : Int)
    rw [flip x hx]
    congr 1; omega
  | succ d ih =>
    intro k x i hx hi
    rw [show k + 10 * (d + 1) + 1 = (((k + 10 * d + 1) + 8 + 1)) + 1 by omega]
    rw [letterboxref04_More.l0]
    have hr := bt_range s i
    obtain ⟨c, hc⟩ := Int.eq_ofNat_of_zero_le hr.1
    have hl : i < (bytesOf s).length := by rw [size_bytes]; omega
    have hd : (bytesOf s).drop i = (c : Int) :: (bytesOf s).drop (i + 1) := by
      rw [List.drop_eq_getElem_cons hl]
      congr 1
      rw [← hc, bt_bytes]
      unfold rd
      rw [Int.toNat_natCast, List.getD_eq_getElem?_getD, List.getElem?_eq_getElem hl]; rfl
    rw [if_pos (by omega), if_pos (by omega), hc, show (0 : Int) = ((8 - 8 : Nat) : Int) from rfl, ref_l1 s i 8 _ x c hx (by omega) (by omega), w64 (by omega) (by omega), bs_eq 8 x c (by omega), show ((i : Int) + 1) = ((i + 1 : Nat) : Int) from rfl, ih k _ (i + 1) (An_lt 8 (Nat.xor_lt_two_pow (n := 32) hx (by omega))) (by omega), hd]
    rfl
theorem ref_More_eq (x : Nat) (l : List Int) (hx : x < 4294967296) (hl : l.length ≤ 140737488351232) (h : ∀ y ∈ l, 0 ≤ y ∧ y ≤ 255) (k : Nat) (hk : 10 * l.length + 1 ≤ k) : letterboxref04_More.f k (x : Int) (strOfNums l) = some ((sum x l : Nat) : Int) := by
  unfold letterboxref04_More.f
  have e : ((4294967295 - (x : Int)) % 4294967296) = ((4294967295 ^^^ x : Nat) : Int) := by rw [flip x hx]; omega
  have hs := ref_l0 (strOfNums l) (by rw [strOfNums_size]; exact hl) l.length (k - (10 * l.length + 1)) (4294967295 ^^^ x) 0 (ones_lt x hx) (by rw [strOfNums_size]; omega)
  rw [show k - (10 * l.length + 1) + 10 * l.length + 1 = k by omega] at hs
  rw [e]
  refine hs.trans ?_
  rw [bytes_str l h]
  rfl
theorem ref_Of_eq (l : List Int) (hl : l.length ≤ 140737488351232) (h : ∀ y ∈ l, 0 ≤ y ∧ y ≤ 255) (k : Nat) (hk : 10 * l.length + 1 ≤ k) : letterboxref04_Of.f k (strOfNums l) = some ((sum 0 l : Nat) : Int) := by
  unfold letterboxref04_Of.f
  rw [show (0 : Int) = ((0 : Nat) : Int) from rfl, ref_More_eq 0 l (by decide) hl h k hk]; rfl
theorem sum_inj {x : Nat} {l m : List Int} (h : sum x l = sum x m) : crcs (4294967295 ^^^ x) (nat l) = crcs (4294967295 ^^^ x) (nat m) := by
  unfold sum at h
  have e := congrArg (4294967295 ^^^ ·) h
  simp only [← Nat.xor_assoc, Nat.xor_self, Nat.zero_xor] at e
  exact e
theorem set_num (l : List Int) (hb : ∀ y ∈ l, 0 ≤ y ∧ y ≤ 255) (q d : Nat) (hq : q < l.length) (hd : d < 256) :
    num (nat (l.set q (Go.bits .xor .u8 (rd l (q : Int)) (d : Int)))) = num (nat l) ^^^ (d * 2 ^ (8 * q)) ∧ 0 ≤ Go.bits .xor .u8 (rd l (q : Int)) (d : Int) ∧ Go.bits .xor .u8 (rd l (q : Int)) (d : Int) ≤ 255 := by
  have hm : rd l (q : Int) ∈ l := by
    unfold rd
    rw [Int.toNat_natCast, List.getD_eq_getElem?_getD, List.getElem?_eq_getElem hq]
    exact List.getElem_mem hq
  have hr := hb _ hm
  obtain ⟨n, hn⟩ := Int.eq_ofNat_of_zero_le hr.1
  have hx : n ^^^ d < 2 ^ 8 := Nat.xor_lt_two_pow (by omega) hd
  rw [hn, u8_xor_nat n d (by omega) hd]
  refine ⟨?_, by omega, by omega⟩
  have e := num_set (nat l) q d (nat_lt hb) hd (by simpa [nat] using hq)
  have g : (nat l).getD q 0 = n := by
    have : rd l (q : Int) = (n : Int) := hn
    unfold rd at this
    rw [Int.toNat_natCast, List.getD_eq_getElem?_getD, List.getElem?_eq_getElem hq] at this
    simp only [nat, List.getD_eq_getElem?_getD, List.getElem?_map, List.getElem?_eq_getElem hq]
    simp only [Option.getD_some] at this
    simp [this]
  rw [g] at e
  rw [← e]
  simp [nat, List.map_set]
theorem set_bytes {l : List Int} (hb : ∀ y ∈ l, 0 ≤ y ∧ y ≤ 255) {q : Nat} {v : Int} (hv : 0 ≤ v ∧ v ≤ 255) : ∀ y ∈ l.set q v, 0 ≤ y ∧ y ≤ 255 := by
  intro y hy
  rcases List.mem_or_eq_of_mem_set hy with h | h
  · exact hb y h
  · rw [h]; exact hv
end Go.Proofs.Yteakllmajhnhpaa.Crc
