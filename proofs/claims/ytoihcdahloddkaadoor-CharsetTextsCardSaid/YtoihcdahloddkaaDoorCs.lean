/- What the program's charsets are, in plain words: a text of narrow bytes, and back. -/
import Derived.Test.YtoihcdahloddkaaDoorZTop
import Derived.Test.YtoihcdahloddkaaDoorUtf
set_option linter.unusedVariables false
set_option linter.unusedSimpArgs false
namespace Go.Proofs.YtoihcdahloddkaaDoor.Cs
open Go.RowKit Go.Lib Go.Proofs.YtoihcdahloddkaaDoor.P Go.Proofs.YtoihcdahloddkaaDoor.Utf Go.Proofs.YtoihcdahloddkaaDoorW.PrintWords Go.Proofs.YtoihcdahloddkaaDoorW.PrintLast Go.Proofs.YtoihcdahloddkaaDoor.Aids
def szk (k : Nat) : Int := if k = 1 then 128 else 256
theorem szk_le (k : Nat) : szk k ≤ 256 := by unfold szk; split <;> omega
theorem E_len (rs : List Nat) : rs.length ≤ (E rs).length := by
  induction rs with
  | nil => simp [E]
  | cons c rs ih =>
    rw [E_cons, List.length_append, List.length_cons]
    have := (enc_len (c : Int)).1
    omega
theorem bytL_E (sz : Int) (s : ByteArray) : ∀ (rs done : List Nat) (d : Nat) (acc : List Int), s.data.toList = E done ++ E rs → (∀ c ∈ rs, good c) → rs.length < d →
    bytL sz s d (E done).length acc = if rs.all (fun (c : Nat) => decide ((c : Int) < sz)) = true then (acc ++ rs.map (fun (c : Nat) => (c : Int) % 256), true) else ([], false) := by
  intro rs
  induction rs with
  | nil =>
    intro done d acc hs _ hd
    obtain ⟨d, rfl⟩ : ∃ m, d = m + 1 := ⟨d - 1, by simp at hd; omega⟩
    unfold bytL
    have hz : s.size = (E done).length := by
      rw [Lib.size_eq, hs]; simp [E]
    rw [if_neg (by omega)]
    simp
  | cons c rs ih =>
    intro done d acc hs hg hd
    obtain ⟨d, rfl⟩ : ∃ m, d = m + 1 := ⟨d - 1, by simp at hd; omega⟩
    have hc := hg c (List.mem_cons_self)
    have hlen := (enc_len (c : Int)).1
    have hz : s.size = (E done).length + (E (c :: rs)).length := by rw [Lib.size_eq, hs, List.length_append]
    have hz2 : 0 < (E (c :: rs)).length := by rw [E_cons, List.length_append]; omega
    have hdec : Utf8.decode s (E done).length = (c, (encodeRune (c : Int)).length) := by
      rw [← decodeL_drop, hs, List.drop_left, E_cons, dec_enc c hc]
    unfold bytL
    rw [if_pos (by omega), hdec]
    simp only
    by_cases hlt : (c : Int) < sz
    · rw [if_neg (by omega)]
      have := ih (done ++ [c]) d (acc ++ [(c : Int) % 256]) (by rw [hs, E_append, List.append_assoc, E_cons]; simp [E]) (fun x hx => hg x (List.mem_cons_of_mem _ hx)) (by simp at hd; omega)
      rw [E_append, List.length_append] at this
      have e1 : (E [c]).length = (encodeRune (c : Int)).length := by simp [E]
      rw [e1] at this
      rw [this, List.all_cons, decide_eq_true hlt, Bool.true_and]
      simp
    · rw [if_pos (by omega), List.all_cons, decide_eq_false hlt, Bool.false_and, if_neg (by decide)]
theorem textv_0 (b : List Int) : cs_textv 0 b = (⟨#[]⟩, 21) := rfl
theorem bytv_0 (s : ByteArray) : cs_bytv 0 s = ([], 21) := rfl
theorem textv_3 (b : List Int) : cs_textv 3 b = if validL b = true then (strOfNums b, 0) else (⟨#[]⟩, 21) := rfl
theorem bytv_3 (s : ByteArray) : cs_bytv 3 s = if validD s.data.toList = false then ([], 21) else (bytesOf s, 0) := rfl
theorem bytv_bad (k : Nat) (s : ByteArray) (h : validD s.data.toList = false) : cs_bytv k s = ([], 21) := by
  unfold cs_bytv
  by_cases h0 : k = 0
  · rw [if_pos h0]
  · rw [if_neg h0, if_pos h]
theorem textv_n {k : Nat} (h : k = 1 ∨ k = 2) (b : List Int) : cs_textv k b = if b.all (fun x => decide (x < szk k)) = true then (runesBytes b, 0) else (⟨#[]⟩, 21) := by
  unfold cs_textv szk
  rw [if_neg (by omega), if_neg (by omega)]
  unfold txtL
  by_cases ha : b.all (fun x => decide (x < (if k = 1 then 128 else 256))) = true
  · rw [if_pos ha, if_pos ha]; rfl
  · rw [if_neg ha, if_neg ha]; rfl
theorem bytv_n {k : Nat} (h : k = 1 ∨ k = 2) (s : ByteArray) (rs : List Nat) (hg : ∀ c ∈ rs, good c) (hs : s.data.toList = E rs) :
    cs_bytv k s = if rs.all (fun (c : Nat) => decide ((c : Int) < szk k)) = true then (rs.map (fun (c : Nat) => (c : Int) % 256), 0) else ([], 21) := by
  have hv : validD s.data.toList = true := by rw [hs]; exact valid_E rs hg
  have hl := E_len rs
  have hz : s.size = (E rs).length := by rw [Lib.size_eq, hs]
  have hb := bytL_E (szk k) s rs [] (s.size + 1) [] (by simpa [E] using hs) hg (by omega)
  have e0 : (E []).length = 0 := rfl
  rw [e0] at hb
  unfold cs_bytv
  rw [if_neg (by omega), if_neg (by rw [hv]; decide), if_neg (by omega)]
  unfold szk at hb ⊢
  rw [hb]
  by_cases ha : rs.all (fun (c : Nat) => decide ((c : Int) < (if k = 1 then 128 else 256))) = true
  · rw [if_pos ha, if_pos ha]; simp
  · rw [if_neg ha, if_neg ha]; rfl
theorem strL (l : List Int) : (strOfNums l).data.toList = u8s l := strOfNums_data l
theorem validL_str (l : List Int) : validL l = validD (strOfNums l).data.toList := by rw [strL]; rfl
theorem u8s_bytes (s : ByteArray) : u8s (bytesOf s) = s.data.toList := by rw [← strL, str_bytes]
theorem runes_E (b : List Int) (hb : byte b) : (runesBytes b).data.toList = E (b.map Int.toNat) := runes_data b (fun x hx => (hb x hx).1)
theorem byte_good {b : List Int} (hb : byte b) : ∀ c ∈ b.map Int.toNat, good c := by
  intro c hc
  obtain ⟨x, hx, rfl⟩ := List.mem_map.1 hc
  have := hb x hx
  unfold good
  omega
theorem map_back {b : List Int} (hb : byte b) : (b.map Int.toNat).map (fun (c : Nat) => (c : Int) % 256) = b := by
  rw [List.map_map]
  conv => rhs; rw [← List.map_id b]
  apply List.map_congr_left
  intro x hx
  have := hb x hx
  simp only [Function.comp, id]
  omega
theorem all_nat {b : List Int} (hb : byte b) (z : Int) : (b.map Int.toNat).all (fun (c : Nat) => decide ((c : Int) < z)) = b.all (fun x => decide (x < z)) := by
  rw [List.all_map, Bool.eq_iff_iff, List.all_eq_true, List.all_eq_true]
  constructor
  · intro h x hx
    have h1 := h x hx
    have := hb x hx
    simp only [Function.comp, decide_eq_true_eq] at h1 ⊢
    omega
  · intro h x hx
    have h1 := h x hx
    have := hb x hx
    simp only [Function.comp, decide_eq_true_eq] at h1 ⊢
    omega
/-- what is a text is the same bytes again -/
theorem back1 {k : Nat} (hk : k = 0 ∨ k = 1 ∨ k = 2 ∨ k = 3) (b : List Int) (hb : byte b) (h : (cs_textv k b).2 = 0) : cs_bytv k (cs_textv k b).1 = (b, 0) := by
  by_cases h0 : k = 0
  · subst h0; rw [textv_0] at h; simp at h
  by_cases h3 : k = 3
  · subst h3
    rw [textv_3] at h ⊢
    by_cases hv : validL b = true
    · rw [if_pos hv, bytv_3]
      simp only
      rw [← validL_str, hv, if_neg (by decide), bytes_str b hb]
    · rw [if_neg hv] at h; simp at h
  · have hn : k = 1 ∨ k = 2 := by omega
    rw [textv_n hn] at h ⊢
    by_cases ha : b.all (fun x => decide (x < szk k)) = true
    · rw [if_pos ha, bytv_n hn _ (b.map Int.toNat) (byte_good hb) (runes_E b hb), all_nat hb, if_pos ha, map_back hb]
    · rw [if_neg ha] at h; simp at h
/-- a text's bytes are the text again -/
theorem back2 {k : Nat} (hk : k = 0 ∨ k = 1 ∨ k = 2 ∨ k = 3) (s : ByteArray) (h : (cs_bytv k s).2 = 0) : cs_textv k (cs_bytv k s).1 = (s, 0) ∧ byte (cs_bytv k s).1 ∧ (cs_bytv k s).1.length ≤ s.size := by
  cases hv : validD s.data.toList with
  | false => rw [bytv_bad k s hv] at h; simp at h
  | true =>
    by_cases h0 : k = 0
    · subst h0; rw [bytv_0] at h; simp at h
    by_cases h3 : k = 3
    · subst h3
      rw [bytv_3, if_neg (by rw [hv]; decide)]
      refine ⟨?_, byte_bytes s, by rw [size_bytes]; exact Nat.le_refl _⟩
      rw [textv_3, if_pos (by unfold validL; rw [u8s_bytes]; exact hv), str_bytes]
    · have hn : k = 1 ∨ k = 2 := by omega
      obtain ⟨rs, hg, hs⟩ := valid_runes hv
      rw [bytv_n hn s rs hg hs] at h ⊢
      by_cases ha : rs.all (fun (c : Nat) => decide ((c : Int) < szk k)) = true
      · rw [if_pos ha]
        have hall := List.all_eq_true.1 ha
        have hsz := szk_le k
        have hmap : rs.map (fun (c : Nat) => (c : Int) % 256) = rs.map (fun (c : Nat) => (c : Int)) := List.map_congr_left fun c hc => by
          have := hall c hc
          simp only [decide_eq_true_eq] at this
          omega
        have hby : byte (rs.map (fun (c : Nat) => (c : Int) % 256)) := by
          intro x hx
          obtain ⟨c, hc, rfl⟩ := List.mem_map.1 hx
          omega
        refine ⟨?_, hby, ?_⟩
        · simp only
          rw [textv_n hn, if_pos]
          · congr 1
            apply ByteArray.ext
            apply Array.ext'
            rw [runes_E _ hby, hs, hmap, List.map_map]
            congr 1
            conv => rhs; rw [← List.map_id rs]
            apply List.map_congr_left
            intro c _
            simp
          · rw [List.all_eq_true]
            intro x hx
            rw [hmap] at hx
            obtain ⟨c, hc, rfl⟩ := List.mem_map.1 hx
            exact hall c hc
        · simp only [List.length_map]
          have := E_len rs
          rw [Lib.size_eq, hs]; exact this
      · rw [if_neg ha] at h; simp at h
theorem textv_code (k : Nat) (b : List Int) : ((cs_textv k b).2 = 0 ∨ ((cs_textv k b).2 = 21 ∧ (cs_textv k b).1 = ⟨#[]⟩)) := by
  unfold cs_textv
  repeat' split
  all_goals simp
theorem bytv_code (k : Nat) (s : ByteArray) : ((cs_bytv k s).2 = 0 ∨ ((cs_bytv k s).2 = 21 ∧ (cs_bytv k s).1 = [])) := by
  unfold cs_bytv
  repeat' split
  all_goals simp
theorem runes_size (b : List Int) : (runesBytes b).size ≤ 4 * b.length := runesBytes_size_le b
theorem textv_size (k : Nat) (b : List Int) : (cs_textv k b).1.size ≤ 4 * b.length := by
  unfold cs_textv txtL
  have h1 := runes_size b
  have h2 : (strOfNums b).size = b.length := strOfNums_size b
  repeat' split
  all_goals simp only
  all_goals first | omega | (show (0 : Nat) ≤ _; omega)
theorem runes_append (a b : List Int) (ha : byte a) (hb : byte b) : runesBytes (a ++ b) = runesBytes a ++ runesBytes b := by
  apply ByteArray.ext
  apply Array.ext'
  rw [ByteArray.data_append, Array.toList_append, runes_E a ha, runes_E b hb, runes_E _ (byte_append ha hb), List.map_append, E_append]
/-- a text of two rows is the two texts -/
theorem joins {k : Nat} (hk : k = 0 ∨ k = 1 ∨ k = 2 ∨ k = 3) (a b : List Int) (ha : byte a) (hb : byte b) (h1 : (cs_textv k a).2 = 0) (h2 : (cs_textv k b).2 = 0) : cs_textv k (a ++ b) = ((cs_textv k a).1 ++ (cs_textv k b).1, 0) := by
  by_cases h0 : k = 0
  · subst h0; rw [textv_0] at h1; simp at h1
  by_cases h3 : k = 3
  · subst h3
    rw [textv_3] at h1 h2 ⊢
    rw [textv_3, textv_3]
    by_cases va : validL a = true
    · by_cases vb : validL b = true
      · have : validL (a ++ b) = true := by
          unfold validL at *
          have e : u8s (a ++ b) = u8s a ++ u8s b := by simp [u8s]
          rw [e]; exact valid_append va vb
        rw [if_pos va, if_pos vb, if_pos this, ← str_append]
      · rw [if_neg vb] at h2; simp at h2
    · rw [if_neg va] at h1; simp at h1
  · have hn : k = 1 ∨ k = 2 := by omega
    rw [textv_n hn] at h1 h2 ⊢
    rw [textv_n hn, textv_n hn]
    by_cases va : a.all (fun x => decide (x < szk k)) = true
    · by_cases vb : b.all (fun x => decide (x < szk k)) = true
      · rw [if_pos va, if_pos vb, if_pos (by rw [List.all_append, va, vb]; rfl), runes_append a b ha hb]
      · rw [if_neg vb] at h2; simp at h2
    · rw [if_neg va] at h1; simp at h1
end Go.Proofs.YtoihcdahloddkaaDoor.Cs
