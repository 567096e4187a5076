/- The law AddrBack holds: a text of boxes, perhaps in a group, is a list of just them. -/
import Derived.Test.YtcjepgofcojeoaaAd5
import Derived.Test.YtcjepgofcojeoaaPx9
set_option linter.unusedVariables false
set_option linter.unusedSimpArgs false
set_option linter.unusedSectionVars false
namespace Go.Proofs.Ytcjepgofcojeoaa.Pure
open Go.RowKit Go.Proofs.Ytcjepgofcojeoaa.P Go.Proofs.YtcjepgofcojeoaaW.PrintWords Go.Proofs.YtcjepgofcojeoaaW.PrintLast Go.Proofs.Ytcjepgofcojeoaa.Aids Go.Proofs.Ytcjepgofcojeoaa.Ad
theorem awakeK : Ev (fun k => letterboxlaw10_awake.f k) true := evk (fun k => letterboxlaw10_awake.mono k) 60 (by decide +kernel)
/-! a box's pieces -/
def hostOk (h : List Int) : Prop := h ≠ [] ∧ h.length ≤ 60 ∧ ∀ c ∈ h, (97 ≤ c ∧ c ≤ 122) ∨ c = 46 ∨ c = 45
theorem host_wch {h : List Int} (hh : hostOk h) : (∀ c ∈ h, wch c = true) ∧ byte h := by
  have key : ∀ c : Int, ((97 ≤ c ∧ c ≤ 122) ∨ c = 46 ∨ c = 45) → wch c = true ∧ 0 ≤ c ∧ c ≤ 255 := by
    intro c hc
    have hc' : 0 ≤ c ∧ c ≤ 255 := by omega
    refine ⟨?_, hc'⟩
    revert hc
    exact of_bytes (p := fun c => ((97 ≤ c ∧ c ≤ 122) ∨ c = 46 ∨ c = 45) → wch c = true) (by decide +kernel) hc'
  exact ⟨fun c hc => (key c (hh.2.2 c hc)).1, fun c hc => (key c (hh.2.2 c hc)).2⟩
def box (h : List Int) (x : ByteArray × ByteArray) : S27 := ⟨0, x.1, x.2, strOfNums h⟩
def boxP (h : List Int) (x : ByteArray × ByteArray) : List Pc := (if bytesOf x.1 = [] then [] else [Pc.w x.1]) ++ [Pc.s 60, Pc.w x.2, Pc.s 64, Pc.w (strOfNums h), Pc.s 62]
theorem pc_box {h : List Int} (hh : hostOk h) (x : ByteArray × ByteArray) (Z : List Int) : pcL (adT (box h x) ++ Z) = (pcL Z).map (boxP h x ++ ·) := by
  obtain ⟨hw, hb⟩ := host_wch hh
  have e3 : bytesOf (strOfNums h) = h := bytes_str h hb
  have tail : pcL ((60 :: quoL (bytesOf x.2)) ++ ((64 :: h) ++ ([62] ++ Z))) = (pcL Z).map ([Pc.s 60, Pc.w x.2, Pc.s 64, Pc.w (strOfNums h), Pc.s 62] ++ ·) := by
    show pcL (60 :: (quoL (bytesOf x.2) ++ (64 :: (h ++ 62 :: Z)))) = _
    rw [pcL_sign (by decide), pcL_quo, pcL_sign (by decide), pcL_word hh.1 hw (by decide), pcL_sign (by decide), str_bytes]
    cases pcL Z with
    | none => rfl
    | some P => rfl
  unfold adT adL boxP box
  simp only [if_true, e3]
  rw [if_neg hh.1]
  by_cases hn : bytesOf x.1 = []
  · rw [if_pos hn, if_pos hn]
    simp only [List.nil_append, List.append_assoc] at tail ⊢
    exact tail
  · rw [if_neg hn, if_neg hn]
    have e : (quoL (bytesOf x.1) ++ [32] ++ 60 :: quoL (bytesOf x.2) ++ 64 :: h ++ [62]) ++ Z = quoL (bytesOf x.1) ++ (32 :: ((60 :: quoL (bytesOf x.2)) ++ ((64 :: h) ++ ([62] ++ Z)))) := by simp
    rw [e, pcL_quo, pcL_blank, tail, str_bytes]
    cases pcL Z with
    | none => rfl
    | some P => rfl
theorem join_one (s sep : ByteArray) : sq_join [s] sep = s := by
  unfold sq_join
  rw [List.map_cons, List.map_nil, Lib.join_one]
theorem join_none (sep : ByteArray) : sq_join [] sep = ⟨#[]⟩ := rfl
theorem words_box (h : List Int) (x : ByteArray × ByteArray) (R : List Pc) : ∃ ws, wordsP (boxP h x ++ R) = (ws, [Pc.s 60, Pc.w x.2, Pc.s 64, Pc.w (strOfNums h), Pc.s 62] ++ R) ∧ sq_join ws (⟨#[32]⟩ : ByteArray) = x.1 := by
  unfold boxP
  by_cases hn : bytesOf x.1 = []
  · rw [if_pos hn]
    refine ⟨[], rfl, ?_⟩
    rw [join_none]
    have := str_bytes x.1
    rw [hn] at this
    exact this
  · rw [if_neg hn]
    exact ⟨[x.1], rfl, join_one x.1 _⟩
theorem item_box (f : RdF) (b : Bool) (h : List Int) (x : ByteArray × ByteArray) (R : List Pc) : itemP f b (boxP h x ++ R) = (true, R, [box h x]) := by
  obtain ⟨ws, hw, hj⟩ := words_box h x R
  unfold itemP
  simp only
  rw [hw]
  simp only
  have e1 : isP ([Pc.s 60, Pc.w x.2, Pc.s 64, Pc.w (strOfNums h), Pc.s 62] ++ R) 60 = (true, [Pc.w x.2, Pc.s 64, Pc.w (strOfNums h), Pc.s 62] ++ R) := by
    show isP (Pc.s 60 :: _) 60 = _
    rw [isP_s, if_pos rfl]; rfl
  rw [e1]
  simp only
  rw [if_pos (by trivial)]
  have ha : angleP ws ([Pc.w x.2, Pc.s 64, Pc.w (strOfNums h), Pc.s 62] ++ R) = (true, R, [⟨0, sq_join ws (⟨#[32]⟩ : ByteArray), sq_join [x.2] (⟨#[]⟩ : ByteArray), strOfNums h⟩]) := rfl
  rw [ha, hj, join_one]
  rfl
/-! boxes with commas between -/
def sepB (h : List Int) : List (ByteArray × ByteArray) → List Pc
  | [] => []
  | [x] => boxP h x
  | x :: y :: t => boxP h x ++ Pc.s 44 :: sepB h (y :: t)
def boxes (h : List Int) (l : List (ByteArray × ByteArray)) : List S27 := l.map (box h)
theorem items_boxes (f : RdF) (b : Bool) (hlen : ∀ l, (itemP f b l).2.1.length ≤ l.length) (h : List Int) (R : List Pc) (hR : (isP R 44).1 = false ∧ (isP R 44).2 = R) : ∀ (x : ByteArray × ByteArray) (t : List (ByteArray × ByteArray)), itemsP (itemP f b) (sepB h (x :: t) ++ R) = (true, R, boxes h (x :: t))
  | x, [] => by
    show itemsL (itemP f b) ((boxP h x ++ R).length + 1) (boxP h x ++ R) = _
    rw [itemsL]
    simp only
    rw [item_box]
    simp only
    rw [if_neg (by decide), if_pos hR.1, hR.2]
    rfl
  | x, y :: t => by
    have ih := items_boxes f b hlen h R hR y t
    have e : sepB h (x :: y :: t) ++ R = boxP h x ++ (Pc.s 44 :: (sepB h (y :: t) ++ R)) := by
      show (boxP h x ++ Pc.s 44 :: sepB h (y :: t)) ++ R = _
      simp
    rw [e]
    show itemsL (itemP f b) ((boxP h x ++ Pc.s 44 :: (sepB h (y :: t) ++ R)).length + 1) (boxP h x ++ Pc.s 44 :: (sepB h (y :: t) ++ R)) = _
    rw [itemsL]
    simp only
    rw [item_box]
    simp only
    rw [if_neg (by decide), isP_s, if_pos rfl]
    simp only
    rw [if_neg (by decide), itemsL_fuel hlen _ ((sepB h (y :: t) ++ R).length + 1) _ (by simp; omega) (by omega)]
    have ih' : itemsL (itemP f b) ((sepB h (y :: t) ++ R).length + 1) (sepB h (y :: t) ++ R) = (true, R, boxes h (y :: t)) := ih
    rw [ih']
    rfl
/-! the text of boxes -/
theorem pc_boxes {h : List Int} (hh : hostOk h) (Z : List Int) : ∀ (x : ByteArray × ByteArray) (t : List (ByteArray × ByteArray)) (p : Option Int) (r : List S27) (q : Int),
    pcL (textL (some 0) (boxes h (x :: t) ++ r) ++ Z) = (pcL (textL (some 0) r ++ Z)).map (fun P => (Pc.s 44 :: sepB h (x :: t)) ++ P) ∧ pcL (adT (box h x) ++ textL (some 0) (boxes h t ++ r) ++ Z) = (pcL (textL (some 0) r ++ Z)).map (fun P => sepB h (x :: t) ++ P)
  | x, [], p, r, q => by
    have h2 : pcL (adT (box h x) ++ textL (some 0) (boxes h [] ++ r) ++ Z) = (pcL (textL (some 0) r ++ Z)).map (fun P => sepB h [x] ++ P) := by
      rw [List.append_assoc, pc_box hh]; rfl
    refine ⟨?_, h2⟩
    show pcL ((([44, 32] ++ adT (box h x)) ++ textL (some 0) (boxes h [] ++ r)) ++ Z) = _
    have e : (([44, 32] ++ adT (box h x)) ++ textL (some 0) (boxes h [] ++ r)) ++ Z = 44 :: (32 :: (adT (box h x) ++ textL (some 0) (boxes h [] ++ r) ++ Z)) := by simp
    rw [e, pcL_sign (by decide), pcL_blank, h2]
    cases pcL (textL (some 0) r ++ Z) with
    | none => rfl
    | some P => rfl
  | x, y :: t, p, r, q => by
    have ih := (pc_boxes hh Z y t p r q).1
    have h2 : pcL (adT (box h x) ++ textL (some 0) (boxes h (y :: t) ++ r) ++ Z) = (pcL (textL (some 0) r ++ Z)).map (fun P => sepB h (x :: y :: t) ++ P) := by
      rw [List.append_assoc, pc_box hh, ih]
      cases pcL (textL (some 0) r ++ Z) with
      | none => rfl
      | some P => show some (boxP h x ++ ((Pc.s 44 :: sepB h (y :: t)) ++ P)) = some ((boxP h x ++ Pc.s 44 :: sepB h (y :: t)) ++ P); rw [List.append_assoc]
    refine ⟨?_, h2⟩
    have e : textL (some 0) (boxes h (x :: y :: t) ++ r) ++ Z = 44 :: (32 :: (adT (box h x) ++ textL (some 0) (boxes h (y :: t) ++ r) ++ Z)) := by
      show (([44, 32] ++ adT (box h x)) ++ textL (some 0) (boxes h (y :: t) ++ r)) ++ Z = _
      simp
    rw [e, pcL_sign (by decide), pcL_blank, h2]
    cases pcL (textL (some 0) r ++ Z) with
    | none => rfl
    | some P => rfl
def grpB : S27 := ⟨1, ⟨#[103]⟩, ⟨#[]⟩, ⟨#[]⟩⟩
def grpE : S27 := ⟨2, ⟨#[]⟩, ⟨#[]⟩, ⟨#[]⟩⟩
theorem list_plain {h : List Int} (hh : hostOk h) (l : List (ByteArray × ByteArray)) : listL (textL none (boxes h l)) = (boxes h l, true) := by
  cases l with
  | nil =>
    show listL [] = ([], true)
    unfold listL
    rw [pcL_nil skipL_nil]
    rfl
  | cons x t =>
    have hp : pcL (textL none (boxes h (x :: t))) = some (sepB h (x :: t)) := by
      have := (pc_boxes hh [] x t none [] 0).2
      have e : textL none (boxes h (x :: t)) = adT (box h x) ++ textL (some 0) (boxes h t ++ []) ++ [] := by
        rw [List.append_nil, List.append_nil]; rfl
      rw [e, this]
      rw [show textL (some 0) [] ++ [] = ([] : List Int) from rfl, pcL_nil skipL_nil]
      simp
    have hi : items0 (sepB h (x :: t)) = (true, [], boxes h (x :: t)) := by
      have := items_boxes items1 false len0 h [] ⟨rfl, rfl⟩ x t
      rw [List.append_nil] at this
      exact this
    unfold listL
    rw [hp]
    simp only
    rw [hi, if_pos rfl, if_pos rfl]
theorem group_items (T : List Pc) (O : List S27) (hi1 : items1 (T ++ [Pc.s 59]) = (true, [Pc.s 59], O)) : items0 (Pc.w (strOfNums [103]) :: Pc.s 58 :: (T ++ [Pc.s 59])) = (true, [], grpB :: (O ++ [grpE])) := by
  have hit : item0 (Pc.w (strOfNums [103]) :: Pc.s 58 :: (T ++ [Pc.s 59])) = (true, [], grpB :: (O ++ [grpE])) := by
    show itemP items1 false _ = _
    unfold itemP
    simp only
    have w1 : wordsP (Pc.w (strOfNums [103]) :: Pc.s 58 :: (T ++ [Pc.s 59])) = ([strOfNums [103]], Pc.s 58 :: (T ++ [Pc.s 59])) := rfl
    have i1 : isP (Pc.s 58 :: (T ++ [Pc.s 59])) 60 = (false, Pc.s 58 :: (T ++ [Pc.s 59])) := rfl
    have i2 : isP (Pc.s 58 :: (T ++ [Pc.s 59])) 58 = (true, T ++ [Pc.s 59]) := rfl
    have i3 : isP [Pc.s 59] 59 = (true, []) := rfl
    rw [w1]
    simp only
    rw [i1]
    simp only
    rw [if_neg (show ¬ (false = true) by decide), if_neg (show ¬ (false = true) by decide), i2]
    simp only
    rw [if_pos (by trivial), hi1]
    simp only
    rw [if_neg (by decide), i3]
    simp only
    rw [if_neg (by decide), join_one]
    rfl
  have := items0_stop (L := Pc.w (strOfNums [103]) :: Pc.s 58 :: (T ++ [Pc.s 59])) (by rw [hit]) (by rw [hit]; rfl)
  rw [this, hit]
  rfl
theorem list_group {h : List Int} (hh : hostOk h) (l : List (ByteArray × ByteArray)) : listL (textL none (grpB :: (boxes h l ++ [grpE]))) = (grpB :: (boxes h l ++ [grpE]), true) := by
  have hE : pcL [59] = some [Pc.s 59] := by
    rw [pcL_sign (by decide), pcL_nil skipL_nil]; rfl
  have fin_ : ∀ T : List Pc, pcL (textL none (grpB :: (boxes h l ++ [grpE]))) = some (Pc.w (strOfNums [103]) :: Pc.s 58 :: (T ++ [Pc.s 59])) → items1 (T ++ [Pc.s 59]) = (true, [Pc.s 59], boxes h l) → listL (textL none (grpB :: (boxes h l ++ [grpE]))) = (grpB :: (boxes h l ++ [grpE]), true) := by
    intro T h1 h2
    unfold listL
    rw [h1]
    simp only
    rw [group_items T _ h2, if_pos rfl, if_pos rfl]
  cases l with
  | nil =>
    refine fin_ [] ?_ rfl
    have e0 : textL none (grpB :: (boxes h [] ++ [grpE])) = quoL [103] ++ (58 :: [59]) := by
      show textL none [grpB, grpE] = _
      decide
    rw [e0, pcL_quo, pcL_sign (by decide), hE]
    rfl
  | cons x t =>
    have e0 : textL none (grpB :: (boxes h (x :: t) ++ [grpE])) = quoL [103] ++ (58 :: (adT (box h x) ++ textL (some 0) (boxes h t ++ [grpE]) ++ [])) := by
      rw [List.append_nil]
      show ([] ++ (quoL [103] ++ [58])) ++ (([] ++ adT (box h x)) ++ textL (some 0) (boxes h t ++ [grpE])) = _
      simp
    refine fin_ (sepB h (x :: t)) ?_ (items_boxes fnone true len1 h [Pc.s 59] ⟨rfl, rfl⟩ x t)
    rw [e0, pcL_quo, pcL_sign (by decide), (pc_boxes hh [] x t none [grpE] 0).2]
    have e2 : textL (some 0) [grpE] ++ [] = [59] := by decide
    rw [e2, hE]
    rfl
theorem rdTb (l : List S27) (i : Nat) (h : i < l.length) : rd_T27 l (i : Int) = l[i] := by
  unfold rd_T27
  rw [Int.toNat_natCast, List.getD_eq_getElem?_getD, List.getElem?_eq_getElem h]; rfl
theorem rdSb (l : List ByteArray) (i : Nat) (h : i < l.length) : rdOf ByteArray.empty l (i : Int) = l[i] := by
  unfold rdOf
  rw [Int.toNat_natCast, List.getD_eq_getElem?_getD, List.getElem?_eq_getElem h]; rfl
theorem back_l2 (l : List S27) (hl : l.length ≤ 100) (m : Nat) : ∀ i : Nat, l.length - i ≤ m → i ≤ l.length → Ev (fun k => letterboxlaw10_AddrBack.l2 k l l (i : Int)) true := by
  induction m with
  | zero =>
    intro i h1 h2
    refine st (fun k => by rw [letterboxlaw10_AddrBack.l2]) ?_
    exact no (by omega) (fin rfl)
  | succ m ih =>
    intro i h1 h2
    rcases Nat.lt_or_ge i l.length with hlt | hge
    · have e1 := wr1 (i := i) (by omega)
      have hn := ih (i + 1) (by omega) hlt
      refine st (fun k => by rw [letterboxlaw10_AddrBack.l2]) ?_
      simp only [e1]
      clear e1
      exact yes (by omega) (yes (by omega) (yes (by omega) (no (by simp) hn)))
    · refine st (fun k => by rw [letterboxlaw10_AddrBack.l2]) ?_
      exact no (by omega) (fin rfl)
theorem back_j4 (l : List S27) (hf : ∀ a ∈ l, fits a) (hl : l.length ≤ 20) (hz : (textL none l).length ≤ 10000) (hL : listL (textL none l) = (l, true)) : Ev (fun k => letterboxlaw10_AddrBack.j4 k l) true := by
  refine st (fun k => by rw [letterboxlaw10_AddrBack.j4]) ?_
  have hlo := list_ok (textL_byte l none) hz
  rw [hL] at hlo
  refine bnd (textok l hf (by omega)) (bnd hlo (yes rfl ?_))
  simp only
  rw [bne_self_eq_false]
  refine st (fun k => by rw [letterboxlaw10_AddrBack.j5]) ?_
  exact no (by decide) (back_l2 l (by omega) l.length 0 (by omega) (Nat.zero_le _))
theorem text_len : ∀ (l : List S27) (p : Option Int), (∀ a ∈ l, a.f1.size ≤ 60 ∧ a.f2.size ≤ 60 ∧ a.f3.size ≤ 60) → (textL p l).length ≤ l.length * 400
  | [], _, _ => by simp [textL]
  | a :: t, p, h => by
    have ha := h a List.mem_cons_self
    have ih := text_len t (some a.f0) (fun x hx => h x (List.mem_cons_of_mem _ hx))
    have h1 := adL_len a.f0 (bytesOf a.f1) (bytesOf a.f2) (bytesOf a.f3)
    rw [size_bytes, size_bytes, size_bytes] at h1
    have h2 : (if sepP p a.f0 = true then [44, 32] else ([] : List Int)).length ≤ 2 := by split <;> simp
    rw [textL, List.length_cons, Nat.succ_mul]
    simp only [List.length_append]
    unfold adT
    omega
section
variable (N L : List ByteArray) (g : Bool) (h : List Int) (hh : hostOk h) (hN : N.length ≤ 8) (hL : N.length ≤ L.length)
include hh hN hL
def zipB (N L : List ByteArray) (i : Nat) : List (ByteArray × ByteArray) := (N.zip L).take i
theorem back_end (hs : ∀ x ∈ N.zip L, x.1.size ≤ 50 ∧ x.2.size ≤ 50) : Ev (fun k => letterboxlaw10_AddrBack.l1 k N L g (strOfNums h) ((if g = true then [grpB] else []) ++ boxes h (zipB N L N.length)) (N.length : Int)) true := by
  have hzl : zipB N L N.length = N.zip L := by
    unfold zipB
    exact List.take_of_length_le (by rw [List.length_zip]; omega)
  have hbl : (boxes h (N.zip L)).length = N.length := by unfold boxes; rw [List.length_map, List.length_zip]; omega
  rw [hzl]
  refine st (fun k => by rw [letterboxlaw10_AddrBack.l1]) ?_
  refine no (by omega) ?_
  have hsz : ∀ a ∈ boxes h (N.zip L), a.f1.size ≤ 60 ∧ a.f2.size ≤ 60 ∧ a.f3.size ≤ 60 := by
    intro a ha
    obtain ⟨x, hx, rfl⟩ := List.mem_map.1 ha
    have := hs x hx
    have h3 := hh.2.1
    refine ⟨?_, ?_, ?_⟩
    · show x.1.size ≤ 60; omega
    · show x.2.size ≤ 60; omega
    · show (strOfNums h).size ≤ 60; rw [strOfNums_size]; exact h3
  have h27 : (⟨2, (⟨#[]⟩ : ByteArray), (⟨#[]⟩ : ByteArray), (⟨#[]⟩ : ByteArray)⟩ : S27) = grpE := rfl
  cases g with
  | true =>
    simp only [if_true]
    have hall : ∀ a ∈ [grpB] ++ boxes h (N.zip L) ++ [grpE], a.f1.size ≤ 60 ∧ a.f2.size ≤ 60 ∧ a.f3.size ≤ 60 := by
      intro a ha
      rcases List.mem_append.1 ha with ha | ha
      · rcases List.mem_append.1 ha with ha | ha
        · rw [List.mem_singleton.1 ha]; decide
        · exact hsz a ha
      · rw [List.mem_singleton.1 ha]; decide
    have htl := text_len _ none hall
    refine yes (by simp; omega) ?_
    rw [h27]
    refine back_j4 _ (fun a ha => ?_) (by simp; omega) (by simp at htl ⊢; omega) ?_
    · have := hall a ha; unfold fits; omega
    · have := list_group hh (N.zip L)
      simp only [List.cons_append, List.nil_append] at this ⊢
      exact this
  | false =>
    simp only [Bool.false_eq_true, if_false, List.nil_append]
    have htl := text_len _ none hsz
    refine back_j4 _ (fun a ha => ?_) (by omega) (by omega) (list_plain hh _)
    have := hsz a ha; unfold fits; omega
theorem back_l1 (m : Nat) : ∀ i : Nat, N.length - i ≤ m → i ≤ N.length → (∀ x ∈ zipB N L i, x.1.size ≤ 50 ∧ x.2.size ≤ 50) → Ev (fun k => letterboxlaw10_AddrBack.l1 k N L g (strOfNums h) ((if g = true then [grpB] else []) ++ boxes h (zipB N L i)) (i : Int)) true := by
  have fin_ : ∀ (hs : ∀ x ∈ zipB N L N.length, x.1.size ≤ 50 ∧ x.2.size ≤ 50), Ev (fun k => letterboxlaw10_AddrBack.l1 k N L g (strOfNums h) ((if g = true then [grpB] else []) ++ boxes h (zipB N L N.length)) (N.length : Int)) true := by
    intro hs
    have hzl : zipB N L N.length = N.zip L := by
      unfold zipB
      exact List.take_of_length_le (by rw [List.length_zip]; omega)
    rw [hzl] at hs
    exact back_end N L g h hh hN hL hs
  induction m with
  | zero =>
    intro i h1 h2 h3
    obtain rfl : i = N.length := by omega
    exact fin_ h3
  | succ m ih =>
    intro i h1 h2 h3
    rcases Nat.lt_or_ge i N.length with hlt | hge
    · have e1 := wr1 (i := i) (by omega)
      have hzi : zipB N L (i + 1) = zipB N L i ++ [(N[i], L[i]'(by omega))] := by
        unfold zipB
        rw [List.take_succ_eq_append_getElem (by rw [List.length_zip]; omega), List.getElem_zip]
      have hlen : ((if g = true then [grpB] else []) ++ boxes h (zipB N L i)).length ≤ 20 := by
        have : (zipB N L i).length ≤ N.length := by unfold zipB; rw [List.length_take, List.length_zip]; omega
        unfold boxes
        rw [List.length_append, List.length_map]
        split <;> simp <;> omega
      refine st (fun k => by rw [letterboxlaw10_AddrBack.l1]) ?_
      rw [rdSb N i hlt, rdSb L i (by omega)]
      simp only [e1]
      refine yes (by omega) (yes (by omega) ?_)
      by_cases c1 : ((N[i].size : Nat) : Int) > 50
      · exact yes c1 (fin rfl)
      · refine no c1 (yes (by omega) ?_)
        by_cases c2 : (((L[i]'(by omega)).size : Nat) : Int) > 50
        · exact yes c2 (fin rfl)
        · have hn := ih (i + 1) (by omega) hlt (fun x hx => by
            rw [hzi] at hx
            rcases List.mem_append.1 hx with hx | hx
            · exact h3 x hx
            · rw [List.mem_singleton.1 hx]; simp only; omega)
          refine no c2 (yes (by omega) ?_)
          rw [hzi] at hn
          unfold boxes at hn ⊢
          rw [List.map_append, ← List.append_assoc] at hn
          exact hn
    · obtain rfl : i = N.length := by omega
      exact fin_ h3
theorem back_go : Ev (fun k => letterboxlaw10_AddrBack.l1 k N L g (strOfNums h) (if g = true then [grpB] else []) 0) true := by
  have := back_l1 N L g h hh hN hL N.length 0 (Nat.le_refl _) (Nat.zero_le _) (fun x hx => by simp [zipB] at hx)
  have e : ((if g = true then [grpB] else []) ++ boxes h (zipB N L 0)) = (if g = true then [grpB] else []) := by
    show _ ++ [] = _
    rw [List.append_nil]
  rw [e] at this
  exact this
end
section
variable (N L : List ByteArray) (s : List Int) (g : Bool) (hb : byte s) (hs : s.length ≤ 50) (hN : N.length ≤ 8) (hL : N.length ≤ L.length)
include hb hs hN hL
theorem back_l0 (m : Nat) : ∀ (i : Nat) (h : List Int), s.length - i ≤ m → i ≤ s.length → h ≠ [] → h.length ≤ i + 1 → (∀ c ∈ h, (97 ≤ c ∧ c ≤ 122) ∨ c = 46 ∨ c = 45) → Ev (fun k => letterboxlaw10_AddrBack.l0 k N L (strOfNums s) g (strOfNums h) (i : Int)) true := by
  have stop : ∀ h : List Int, h ≠ [] → h.length ≤ 60 → (∀ c ∈ h, (97 ≤ c ∧ c ≤ 122) ∨ c = 46 ∨ c = 45) → Ev (fun k => letterboxlaw10_AddrBack.l0 k N L (strOfNums s) g (strOfNums h) (s.length : Int)) true := by
    intro h h1 h2 h3
    have go := back_go N L g h ⟨h1, h2, h3⟩ hN hL
    refine st (fun k => by rw [letterboxlaw10_AddrBack.l0]) ?_
    simp only [strOfNums_size]
    refine no (by omega) ?_
    cases g with
    | true =>
      refine yes rfl (yes (by decide) ?_)
      refine st (fun k => by rw [letterboxlaw10_AddrBack.j2]) ?_
      exact go
    | false =>
      refine no (by decide) ?_
      refine st (fun k => by rw [letterboxlaw10_AddrBack.j2]) ?_
      exact go
  induction m with
  | zero =>
    intro i h h1 h2 h3 h4 h5
    obtain rfl : i = s.length := by omega
    exact stop h h3 (by omega) h5
  | succ m ih =>
    intro i h h1 h2 h3 h4 h5
    rcases Nat.lt_or_ge i s.length with hlt | hge
    · have e1 := wr1 (i := i) (by omega)
      have hcut : (s.take (i + 1)).drop i = [rd s (i : Int)] := by
        rw [List.take_succ_eq_append_getElem hlt, List.drop_append_of_le_length (by rw [List.length_take]; omega), List.drop_eq_nil_of_le (by rw [List.length_take]; omega), rd_at s i hlt]; rfl
      have hA := ih (i + 1) (h ++ [rd s (i : Int)]) (by omega) hlt (by simp) (by simp; omega)
      have hB := ih (i + 1) h (by omega) hlt h3 (by omega) h5
      have hA' : ((97 ≤ rd s (i : Int) ∧ rd s (i : Int) ≤ 122) ∨ rd s (i : Int) = 46 ∨ rd s (i : Int) = 45) → Ev (fun k => letterboxlaw10_AddrBack.l0 k N L (strOfNums s) g (strOfNums (h ++ [rd s (i : Int)])) ((i + 1 : Nat) : Int)) true := by
        intro hc
        refine hA (fun c hcm => ?_)
        rcases List.mem_append.1 hcm with hcm | hcm
        · exact h5 c hcm
        · rw [List.mem_singleton.1 hcm]; exact hc
      refine st (fun k => by rw [letterboxlaw10_AddrBack.l0]) ?_
      simp only [strOfNums_size, str_bt _ hb, e1, str_extract, Int.toNat_natCast, hcut, str_append]
      clear e1
      refine yes (by omega) (yes (by omega) ?_)
      have dotdash : Ev (fun k => if rd s (i : Int) = 46 then (if (i : Int) ≤ ((i + 1 : Nat) : Int) then (if ((i + 1 : Nat) : Int) ≤ (s.length : Int) then (if h.length + [rd s (i : Int)].length ≤ 9223372036854775807 then letterboxlaw10_AddrBack.l0 k N L (strOfNums s) g (strOfNums (h ++ [rd s (i : Int)])) ((i + 1 : Nat) : Int) else none) else none) else none) else (if rd s (i : Int) = 45 then (if (i : Int) ≤ ((i + 1 : Nat) : Int) then (if ((i + 1 : Nat) : Int) ≤ (s.length : Int) then (if h.length + [rd s (i : Int)].length ≤ 9223372036854775807 then letterboxlaw10_AddrBack.l0 k N L (strOfNums s) g (strOfNums (h ++ [rd s (i : Int)])) ((i + 1 : Nat) : Int) else none) else none) else none) else letterboxlaw10_AddrBack.l0 k N L (strOfNums s) g (strOfNums h) ((i + 1 : Nat) : Int))) true := by
        by_cases c1 : rd s (i : Int) = 46
        · exact yes c1 (yes (by omega) (yes (by omega) (yes (by simp; omega) (hA' (.inr (.inl c1))))))
        · refine no c1 ?_
          by_cases c2 : rd s (i : Int) = 45
          · exact yes c2 (yes (by omega) (yes (by omega) (yes (by simp; omega) (hA' (.inr (.inr c2))))))
          · exact no c2 hB
      by_cases c1 : rd s (i : Int) ≥ 97
      · refine yes c1 ?_
        by_cases c2 : rd s (i : Int) ≤ 122
        · exact yes c2 (yes (by omega) (yes (by omega) (yes (by simp; omega) (hA' (.inl ⟨c1, c2⟩)))))
        · exact no c2 dotdash
      · exact no c1 dotdash
    · obtain rfl : i = s.length := by omega
      exact stop h h3 (by omega) h5
end
theorem AddrBack : letterboxlaw10_AddrBack.Pure := by
  intro N L a2 a3
  intros
  refine Ev.rounds (g := fun k => letterboxlaw10_AddrBack.f k N L a2 a3) ?_
  unfold letterboxlaw10_AddrBack.f
  refine bnd awakeK (yes rfl ?_)
  have hT : Ev (fun k => letterboxlaw10_AddrBack.j0 k N L a2 a3 true) true := st (fun k => by rw [letterboxlaw10_AddrBack.j0]) (yes rfl (fin rfl))
  by_cases c1 : (N.length : Int) > 8
  · exact yes c1 hT
  · refine no c1 ?_
    by_cases c2 : (L.length : Int) < (N.length : Int)
    · exact yes c2 hT
    · refine no c2 ?_
      by_cases c3 : (a2.size : Int) > 50
      · rw [decide_eq_true c3]; exact hT
      · rw [decide_eq_false c3]
        refine st (fun k => by rw [letterboxlaw10_AddrBack.j0]) ?_
        have := back_l0 N L (bytesOf a2) a3 (byte_bytes a2) (by rw [size_bytes]; omega) (by omega) (by omega) (bytesOf a2).length 0 [104] (Nat.le_refl _) (Nat.zero_le _) (by simp) (by simp) (by simp)
        rw [str_bytes] at this
        exact no (by decide) this
end Go.Proofs.Ytcjepgofcojeoaa.Pure
