/- The plain law: whatever the input, true. -/
import Derived.Test.YtgneobkmmmpbiaaGe
import Derived.Test.YtgneobkmmmpbiaaFn
namespace Go.Proofs.Ytgneobkmmmpbiaa
open Go Go.Proofs Go.Eng
set_option linter.unusedVariables false
set_option linter.unusedSimpArgs false

theorem numsN_le (F : List GV) (b : Nat → Bool) (n : Nat) : (numsN F b n).length ≤ n := by
  unfold numsN
  rw [List.length_map]
  have := List.length_filter_le b (List.range n)
  rw [List.length_range] at this
  exact this
theorem isin_of {F : List GV} {last : Int} (h : goodF F last) (b : Nat → Bool) {i : Nat} (hi : i < F.length) : isinB (numsN F b F.length) (num (nth F i)) = b i := by
  rw [Bool.eq_iff_iff]
  unfold isinB numsN
  rw [List.any_map, List.any_eq_true]
  constructor
  · rintro ⟨j, hj, he⟩
    rw [List.mem_filter, List.mem_range] at hj
    have he : num (nth F j) = num (nth F i) := by simpa [num] using he
    rw [← h.inj hj.1 hi he]; exact hj.2
  · intro hb
    exact ⟨i, List.mem_filter.2 ⟨List.mem_range.2 hi, hb⟩, by simp [num]⟩
theorem isin_run' {F : List GV} {last : Int} (h : goodF F last) (hl : F.length ≤ 22) (b : Nat → Bool) {i : Nat} (hi : i < F.length) (z : Bool) (sp : List GV) :
    isin_s [.list 0 z (numsN F b F.length) sp, cellG true (nth F i) 0] = some [.bool (b i)] := by
  have hle := numsN_le F b F.length
  simp only [isin_s, asList_list]
  rw [Nat.ble_eq_true_of_le (by unfold BIG; omega)]
  have := isin_of h b hi
  unfold num at this
  rw [this]; rfl
theorem prefix_run {g : GV} (h : okField g) (hd : (cellG true g 3).asInt > 0) : ∃ s : ByteArray, prefix_s [cellG true g 4, cellG true g 3, cellG true g 5] = some [.str s, .int 0] ∧ (s.size : Int) = preSize g := by
  rcases h.len with h' | h'
  · omega
  · refine ⟨bytesStr (prefixL (cellG true g 4).asInt (cellG true g 3).asInt (cellG true g 5).asInt), ?_, ?_⟩
    · simp only [prefix_s]
      rw [wide_pos h', h']
      rfl
    · unfold preSize
      rw [bytesStr_size, wide_pos h', prefixL_len _ _ _ 0]
      rfl

theorem law_loop {F : List GV} {last : Int} (h : goodF F last) (hl : F.length ≤ 22) {c : Nat → Nat} (hc : ∀ i, c i = 0 ∨ c i = 1 ∨ c i = 2) (x0 x1 x2 x3 x5 x6 m : GV) :
    law_l0 1000 [.agg [x0, x1, x2, x3, .list 2 true F [], x5, x6], .int 0, .int 0, m, .list 0 true (pickN F c F.length 1) [], .list 0 true (pickN F c F.length 2) [], .list 2 true [] []] =
      some (1, [.agg [x0, x1, x2, x3, .list 2 true F [], x5, x6], .int (sumN F (fun i => !Nat.beq (c i) 0) F.length), m, .list 0 true (pickN F c F.length 1) [], .list 0 true (pickN F c F.length 2) [], .list 2 true (numsN F (fun i => !Nat.beq (c i) 0) F.length) []]) := by
  let b : Nat → Bool := fun i => !Nat.beq (c i) 0
  have key := loop_done (step := (law_e0 1000).step) (S := fun i => [GV.agg [x0, x1, x2, x3, .list 2 true F [], x5, x6], .int (sumN F b i), .int (i : Nat), m, .list 0 true (pickN F c F.length 1) [], .list 0 true (pickN F c F.length 2) [], .list 2 true (numsN F b i) []]) (n := F.length) (q := 1)
    (zs := [.agg [x0, x1, x2, x3, .list 2 true F [], x5, x6], .int (sumN F b F.length), m, .list 0 true (pickN F c F.length 1) [], .list 0 true (pickN F c F.length 2) [], .list 2 true (numsN F b F.length) []]) (fun i hi kn kx => by
      rw [law_t0]
      unfold law_b0
      refine (cT (show ((i : Nat) : Int) < ((F.length : Nat) : Int) by omega) _ _).trans ?_
      refine (bT (inRange_nat hi) _ _).trans ?_
      have hn : nth (cellG true (GV.agg [x0, x1, x2, x3, .list 2 true F [], x5, x6]) 4).all (GV.int (i : Int)).asInt.toNat = nth F i := nth_all (g := .list 2 true F []) hi
      rw [hn]
      have q1 : isin_s [GV.list 0 (GV.list 0 true (pickN F c F.length 1) []).asZ (GV.list 0 true (pickN F c F.length 1) []).asList (GV.list 0 true (pickN F c F.length 1) []).asSp, cellG true (nth F i) 0] = some [.bool (Nat.beq (c i) 1)] := isin_run' h hl (fun i => Nat.beq (c i) 1) hi _ _
      have q2 : isin_s [GV.list 0 (GV.list 0 true (pickN F c F.length 2) []).asZ (GV.list 0 true (pickN F c F.length 2) []).asList (GV.list 0 true (pickN F c F.length 2) []).asSp, cellG true (nth F i) 0] = some [.bool (Nat.beq (c i) 2)] := isin_run' h hl (fun i => Nat.beq (c i) 2) hi _ _
      rw [q1, q2]
      simp only [Option.bind_some, nth_zero, nth_succ, asBool_bool, asInt_int, asZ_list, asList_list, asSp_list, Bool.and_true, cellG_agg]
      rw [w64 (n := (i : Int) + 1) (by omega) (by omega), sumN_succ, numsN_succ]
      have hb0 : (bif !Nat.beq (c i) 1 then !Nat.beq (c i) 2 else false) = !b i := by
        show _ = !(!Nat.beq (c i) 0)
        rcases hc i with h' | h' | h' <;> rw [h'] <;> rfl
      rw [hb0]
      have hok := h.at hi
      have hs := sumN_range h b i (by omega)
      have hf := fs_range hok
      cases hb : b i with
      | false =>
        simp only [Bool.not_false, cond_true, cond_false, List.append_nil, Int.add_zero]
        rfl
      | true =>
        simp only [Bool.not_true, cond_false, cond_true]
        have hle := numsN_le F b i
        refine (bT (lim3 (by unfold LIM; omega)) _ _).trans ?_
        by_cases hd : (cellG true (nth F i) 3).asInt > 0
        · refine (cT hd _ _).trans ?_
          obtain ⟨s, p1, p2⟩ := prefix_run hok hd
          rw [p1]
          simp only [Option.bind_some, nth_zero, nth_succ, asStr_str, asInt_int]
          have hp := pre_range hok
          have hw := widthZ_range (e := (cellG true (nth F i) 2).asInt) hok.size.1 hok.size.2
          rw [p2, w64 (n := sumN F b i + preSize (nth F i)) (by omega) (by omega), w64 (by omega) (by omega)]
          have : sumN F b i + preSize (nth F i) + widthZ (cellG true (nth F i) 2).asInt (cellG true (nth F i) 5).asInt = sumN F b i + fs (nth F i) := by unfold fs; omega
          rw [this]
          rfl
        · refine (cF hd _ _).trans ?_
          have hz : preSize (nth F i) = 0 := by
            rcases hok.len with h' | h'
            · unfold preSize; rw [h', wide_zero]; rfl
            · have := (prefixOk_d h').2.1; omega
          have hw := widthZ_range (e := (cellG true (nth F i) 2).asInt) hok.size.1 hok.size.2
          rw [w64 (by omega) (by omega)]
          have : sumN F b i + widthZ (cellG true (nth F i) 2).asInt (cellG true (nth F i) 5).asInt = sumN F b i + fs (nth F i) := by unfold fs; omega
          rw [this]
          rfl) (fun kn kx => by
      rw [law_t0]
      unfold law_b0
      exact cF (show ¬ ((F.length : Nat) : Int) < ((F.length : Nat) : Int) by omega) _ _) (N := 1000) (by omega)
  exact key

theorem right_of {x y : Nat} (hx : x < 2 ^ 63) (hy : y < 2 ^ 63) : rightB (x : Int) (y : Int) = true := by
  unfold rightB
  rw [bitI_or (by omega) (by omega)]
  have h63 : (9223372036854775808 : Int) = ((2 ^ 63 : Nat) : Int) := by decide
  have ho := Nat.or_lt_two_pow hx hy
  rw [h63, bitI_and (by omega) (by decide)]
  have hz : (x ||| y) &&& 2 ^ 63 = 0 := by
    apply Nat.eq_of_testBit_eq
    intro i
    rw [Nat.testBit_and, Nat.zero_testBit]
    by_cases hi : i = 63
    · rw [hi, Nat.testBit_lt_two_pow ho]; rfl
    · rw [Nat.testBit_two_pow_of_ne (fun h => hi h.symm)]; cases (x ||| y).testBit i <;> rfl
  rw [hz]; rfl
theorem encode_size (e : Int) (a b : Int) : (encodeS e a b).size = bif b == 0 then (bif formZ e == 1 then 8 else 16) else (bif formZ e == 1 then 8 else 16) + (bif formZ e == 1 then 8 else 16) := by
  unfold encodeS
  cases b == 0
  · simp only [cond_false]; rw [ByteArray.size_append, bytesStr_size, bytesStr_size, writtenL_len, writtenL_len]
  · simp only [cond_true]; rw [bytesStr_size, writtenL_len]

theorem pack_size {me m : GV} (hme : me.asInt = 1 ∨ me.asInt = 2 ∨ me.asInt = 4) (hs : m.asStr.size = 4) (hd : digitsS m.asStr) : ∃ s : ByteArray, pack_s [me, m] = some [.str s, .int 0] ∧ (s.size : Int) = widthZ me.asInt 4 := by
  simp only [pack_s, packHalves_s]
  rw [digits_half hd, digits_wrt hd, hs]
  rcases hme with h | h | h <;> rw [h]
  · exact ⟨_, rfl, by rw [bytesStr_size, wrtL_len, hs]; rfl⟩
  · exact ⟨_, rfl, by rw [bytesStr_size, packH_len, hs]; rfl⟩
  · exact ⟨_, rfl, by rw [bytesStr_size, wrtL_len, hs]; rfl⟩

theorem strEq_refl (s : ByteArray) : strEq s s = true := by unfold strEq; exact beq_self_eq_true _
theorem nth_get {l : List GV} {k : Nat} (hk : k < l.length) : nth l k = l[k] := by unfold nth; simp [List.getD_eq_getElem?_getD, List.getElem?_eq_getElem hk]
theorem goodR.find {F ty R : List GV} {last : Int} (h : goodR F ty R last) {w : Nat} (hw : w < R.length) : ruleF R (mti (nth R w)) = true ∧ ruleI R (mti (nth R w)) = w := by
  have hx : ruleI R (mti (nth R w)) = w := by
    unfold ruleI
    rw [List.findIdx_eq hw]
    constructor
    · rw [← nth_get hw]; exact strEq_refl _
    · intro j hj
      have := List.pairwise_iff_getElem.1 h.up j w (by omega) hw hj
      rw [← nth_get hw] at this
      exact this
  refine ⟨?_, hx⟩
  unfold ruleF
  rw [hx]; exact dT hw
theorem ty_at {ty : List GV} (h : tyOk ty = true) {t : Nat} (ht : t < 21) : (nth ty t).asStr.size = 4 ∧ digitsS (nth ty t).asStr ∧ strEq (nth ty t).asStr resp = false := by
  unfold tyOk at h
  rw [Bool.and_eq_true] at h
  have := List.all_eq_true.1 h.2 t (List.mem_range.2 ht)
  simp only [Bool.and_eq_true, List.all_eq_true, List.mem_range, decide_eq_true_eq] at this
  obtain ⟨h1, h2, h3, h4⟩ := this
  have h1 := Nat.eq_of_beq_eq_true h1
  exact ⟨h1, fun i hi => h2 i (by omega), by simpa using h3⟩
theorem goodR.resp {F ty R : List GV} {last : Int} (hty : tyOk ty = true) (h : goodR F ty R last) : ruleF R resp = false := by
  have hx : ruleI R Ytgneobkmmmpbiaa.resp = R.length := by
    unfold ruleI
    rw [List.findIdx_eq_length]
    intro r hr
    obtain ⟨c, t, k1, k2, k3, k4⟩ := (h.ok r hr).ex
    rw [k4]
    exact (ty_at hty k2).2.2
  unfold ruleF
  rw [hx]; exact dF (by omega)
theorem most_ok_all {F : List GV} {last : Int} (h : goodF F last) (ks : List GV) : mostOk F ks = true := by
  unfold mostOk
  rw [List.all_eq_true]
  intro k _
  cases hf : specF F k.asInt with
  | false => rfl
  | true =>
    have hlt : specI F k.asInt < F.length := by unfold specF at hf; simpa using hf
    have : specV F k.asInt = nth F (specI F k.asInt) := by unfold specV; rw [hf]; rfl
    rw [this, preOk_ok (h.at hlt)]; rfl
theorem numsN_fields {F : List GV} {last : Int} (h : goodF F last) (b : Nat → Bool) {n : Nat} (hn : n ≤ F.length) : fieldsB (numsN F b n) = true := by
  unfold fieldsB numsN
  rw [List.all_eq_true]
  intro g hg
  obtain ⟨i, hi, rfl⟩ := List.mem_map.1 hg
  rw [List.mem_filter, List.mem_range] at hi
  exact (h.at (show i < F.length by omega)).num

theorem law_true {a0 a1 a2 a3 : GV} (h0 : ∀ i, i < a0.asList.length → ∀ j, j < 5 → R64 (cellG true (nth a0.asList i) j).asInt) (h1 : ∀ i, i < a1.asList.length → R64 (cellG true (nth a1.asList i) 0).asInt) (h2 : R64 a2.asInt) (h3 : R64 a3.asInt) :
    law_s [a0, a1, a2, a3] = some [.bool true] := by
  show law_f 1000 a0 a1 a2 a3 = _
  unfold law_f
  obtain ⟨o, hmade, d, rfl, hd⟩ := made_good h0 h1 h2
  obtain ⟨nm, v, me, pe, mac, F, R, ty, last, last2, rfl, hme, hpe, hF, hFl, hty, hR, hRne, hRl⟩ := hd.ex
  rw [hmade]
  simp only [Option.bind_some, nth_zero, nth_succ, cellG_agg, asZ_list, asList_list, asSp_list]
  have hRpos : 0 < R.length := List.length_pos_iff.2 hRne
  have hp := pickZ_range h3 (show (0 : Int) < (R.length : Nat) by omega)
  rw [pick_some (by simpa using hRpos)]
  simp only [Option.bind_some, nth_zero, asInt_int]
  generalize pickZ a3.asInt (R.length : Nat) = w at hp ⊢
  obtain ⟨w, rfl⟩ : ∃ k : Nat, w = (k : Int) := ⟨w.toNat, by omega⟩
  have hw : w < R.length := by omega
  rw [inRange_nat hw]
  have hn : nth (GV.list 2 true R []).all w = nth R w := nth_all (g := .list 2 true R []) hw
  obtain ⟨c, t, k1, k2, k3, k4⟩ := (hR.ok _ (nth_mem hw)).ex
  obtain ⟨f1, f2⟩ := hR.find hw
  simp only [cond_true, Int.toNat_natCast, hn]
  obtain ⟨t1, t2, t3⟩ := ty_at hty k2
  have hm : mti (nth R w) = (nth ty t).asStr := by rw [k4]; rfl
  rw [hm] at f1 f2
  generalize nth ty t = m at *
  have hks : ruleKs (nth R w) = numsN F (fun i => Nat.beq (c i) 1) F.length ++ numsN F (fun i => Nat.beq (c i) 2) F.length := by rw [k4]; rfl
  have hrok : ruleOk (nth R w) = true := by
    have l1 := pickN_le F c F.length 1
    have l2 := pickN_le F c F.length 2
    rw [k4]
    unfold ruleOk plain
    simp only [cellG_agg, nth_zero, nth_succ, asZ_list, asList_list]
    rw [Nat.ble_eq_true_of_le (by omega), Nat.ble_eq_true_of_le (by omega)]; rfl
  have hrw : nth R w = .agg [m, .list 0 true (pickN F c F.length 1) [], .list 0 true (pickN F c F.length 2) []] := k4
  have hmost : most_s [.agg [nm, v, me, pe, .list 2 true F [], .list 2 true R [], mac], m] = some [.int (mostZ me.asInt pe.asInt F (ruleKs (nth R w))), .int 0] := by
    simp only [most_s, cellG_agg, nth_zero, nth_succ, asList_list]
    rw [Nat.ble_eq_true_of_le (by omega), Nat.ble_eq_true_of_le (by omega), f1, f2, hrok, most_ok_all hF]
    have l1 := numsN_le F (fun i => Nat.beq (c i) 1) F.length
    have l2 := numsN_le F (fun i => Nat.beq (c i) 2) F.length
    rw [hks, Nat.ble_eq_true_of_le (by rw [List.length_append]; omega)]
    rfl
  have hnone : most_s [.agg [nm, v, me, pe, .list 2 true F [], .list 2 true R [], mac], .str (ByteArray.mk #[48, 52, 48, 48])] = some [.int 0, .int 110] := by
    simp only [most_s, cellG_agg, nth_zero, nth_succ, asList_list, asStr_str]
    have := hR.resp hty
    unfold resp at this
    rw [Nat.ble_eq_true_of_le (by omega), Nat.ble_eq_true_of_le (by omega), this]
    rfl
  rw [hrw]
  simp only [cellG_agg, nth_zero, nth_succ, asZ_list, asList_list, asSp_list]
  rw [law_loop hF hFl k3]
  simp only [Option.bind_some, nth_zero, nth_succ, asZ_list, asList_list, asSp_list, asInt_int, cellG_agg]
  generalize hb : (fun i => !Nat.beq (c i) 0) = b
  have hmap : mapOf_s [.list 2 true (numsN F b F.length) []] = some [.agg [.int (mapA (numsN F b F.length) : Nat), .int (mapB (numsN F b F.length) : Nat)], .int 0] := by
    have hle := numsN_le F b F.length
    simp only [mapOf_s, asList_list]
    rw [Nat.ble_eq_true_of_le (by omega), numsN_fields hF b (Nat.le_refl _)]
    rfl
  rw [hmap]
  simp only [Option.bind_some, nth_zero, nth_succ, asInt_int, cellG_agg]
  obtain ⟨ma, mb⟩ := map_lt _ (numsN_fields hF b (Nat.le_refl _))
  have hbig := map_big hF b F.length (Nat.le_refl _)
  generalize mapA (numsN F b F.length) = A at *
  generalize mapB (numsN F b F.length) = B at *
  have henc : encode_s [pe, .agg [.int (A : Nat), .int (B : Nat)]] = some [.str (encodeS pe.asInt A B), .int 0] := by
    simp only [encode_s, cellG_agg, nth_zero, nth_succ, asInt_int]
    rw [right_of ma mb]
    rcases hpe with h | h | h <;> rw [h] <;> rfl
  obtain ⟨s, hpk, hpks⟩ := pack_size hme t1 t2
  rw [henc, hpk, hmost, hnone]
  simp only [Option.bind_some, nth_zero, nth_succ, asInt_int, asStr_str]
  have hW : 0 ≤ widthZ me.asInt 4 ∧ widthZ me.asInt 4 ≤ 4 := by rcases hme with h | h | h <;> rw [h] <;> decide
  have hH : 0 ≤ halfZ2 pe.asInt ∧ halfZ2 pe.asInt ≤ 16 := by rcases hpe with h | h | h <;> rw [h] <;> decide
  have hHe : ((bif formZ pe.asInt == 1 then 8 else 16 : Nat) : Int) = halfZ2 pe.asInt := by rcases hpe with h | h | h <;> rw [h] <;> rfl
  have sb := sumN_range hF b F.length (Nat.le_refl _)
  have s1 := sumN_range hF (fun i => Nat.beq (c i) 1) F.length (Nat.le_refl _)
  obtain ⟨u1, u2⟩ := sum_two (F := F) k3 F.length
  rw [hb] at u1 u2
  have s2 := sumN_range hF (fun i => Nat.beq (c i) 2) F.length (Nat.le_refl _)
  have hmr : mostR me.asInt pe.asInt F (ruleKs (nth R w)) = (widthZ me.asInt 4 + halfZ2 pe.asInt + sumN F b F.length, bigN F b F.length) := by
    unfold mostR
    rw [hks, List.foldl_append, w64 (by omega) (by omega), most_sum hF hFl (fun i => Nat.beq (c i) 1) (x := widthZ me.asInt 4 + halfZ2 pe.asInt) (by omega) (by omega) false _ (Nat.le_refl _), most_sum hF hFl (fun i => Nat.beq (c i) 2) (x := widthZ me.asInt 4 + halfZ2 pe.asInt + sumN F (fun i => Nat.beq (c i) 1) F.length) (by omega) (by omega) _ _ (Nat.le_refl _), ← u1, ← u2]
    refine Prod.ext ?_ ?_
    · show _ + _ + _ = _; omega
    · rfl
  unfold mostZ
  rw [hmr, encode_size, hpks]
  have hB : ((B : Int) == 0) = !bigN F b F.length := by
    rw [← hbig, Bool.eq_iff_iff, Nat.beq_eq, beq_iff_eq]; omega
  rw [hB]
  cases bigN F b F.length with
  | false =>
    simp only [Bool.not_false, cond_true, cond_false]
    rw [hHe, w64 (n := widthZ me.asInt 4 + halfZ2 pe.asInt) (by omega) (by omega), w64 (by omega) (by omega)]
    simp only [beq_self_eq_true, cond_true]
    rfl
  | true =>
    simp only [Bool.not_true, cond_true, cond_false]
    rw [Int.natCast_add, hHe, w64 (n := widthZ me.asInt 4 + halfZ2 pe.asInt + sumN F b F.length + halfZ2 pe.asInt) (by omega) (by omega), w64 (n := widthZ me.asInt 4 + (halfZ2 pe.asInt + halfZ2 pe.asInt)) (by omega) (by omega), w64 (by omega) (by omega)]
    have : widthZ me.asInt 4 + halfZ2 pe.asInt + sumN F b F.length + halfZ2 pe.asInt = widthZ me.asInt 4 + (halfZ2 pe.asInt + halfZ2 pe.asInt) + sumN F b F.length := by omega
    rw [this]
    simp only [beq_self_eq_true, cond_true]
    rfl

end Go.Proofs.Ytgneobkmmmpbiaa
