/- Numbers as texts of digits, fractions, values and the functions of fmath: contracts of the program's functions, joined from smaller texts. Conditions stand at each theorem. -/
import Derived.Test.YtnlaecjniellpaaGreatDoorSybA
import Derived.Test.YtnlaecjniellpaaGreatDoorNumB
import Derived.Test.YtnlaecjniellpaaGreatDoorNumC
import Derived.Test.YtnlaecjniellpaaGreatDoorSyrA
import Derived.Lib.SlicesS
import Derived.Test.YtnlaecjniellpaaGreatDoorNumG
import Derived.Lib.OthersKept
import Derived.Deep.RegionLaw

/- package fmath: Roman numbers: roman writes them, ROMAN, ARABIC. Conditions: numbers below 4000; the tables lie as they are laid. -/
set_option linter.unusedVariables false
set_option linter.unusedSimpArgs false
namespace Go.Proofs.YtnlaecjniellpaaGreatDoor.Num
open Go.RowKit Go.Lib

theorem repeat_times (s : List UInt8) (n : Nat) : Lib.repeatL s n = timesL s n := by
  induction n with
  | zero => rfl
  | succ n ih => rw [Lib.repeatL, ih]; rfl
def romV (i : Nat) : Nat := (romTU.getD i (0, [])).1
def romS (i : Nat) : ByteArray := ⟨(romTU.getD i (0, [])).2.toArray⟩
theorem romV_pos : ∀ i : Fin 13, 1 ≤ romV i.1 ∧ romV i.1 ≤ 1000 := by decide
theorem thirteen (i : Nat) (hi : i < 13) : i = 0 ∨ i = 1 ∨ i = 2 ∨ i = 3 ∨ i = 4 ∨ i = 5 ∨ i = 6 ∨ i = 7 ∨ i = 8 ∨ i = 9 ∨ i = 10 ∨ i = 11 ∨ i = 12 := by omega
theorem rom_val (i : Nat) (hi : i < 13) (w : World) : (Instr.index 210 (.agg #[.int .i64 1000, .int .i64 900, .int .i64 500, .int .i64 400, .int .i64 100, .int .i64 90, .int .i64 50, .int .i64 40, .int .i64 10, .int .i64 9, .int .i64 5, .int .i64 4, .int .i64 1]) (.int .i64 (i : Int))).run Tryz.prog w = .ok (.int .i64 (romV i : Int)) w := by
  rcases thirteen i hi with rfl | rfl | rfl | rfl | rfl | rfl | rfl | rfl | rfl | rfl | rfl | rfl | rfl <;> kernel_rfl
theorem rom_str (i : Nat) (hi : i < 13) (w : World) : (Instr.index 211 (.agg #[.string { data := #[77] }, .string { data := #[67, 77] }, .string { data := #[68] }, .string { data := #[67, 68] }, .string { data := #[67] }, .string { data := #[88, 67] }, .string { data := #[76] }, .string { data := #[88, 76] }, .string { data := #[88] }, .string { data := #[73, 88] }, .string { data := #[86] }, .string { data := #[73, 86] }, .string { data := #[73] }]) (.int .i64 (i : Int))).run Tryz.prog w = .ok (.string (romS i)) w := by
  rcases thirteen i hi with rfl | rfl | rfl | rfl | rfl | rfl | rfl | rfl | rfl | rfl | rfl | rfl | rfl <;> kernel_rfl
theorem romTo_len (i n : Nat) (hn : n < 4000) : (romTo i n).length ≤ 15 := by
  have h := (roman_plain ⟨n, hn⟩).1
  have e : romanU n = romTo i n ++ romL (romTU.drop i) (romLeft (romTU.take i) n) := by
    unfold romanU romTo
    conv => lhs; rw [← List.take_append_drop i romTU]
    rw [romL_append]
  simp only at h
  rw [e, List.length_append] at h
  omega
/-- ROMAN's builder between two rounds -/
structure RomI (w : World) (n i : Nat) (W : World) : Prop where
  bld : Lib.IsBuilderF 121 5 w.heap.size w.heap.size (Lib.byteCells (romTo i n)) W
  low : Below w.heap.size w W
  big : w.heap.size < W.heap.size
theorem RomI.start (w : World) (n : Nat) : RomI w n 0 (w.alloc (.cells #[.pointer none, .slice none 0 0] 121)) :=
  ⟨Lib.IsBuilderF.of (Lib.fresh_isBuilder 121 5 w), (Below.refl _ _).alloc (Nat.le_refl _) _, by simp⟩
theorem RomI.below {w W W' : World} {n i : Nat} (h : RomI w n i W) (hb : Below W.heap.size W W') : RomI w n i W' :=
  ⟨builder_kept h.bld (only_of_below hb none) (fun r e => by cases e), h.low.trans (hb.mono (Nat.le_of_lt h.big)), Nat.lt_of_lt_of_le h.big hb.size⟩
set_option maxHeartbeats 4000000 in
set_option maxRecDepth 100000 in
theorem roman_any (n : Nat) (hn : n < 4000) (w : World) : Calls Tryz.prog 188 #[.int .i64 (n : Int)] w fun e w' => e = .returned (.string (romB n)) ∧ Below w.heap.size w w' := by
  have H0 := Lib.hid (RomI.start w n)
  have HN := Lib.hid hn
  go_enter Tryz.func188, Tryz.ntmps188
  go_wp2_with fail
  go_loopg [0, 8] 13 (fun gh v0 v8 wx => ∃ i x : Nat, v0 = .int .i64 (x : Int) ∧ v8 = .int .i64 (i : Int) ∧ i + gh = 13 ∧ romLeft (romTU.take i) n = x ∧ RomI w n i wx)
  case atStart => exact ⟨0, n, rfl, rfl, rfl, rfl, H0.out⟩
  case round =>
    obtain ⟨i, y, rfl, rfl, hg, hy, hI⟩ := hrel
    have HI := Lib.hid hI
    clear hI H0
    by_cases hi : i < 13
    · have hd : decide ((i : Int) < 13) = true := decide_eq_true (by omega)
      have hy2 : y < 4000 := by
        have := romLeft_le (romTU.take i) n
        have := HN.out
        omega
      have hst := romTo_step i n hi
      have hls := romLeft_step i n hi
      have hv := fun W => rom_val i hi W
      have hs := fun W => rom_str i hi W
      have hp := romV_pos ⟨i, hi⟩
      have e1 : (romTU[i]'hi).1 = romV i := by rcases thirteen i hi with rfl | rfl | rfl | rfl | rfl | rfl | rfl | rfl | rfl | rfl | rfl | rfl | rfl <;> rfl
      have e2 : (romTU[i]'hi).2 = (romS i).data.toList := by rcases thirteen i hi with rfl | rfl | rfl | rfl | rfl | rfl | rfl | rfl | rfl | rfl | rfl | rfl | rfl <;> rfl
      rw [e1, hy] at hls
      rw [e1, e2, hy] at hst
      simp only at hp
      obtain ⟨v, hvv⟩ : ∃ v, romV i = v := ⟨_, rfl⟩
      obtain ⟨S, hS⟩ : ∃ S, romS i = S := ⟨_, rfl⟩
      rw [hvv] at hls hst hp hv
      rw [hS] at hs hst
      obtain ⟨p1, p2⟩ := hp
      obtain ⟨c, hc⟩ : ∃ c, y / v = c := ⟨_, rfl⟩
      obtain ⟨z, hz⟩ : ∃ z, y % v = z := ⟨_, rfl⟩
      have hq : ((y : Int) / (v : Int)) = (c : Int) := by rw [← hc]; rfl
      have hr : ((y : Int) % (v : Int)) = (z : Int) := by rw [← hz]; rfl
      have hcy : c ≤ y := by rw [← hc]; exact Nat.div_le_self _ _
      rw [hz] at hls
      rw [hc] at hst
      have hl1 := romTo_len (i + 1) n HN.out
      have hl0 := romTo_len i n HN.out
      rw [hst, List.length_append] at hl1
      obtain ⟨Z, hZ⟩ : ∃ Z : ByteArray, (⟨(timesL S.data.toList c).toArray⟩ : ByteArray) = Z := ⟨_, rfl⟩
      have hZl : timesL S.data.toList c = Z.data.toList := by rw [← hZ]
      rw [hZl] at hst hl1
      have hZs : Z.size = Z.data.toList.length := rfl
      have TR := Lib.hid (fun W hl => Tryz.strings_Repeat S c W (by omega) hl)
      have hSc : S.size * c ≤ 140737488355328 := by
        have e3 := Lib.repeatL_length S.data.toList c
        rw [repeat_times, hZl] at e3
        have e4 : S.size = S.data.toList.length := rfl
        rw [e4, Nat.mul_comm, ← e3]
        omega
      rw [repeat_times, hZ] at TR
      have HSC := Lib.hid hSc
      have HST := Lib.hid hst
      have HLS := Lib.hid hls
      have HL1 := Lib.hid hl1
      have HZS := Lib.hid hZs
      clear hSc hst hls hl1 hl0 hZ hZl hZs hc hz hvv hS e1 e2 hy
      go_wp2_with fail
      refine (TR.out _ HSC.out).mono ?_
      rintro e w1 ⟨rfl, hb⟩
      have HI1 := Lib.hid (HI.out.below hb)
      clear hb
      go_wp2_with fail
      refine (Tryz.Builder_WriteString_k w.heap.size w.heap.size (Lib.byteCells (romTo i n)) Z _ HI1.out.bld (by rw [Lib.byteCells_length, HZS.out]; have := HL1.out; omega) (Nat.le_of_lt HI1.out.big)).mono ?_
      rintro e w2 ⟨rfl, h1, h2, _⟩
      have HI2 := Lib.hid (show RomI w n (i + 1) w2 from ⟨by
        rw [HST.out]
        have e5 : Lib.byteCells (romTo i n ++ Z.data.toList) = Lib.byteCells (romTo i n) ++ Lib.strCells Z := by simp [Lib.byteCells, Lib.strCells]
        rw [e5]
        exact .inr h1, HI1.out.low.trans h2, Nat.lt_of_lt_of_le HI1.out.big h2.size⟩)
      clear h1 h2
      go_wp2
      go_roundg (gk - 1)
      case measure => omega
      case rel => exact ⟨i + 1, z, by rw [hr], by go_num, by omega, HLS.out, HI2.out⟩
    · have hd : decide ((i : Int) < 13) = false := decide_eq_false (by omega)
      obtain rfl : i = 13 := by omega
      have hb := HI.out.bld
      rw [romTo_end] at hb
      have TS := Lib.hid (Tryz.Builder_String_any_k w.heap.size w.heap.size (romanU n) wr hb (Nat.le_of_lt HI.out.big))
      clear hb
      go_wp2_with fail
      refine TS.out.mono ?_
      rintro e w1 ⟨rfl, _, h2, _⟩
      have HB := Lib.hid (HI.out.low.trans h2)
      clear h2
      go_wp2
      go_ret
      exact ⟨rfl, HB.out⟩

set_option maxHeartbeats 4000000 in
set_option maxRecDepth 100000 in
theorem fn_roman (b g C n : Nat) (w : World) (ha : ArgsAt w b (some ⟨g, 0, none⟩) 1 C 0) (hne : g ≠ b) (hc0 : NumCells w g (0 + 0 * 9) ((n : Int) : Rat)) (hn : n < 4000) (hE : Env w) (hP : Past b) :
    Calls Tryz.prog 187 #[.pointer (some ⟨b, 0, none⟩)] w fun e w' => e = .returned (tVal (romB n)).agg ∧ w.grownBy w' (some b) := by
  have hb : Below w.heap.size w (w.alloc (.cells #[.int .i64 0, .string { data := #[] }, .string { data := #[] }, .string { data := #[] }, .bool false, .int .i64 0, .int .i64 0, .int .i64 0, .slice none 0 0] 27)) := (Below.refl _ _).alloc (Nat.le_refl _) _
  have HR := Lib.hid (heap_alloc_new w (.cells #[.int .i64 0, .string { data := #[] }, .string { data := #[] }, .string { data := #[] }, .bool false, .int .i64 0, .int .i64 0, .int .i64 0, .slice none 0 0] 27))
  have HG := Lib.hid (kept_below (b := b) hb)
  have HE := Lib.hid (hE.below hb)
  have HA := Lib.hid (show ArgsAt _ b (some ⟨g, 0, none⟩) 1 C 0 from keep_block ha hb)
  have HC0 := Lib.hid (hc0.below hb)
  have NE := Lib.hid (show w.heap.size ≠ b from Nat.ne_of_gt (heap_lt ha))
  have T0 := Lib.hid (fun W h1 h2 h3 => argInt_any b g 1 C 0 (n : Int) W h1 (by decide) (by decide) hne h2 (by omega) (by omega) h3 hP)
  have TR := Lib.hid (fun W => roman_any n hn W)
  have TT := Lib.hid (fun W h => textV_T (romB n) (plain_rom n hn) W h)
  have HP := Lib.hid hP
  clear hb ha hne hc0 hE hP
  have d1 : decide ((n : Int) < 0) = false := decide_eq_false (by omega)
  have d2 : decide ((3999 : Int) < (n : Int)) = false := decide_eq_false (by omega)
  unfold Val.agg tVal
  obtain ⟨T, hT⟩ : ∃ T, romB n = T := ⟨_, rfl⟩
  rw [hT] at TT TR ⊢
  clear hT
  go_enter Tryz.func187, Tryz.ntmps187
  go_wp2_with fail
  refine (T0.out _ HA.out HC0.out HE.out).mono ?_
  rintro e W1 ⟨rfl, ha, hg⟩
  replace HG := Lib.hid (kept_trans HG.out hg)
  replace HR := Lib.hid (kept_block HR.out hg NE.out)
  replace HE := Lib.hid (HE.out.kept hg HP.out)
  clear ha hg HC0 T0 HA
  go_wp2_with fail
  refine (TR.out _).mono ?_
  rintro e W2 ⟨rfl, hb⟩
  replace HG := Lib.hid (kept_trans HG.out (kept_below hb))
  replace HR := Lib.hid (keep_block HR.out hb)
  replace HE := Lib.hid (HE.out.below hb)
  clear hb
  go_wp2_with fail
  refine (TT.out _ HE.out).mono ?_
  rintro e W3 ⟨rfl, hb⟩
  replace HG := Lib.hid (kept_trans HG.out (kept_below hb))
  replace HR := Lib.hid (keep_block HR.out hb)
  clear hb
  obtain ⟨⟨r0, r1, r2, r3, r4, r5, r6, r7, r8⟩, g0, g1, g2, g3, g4, g5, g6, g7, g8⟩ := nine_at HR.out
  have HF := Lib.hid (set9_at HR.out (.int .i64 2) (.string { data := #[] }) (.string { data := #[] }) (.string T) (.bool false) (.int .i64 0) (.int .i64 0) (.int .i64 0) (.slice none 0 0))
  have HG2 := Lib.hid (kept_set9 HG.out (Nat.le_refl _) (.int .i64 2) (.string { data := #[] }) (.string { data := #[] }) (.string T) (.bool false) (.int .i64 0) (.int .i64 0) (.int .i64 0) (.slice none 0 0))
  obtain ⟨⟨z0, z1, z2, z3, z4, z5, z6, z7, z8⟩, _⟩ := nine_at HF.out
  go_wp2
  refine bodyPost_ret (v := .agg #[.int .i64 2, .string { data := #[] }, .string { data := #[] }, .string T, .bool false, .int .i64 0, .int .i64 0, .int .i64 0, .slice none 0 0]) (by simp [results, Tryz.results187, go_sem, z0, z1, z2, z3, z4, z5, z6, z7, z8]) rfl ⟨rfl, HG2.out⟩
/-- ARABIC's search between two rounds -/
structure AraI (w : World) (b R : Nat) (W : World) : Prop where
  res : W.heap[R]? = some (.cells #[.string { data := #[] }, .string { data := #[] }] 24 (0, 0))
  env : Env W
  low : w.grownBy W (some b)
theorem AraI.step {w W W' : World} {b R : Nat} (h : AraI w b R W) (hb : Below W.heap.size W W') : AraI w b R W' := ⟨keep_block h.res hb, h.env.below hb, kept_trans h.low (kept_below hb)⟩
set_option maxHeartbeats 4000000 in
set_option maxRecDepth 100000 in
theorem fn_arabic (b g C n : Nat) (w : World) (ha : ArgsAt w b (some ⟨g, 0, none⟩) 1 C 0) (hne : g ≠ b) (hc0 : TextCells w g (0 + 0 * 9) (romB n)) (hn : n < 4000) (hE : Env w) (hP : Past b) :
    Calls Tryz.prog 189 #[.pointer (some ⟨b, 0, none⟩)] w fun e w' => e = .returned (fracV ((n : Int) : Rat)) ∧ w.grownBy w' (some b) := by
  have hb : Below w.heap.size w (w.alloc (.cells #[.string { data := #[] }, .string { data := #[] }] 24)) := (Below.refl _ _).alloc (Nat.le_refl _) _
  have HR := Lib.hid (heap_alloc_new w (.cells #[.string { data := #[] }, .string { data := #[] }] 24))
  have HG := Lib.hid (kept_below (b := b) hb)
  have HE := Lib.hid (hE.below hb)
  have HA := Lib.hid (show ArgsAt _ b (some ⟨g, 0, none⟩) 1 C 0 from keep_block ha hb)
  have HC0 := Lib.hid (hc0.below hb)
  have NE := Lib.hid (show w.heap.size ≠ b from Nat.ne_of_gt (heap_lt ha))
  have T0 := Lib.hid (fun W h1 h2 h3 => argText_T b g 0 1 C 0 (romB n) (plain_rom n hn) W h1 (by decide) (by decide) hne h2 h3 hP)
  have hsz : (romB n).size ≤ 1000000000 := by have := (plain_rom n hn).1; omega
  have TL := Lib.hid (fun W => lower_any (romB n) hsz W)
  have TO := Lib.hid (fun W gg => of_any (n : Int) W (by omega) (by omega) gg)
  have HP := Lib.hid hP
  have HN := Lib.hid hn
  clear hb ha hne hc0 hE hP hsz
  obtain ⟨q, hq⟩ : ∃ q : Rat, (((n : Nat) : Int) : Rat) = q := ⟨_, rfl⟩
  rw [hq] at TO ⊢
  rw [fracV_is q] at TO ⊢
  obtain ⟨S, hS⟩ : ∃ S, lowB (romB n) = S := ⟨_, rfl⟩
  have HS := Lib.hid hS
  rw [hS] at TL
  clear hq hS hn
  go_enter Tryz.func189, Tryz.ntmps189
  go_wp2_with fail
  refine (T0.out _ HA.out HC0.out HE.out).mono ?_
  rintro e W1 ⟨rfl, ha, hg⟩
  replace HG := Lib.hid (kept_trans HG.out hg)
  replace HR := Lib.hid (kept_block HR.out hg NE.out)
  replace HE := Lib.hid (HE.out.kept hg HP.out)
  clear ha hg HC0 T0 HA
  go_wp2_with fail
  refine (TL.out _).mono ?_
  rintro e W2 ⟨rfl, hb⟩
  have HI := Lib.hid (show AraI w b w.heap.size W2 from ⟨keep_block HR.out hb, HE.out.below hb, kept_trans HG.out (kept_below hb)⟩)
  clear hb HR HE HG TL
  go_wp2_with fail
  go_loopg [8] 4000 (fun gh v8 wx => ∃ j : Nat, v8 = .int .i64 (j : Int) ∧ j ≤ n ∧ j + gh = 4000 ∧ AraI w b w.heap.size wx)
  case atStart => exact ⟨0, rfl, Nat.zero_le _, rfl, HI.out⟩
  case round =>
    clear HI
    obtain ⟨j, rfl, hj, hg, hi⟩ := hrel
    have HI := Lib.hid hi
    clear hi
    have hj4 : j < 4000 := by have := HN.out; omega
    have hd : decide ((j : Int) < 4000) = true := decide_eq_true (by omega)
    have TRj := Lib.hid (fun W => roman_any j hj4 W)
    have hszj : (romB j).size ≤ 1000000000 := by have := (plain_rom j hj4).1; omega
    have TLj := Lib.hid (fun W => lower_any (romB j) hszj W)
    clear hszj
    by_cases he : j = n
    · have hxe : lowB (romB j) = S := by rw [he]; exact HS.out
      rw [hxe] at TLj
      subst he
      clear hxe
      go_wp2_with fail
      refine (TRj.out _).mono ?_
      rintro e w1 ⟨rfl, hb⟩
      replace HI := Lib.hid (HI.out.step hb)
      clear hb
      go_wp2_with fail
      refine (TLj.out _).mono ?_
      rintro e w2 ⟨rfl, hb⟩
      replace HI := Lib.hid (HI.out.step hb)
      clear hb
      go_wp2_with fail
      refine (TO.out _ HI.out.env.tab).mono ?_
      rintro e w3 ⟨rfl, hb⟩
      replace HI := Lib.hid (HI.out.step hb)
      clear hb
      obtain ⟨⟨x0, x1⟩, f0, f1⟩ := two_at HI.out.res
      have n2 := set2_at HI.out.res (.string (numS q)) (.string (denS q))
      obtain ⟨⟨r0, r1⟩, _⟩ := two_at n2
      have hgl : w.grownBy ((w3.setCell ⟨w.heap.size, 0, none⟩ (.string (numS q))).setCell ⟨w.heap.size, 1, none⟩ (.string (denS q))) (some b) := below_only HI.out.low (put2_below (Nat.le_refl _) w3 (.string (numS q)) (.string (denS q)))
      go_wp2
      refine bodyPost_ret (v := .agg #[.string (numS q), .string (denS q)]) (by simp [results, Tryz.results189, go_sem, r0, r1]) rfl ⟨rfl, hgl⟩
    · have hne : lowB (romB j) ≠ S := fun h => he (low_rom_inj hj4 HN.out (by rw [h, HS.out]))
      obtain ⟨X, hX⟩ : ∃ X, lowB (romB j) = X := ⟨_, rfl⟩
      rw [hX] at TLj hne
      clear hX
      have k2 : (X.toList == S.toList) = false := (Lib.bytes_beq_false_iff X S).2 hne
      have HNJ := Lib.hid (show j + 1 ≤ n by omega)
      clear hne he
      go_wp2_with fail
      refine (TRj.out _).mono ?_
      rintro e w1 ⟨rfl, hb⟩
      replace HI := Lib.hid (HI.out.step hb)
      clear hb
      go_wp2_with fail
      refine (TLj.out _).mono ?_
      rintro e w2 ⟨rfl, hb⟩
      replace HI := Lib.hid (HI.out.step hb)
      clear hb
      go_wp2
      go_roundg (gk - 1)
      case measure => omega
      case rel => exact ⟨j + 1, by go_num, HNJ.out, by omega, HI.out⟩
end Go.Proofs.YtnlaecjniellpaaGreatDoor.Num

/- package fmath: DECIMAL at texts of digits. Conditions: what is read is below a million; the tables lie as they are laid. -/
namespace Go.Proofs.YtnlaecjniellpaaGreatDoor.Num.Mt
open Go.RowKit Go.Lib Num

/-- DECIMAL's sum in progress: the result's block, the sum's block, the text's iterator -/
structure DecI (w : World) (b R N IT : Nat) (S : ByteArray) (j : Nat) (q : Rat) (W : World) : Prop where
  res : W.heap[R]? = some (.cells #[.string { data := #[] }, .string { data := #[] }] 24 (0, 0))
  num : W.heap[N]? = some (.cells #[.string (numS q), .string (denS q)] 24 (0, 0))
  it : W.heap[IT]? = some (.stringIter S j)
  env : Env W
  low : w.grownBy W (some b)
  rw' : w.heap.size ≤ R
  rn : R < N
  nt : N < IT
section
variable {w W W' : World} {b R N IT : Nat} {S : ByteArray} {j : Nat} {q : Rat}
theorem DecI.step (h : DecI w b R N IT S j q W) (hb : Below W.heap.size W W') : DecI w b R N IT S j q W' :=
  ⟨keep_block h.res hb, keep_block h.num hb, keep_block h.it hb, h.env.below hb, kept_trans h.low (kept_below hb), h.rw', h.rn, h.nt⟩
theorem DecI.next (h : DecI w b R N IT S j q W) (hP : Past b) (hE : Env w) : DecI w b R N IT S (j + 1) q (W.iterAt IT S (j + 1)) := by
  have h1 := h.rw'
  have h2 := h.rn
  have h3 := h.nt
  have hl : w.grownBy (W.iterAt IT S (j + 1)) (some b) := below_only h.low (Lib.below_iterAt (Below.refl _ _) (by omega) _ _)
  exact ⟨(Lib.iterAt_other _ _ _ _ _ (by omega)).trans h.res, (Lib.iterAt_other _ _ _ _ _ (by omega)).trans h.num, Lib.iterAt_heap _ _ _ _ _ h.it, hE.kept hl hP, hl, h1, h2, h3⟩
theorem DecI.put (h : DecI w b R N IT S j q W) (hP : Past b) (hE : Env w) (p : Rat) : DecI w b R N IT S j p ((W.setCell ⟨N, 0, none⟩ (.string (numS p))).setCell ⟨N, 1, none⟩ (.string (denS p))) := by
  have h1 := h.rw'
  have h2 := h.rn
  have h3 := h.nt
  have hl : w.grownBy ((W.setCell ⟨N, 0, none⟩ (.string (numS p))).setCell ⟨N, 1, none⟩ (.string (denS p))) (some b) := below_only h.low (put2_below (by omega) W _ _)
  exact ⟨(set2_other W N _ _ (by omega)).trans h.res, set2_at h.num _ _, (set2_other W N _ _ (by omega)).trans h.it, hE.kept hl hP, hl, h1, h2, h3⟩
end
theorem small_int (n : Nat) (h : n < 36000001) : fits ((((n : Nat) : Int)) : Rat) = true := fits_int _ (by omega)
set_option maxRecDepth 100000 in
theorem lowDig_at : ∀ d : Fin 36, Lib.indexByte (Lib.toLowerA digS.data.toList) (loD d.1) = (d.1 : Int) := by decide +kernel
attribute [local irreducible] wpOp
set_option linter.unusedVariables false in
/-- what the operations of region 10 yield -/
def sydecKs10 (qa qk qd qp qs : Rat) (k d N : Nat) : List RK :=
  [.pure (.agg #[.string (numS qa), .string (denS qa)]),
   .pure (.int .i64 (k : Int)),
   .pure (.agg #[.string (numS qk), .string (denS qk)]),
   .pure (.agg #[.string (numS qp), .string (denS qp)]),
   .pure (.int .i64 (d : Int)),
   .pure (.agg #[.string (numS qd), .string (denS qd)]),
   .pure (.agg #[.string (numS qs), .string (denS qs)]),
   .put 0]
set_option maxHeartbeats 8000000 in
set_option maxRecDepth 100000 in
theorem fn_decimal (b g C k M : Nat) (ds : List Nat) (T : ByteArray) (w : World) (ha : ArgsAt w b (some ⟨g, 0, none⟩) 2 C 0) (hne : g ≠ b) (hc0 : TextCells w g (0 + 0 * 9) T) (hc1 : NumCells w g (0 + 1 * 9) ((k : Int) : Rat)) (hT : Plain T) (hlow : lowB T = ⟨(ds.map loD).toArray⟩) (h1 : 1 ≤ ds.length) (h2 : ds.length ≤ 255) (hd : ∀ d ∈ ds, d < k) (hk : 2 ≤ k) (h36 : k ≤ 36) (hv : readD k ds = M) (hM : M < 1000000) (hE : Env w) (hP : Past b) :
    Calls Tryz.prog 186 #[.pointer (some ⟨b, 0, none⟩)] w fun e w' => e = .returned (fracV ((M : Int) : Rat)) ∧ w.grownBy w' (some b) := by
  have hb : Below w.heap.size w (w.alloc (.cells #[.string { data := #[] }, .string { data := #[] }] 24)) := (Below.refl _ _).alloc (Nat.le_refl _) _
  have HR := Lib.hid (heap_alloc_new w (.cells #[.string { data := #[] }, .string { data := #[] }] 24))
  have HG := Lib.hid (kept_below (b := b) hb)
  have HE := Lib.hid (hE.below hb)
  have HE0 := Lib.hid hE
  have HA := Lib.hid (show ArgsAt _ b (some ⟨g, 0, none⟩) 2 C 0 from keep_block ha hb)
  have HC0 := Lib.hid (hc0.below hb)
  have HC1 := Lib.hid (hc1.below hb)
  have NE := Lib.hid (show w.heap.size ≠ b from Nat.ne_of_gt (heap_lt ha))
  have NG := Lib.hid hne
  have T0 := Lib.hid (fun W h1 h2 h3 => argText_T b g 0 2 C 0 T hT W h1 (by decide) (by decide) hne h2 h3 hP)
  have T1 := Lib.hid (fun W h1 h2 h3 => argInt_any b g 2 C 1 (k : Int) W h1 (by decide) (by decide) hne h2 (by omega) (by omega) h3 hP)
  have TI0 := Lib.hid (fun W => within_in (k : Int) 2 36 W (by omega) (by omega))
  obtain ⟨L, hL⟩ : ∃ L, ds.length = L := ⟨_, rfl⟩
  have hTs : T.size = L := by
    have e1 := congrArg ByteArray.size hlow
    have e2 : (lowB T).size = T.size := by
      show (T.data.toList.map lowC).toArray.size = T.data.size
      rw [List.size_toArray, List.length_map, Array.length_toList]
    rw [e2] at e1
    rw [e1, ← hL]
    show (ds.map loD).toArray.size = ds.length
    rw [List.size_toArray, List.length_map]
  rw [hL] at h1 h2
  have TI1 := Lib.hid (fun W => within_in (L : Int) 1 255 W (by omega) (by omega))
  have TL := Lib.hid (fun W => lower_any T (by omega) W)
  obtain ⟨S, hS⟩ : ∃ S : ByteArray, (⟨(ds.map loD).toArray⟩ : ByteArray) = S := ⟨_, rfl⟩
  rw [hlow, hS] at TL
  have HSS : Hid (S.size = L) := Lib.hid (by
    rw [← hS, ← hL]
    show (ds.map loD).toArray.size = ds.length
    rw [List.size_toArray, List.length_map])
  have HSD : Hid (∀ j (h : j < S.size) (h' : j < ds.length), S[j]'h = loD (ds[j]'h')) := Lib.hid (by
    intro j h h'
    subst hS
    show (ds.map loD).toArray[j]'_ = _
    simp)
  have T00 := (fun W (h : Env W) => of_any 0 W (by decide) (by decide) h.tab)
  obtain ⟨q0, hq0⟩ : ∃ q : Rat, ((0 : Int) : Rat) = q := ⟨_, rfl⟩
  rw [hq0, fracV_is q0] at T00
  replace T00 := Lib.hid T00
  have HQ0 : Hid ((((readD k (ds.take 0) : Nat) : Int) : Rat) = q0) := Lib.hid (by rw [← hq0]; rfl)
  have HQL : Hid ((((readD k (ds.take L) : Nat) : Int) : Rat) = ((M : Int) : Rat)) := Lib.hid (by rw [← hL, List.take_length, hv])
  have HDL := Lib.hid hd
  have HMX : Hid (∀ j, readD k (ds.take j) ≤ M) := Lib.hid (fun j => by rw [← hv]; exact readD_take k (by omega) ds j)
  have HLD := Lib.hid hL
  have HB0 := Lib.hid (heap_lt ha)
  have HP := Lib.hid hP
  clear hb ha hne hc0 hc1 hE hP hT hlow hS hq0 hd hv hL
  obtain ⟨qM, hqM⟩ : ∃ q : Rat, ((M : Int) : Rat) = q := ⟨_, rfl⟩
  rw [hqM] at HQL ⊢
  rw [fracV_is qM]
  clear hqM
  go_enter Tryz.func186, Tryz.ntmps186
  go_wp2_with fail
  refine (T0.out _ HA.out HC0.out HE.out).mono ?_
  rintro e W1 ⟨rfl, ha, hg⟩
  replace HA := Lib.hid ha
  replace HG := Lib.hid (kept_trans HG.out hg)
  replace HR := Lib.hid (kept_block HR.out hg NE.out)
  replace HE := Lib.hid (HE.out.kept hg HP.out)
  replace HC1 := Lib.hid (HC1.out.kept hg NG.out)
  clear ha hg HC0 T0
  go_wp2_with fail
  refine (T1.out _ HA.out HC1.out HE.out).mono ?_
  rintro e W2 ⟨rfl, ha, hg⟩
  replace HA := Lib.hid ha
  replace HG := Lib.hid (kept_trans HG.out hg)
  replace HR := Lib.hid (kept_block HR.out hg NE.out)
  replace HE := Lib.hid (HE.out.kept hg HP.out)
  clear ha hg HC1 T1 HA
  go_wp2_with fail
  refine (TI0.out _).mono ?_
  rintro e W3 ⟨rfl, h3⟩
  replace h3 := h3.symm
  subst h3
  go_wp2_with fail
  refine (TI1.out _).mono ?_
  rintro e W4 ⟨rfl, h4⟩
  replace h4 := h4.symm
  subst h4
  clear hTs
  go_wp2_with fail
  refine (T00.out _ HE.out).mono ?_
  rintro e W5 ⟨rfl, hb⟩
  replace HG := Lib.hid (kept_trans HG.out (kept_below hb))
  replace HR := Lib.hid (keep_block HR.out hb)
  replace HE := Lib.hid (HE.out.below hb)
  clear hb T00 TI0 TI1
  have hb : Below W5.heap.size W5 (W5.alloc (.cells #[.string (numS q0), .string (denS q0)] 24)) := (Below.refl _ _).alloc (Nat.le_refl _) _
  have HN := Lib.hid (heap_alloc_new W5 (.cells #[.string (numS q0), .string (denS q0)] 24))
  have HRN := Lib.hid (heap_lt HR.out)
  replace HG := Lib.hid (kept_trans HG.out (kept_below hb))
  replace HR := Lib.hid (keep_block HR.out hb)
  replace HE := Lib.hid (HE.out.below hb)
  clear hb
  go_wp2_with fail
  refine (TL.out _).mono ?_
  rintro e W6 ⟨rfl, hb⟩
  replace HG := Lib.hid (kept_trans HG.out (kept_below hb))
  replace HR := Lib.hid (keep_block HR.out hb)
  replace HN := Lib.hid (keep_block HN.out hb)
  replace HE := Lib.hid (HE.out.below hb)
  clear hb TL
  have hb : Below W6.heap.size W6 (W6.alloc (.stringIter S 0)) := (Below.refl _ _).alloc (Nat.le_refl _) _
  have HI0 := Lib.hid (show DecI w b w.heap.size W5.heap.size W6.heap.size S 0 (((readD k (ds.take 0) : Nat) : Int) : Rat) (W6.alloc (.stringIter S 0)) from ⟨keep_block HR.out hb, by rw [HQ0.out]; exact keep_block HN.out hb, heap_alloc_new W6 _, HE.out.below hb, kept_trans HG.out (kept_below hb), Nat.le_refl _, HRN.out, heap_lt HN.out⟩)
  clear hb HR HN HE HG HQ0 HRN
  go_wp2_with fail
  obtain ⟨R, hR⟩ : ∃ z, w.heap.size = z := ⟨_, rfl⟩
  obtain ⟨N, hN⟩ : ∃ z, W5.heap.size = z := ⟨_, rfl⟩
  obtain ⟨IT, hIT⟩ : ∃ z, W6.heap.size = z := ⟨_, rfl⟩
  rw [hR, hN, hIT] at HI0
  rw [hR, hN, hIT]
  clear hR hN hIT
  go_loopg [22] L (fun gh v22 wx => ∃ j : Nat, j + gh = L ∧ DecI w b R N IT S j (((readD k (ds.take j) : Nat) : Int) : Rat) wx)
  case atStart => exact ⟨0, by omega, HI0.out⟩
  case round =>
    clear HI0
    obtain ⟨j, hj, hi⟩ := hrel
    have HI := Lib.hid hi
    clear hi
    by_cases hlt : j < L
    · skip
      have hjs : j < S.size := by rw [HSS.out]; exact hlt
      have hjd : j < ds.length := by rw [HLD.out]; exact hlt
      obtain ⟨d, hdd⟩ : ∃ d, ds[j]'hjd = d := ⟨_, rfl⟩
      have hsd := HSD.out j hjs hjd
      have hdk := HDL.out _ (List.getElem_mem hjd)
      have hsn := readD_snoc k ds j hjd
      rw [hdd] at hsd hdk hsn
      have hlo := up_lo ⟨d, by omega⟩
      simp only at hlo
      obtain ⟨r, hr⟩ : ∃ r : Nat, (loD d).toNat = r := ⟨_, rfl⟩
      have hr126 : r ≤ 126 := by rw [← hr]; exact hlo.2.2.2.2.2
      have hix := lowDig_at ⟨d, by omega⟩
      have hr8 : ((r : Int)).toNat.toUInt8 = loD d := by rw [← hr]; simp
      have hnx : ∀ ty, (Instr.next (.pointer (some ⟨IT, 0, none⟩)) true ty).run Tryz.prog wr = .ok (.tuple #[.bool true, .int .i64 j, .int .i32 r]) (wr.iterAt IT S (j + 1)) := fun ty => by
        have h := Lib.run_next_ascii_at (P := Tryz.prog) wr IT S j ty HI.out.it hjs (by rw [hsd, hr]; omega)
        rw [hsd, hr] at h
        exact h
      have TW := Lib.hid (fun W => Tryz.strings_ToLower_ascii digS W (by show 36 ≤ 140737488355328; decide) (fun i c hi => digS_ascii i c hi))
      have TX := Lib.hid (fun W => Tryz.strings_IndexRune_ascii ⟨(Lib.toLowerA digS.data.toList).toArray⟩ (r : Int) W (by omega) (by omega))
      rw [hr8] at TX
      have hix2 : Lib.indexByte (⟨(Lib.toLowerA digS.data.toList).toArray⟩ : ByteArray).data.toList (loD d) = (d : Int) := hix
      rw [hix2] at TX
      obtain ⟨DL, hDL⟩ : ∃ z : ByteArray, (⟨(Lib.toLowerA digS.data.toList).toArray⟩ : ByteArray) = z := ⟨_, rfl⟩
      rw [hDL] at TW TX
      unfold digS at TW
      have TI2 := Lib.hid (fun W => within_in (d : Int) 0 ((k : Int) - 1) W (by omega) (by omega))
      have hm1 := HMX.out j
      have hm2 := HMX.out (j + 1)
      rw [hsn] at hm2
      obtain ⟨a, hae⟩ : ∃ a, readD k (ds.take j) = a := ⟨_, rfl⟩
      rw [hae] at hm1 hm2 hsn HI
      have hak : a * k ≤ M := by omega
      obtain ⟨p, hp⟩ : ∃ p, a * k = p := ⟨_, rfl⟩
      rw [hp] at hak hsn hm2
      have hF : ∀ x y : Nat, (((x : Int)) : Rat) * (((y : Int)) : Rat) = ((((x * y : Nat)) : Int) : Rat) := fun x y => by rw [← Rat.intCast_mul, ← Int.natCast_mul]
      have hA : ∀ x y : Nat, (((x : Int)) : Rat) + (((y : Int)) : Rat) = ((((x + y : Nat)) : Int) : Rat) := fun x y => by rw [← Rat.intCast_add, ← Int.natCast_add]
      have fa := small_int a (by omega)
      have fk := small_int k (by omega)
      have fd := small_int d (by omega)
      have fp := small_int p (by omega)
      have fs := small_int (p + d) (by omega)
      have TM := fun W' ge => fm_mul (((a : Nat) : Int) : Rat) (((k : Nat) : Int) : Rat) W' fa fk (by rw [hF, hp]; exact fp) ge
      have TA := fun W' ge => fm_add (((p : Nat) : Int) : Rat) (((d : Nat) : Int) : Rat) W' fp fd (by rw [hA]; exact fs) ge
      have TK := fun W' (ge : Env W') => of_any (k : Int) W' (by omega) (by omega) ge.tab
      have TD := fun W' (ge : Env W') => of_any (d : Int) W' (by omega) (by omega) ge.tab
      rw [hF, hp] at TM
      rw [hA] at TA
      have hsn2 : (((readD k (ds.take (j + 1)) : Nat) : Int) : Rat) = ((((p + d : Nat)) : Int) : Rat) := by rw [hsn]
      obtain ⟨qa, hqa⟩ : ∃ q : Rat, (((a : Nat) : Int) : Rat) = q := ⟨_, rfl⟩
      obtain ⟨qk, hqk⟩ : ∃ q : Rat, (((k : Nat) : Int) : Rat) = q := ⟨_, rfl⟩
      obtain ⟨qd, hqd⟩ : ∃ q : Rat, (((d : Nat) : Int) : Rat) = q := ⟨_, rfl⟩
      obtain ⟨qp, hqp⟩ : ∃ q : Rat, (((p : Nat) : Int) : Rat) = q := ⟨_, rfl⟩
      obtain ⟨qs, hqs⟩ : ∃ q : Rat, ((((p + d : Nat)) : Int) : Rat) = q := ⟨_, rfl⟩
      rw [hqa, hqk, hqp, fracV_is qa, fracV_is qk, fracV_is qp] at TM
      rw [hqp, hqd, hqs, fracV_is qp, fracV_is qd, fracV_is qs] at TA
      rw [hqk, fracV_is qk] at TK
      rw [hqd, fracV_is qd] at TD
      rw [hqs] at hsn2
      rw [hqa] at HI
      replace TM := Lib.hid TM
      replace TA := Lib.hid TA
      replace TK := Lib.hid TK
      replace TD := Lib.hid TD
      have HSN := Lib.hid hsn2
      have HI2 := Lib.hid (HI.out.next HP.out HE0.out)
      clear hsd hdd hr hix hix2 hr8 hDL hqa hqk hqd hqp hqs hsn hsn2 hae hp hF hA fa fk fd fp fs HI hlo hm1 hm2 hak
      go_wp2_with fail
      refine (TW.out _).mono ?_
      rintro e W7 ⟨rfl, hb⟩
      replace HI2 := Lib.hid (HI2.out.step hb)
      clear hb hnx
      go_wp2_with fail
      refine (TX.out _).mono ?_
      rintro e W8 ⟨rfl, h8⟩
      replace h8 := h8.symm
      subst h8
      go_wp2_with fail
      refine (TI2.out _).mono ?_
      rintro e W9 ⟨rfl, h9⟩
      replace h9 := h9.symm
      subst h9
      clear TW TX TI2
      go_wp2_with fail
      have H5 := Lib.hid HI2.out.num
      have HE8 := Lib.hid HI2.out.env
      go_wp2_with fail
      have hok : okB 8 (sydecKs10 qa qk qd qp qs k d N) = true := by kernel_rfl
      have hna := noAny_of (ks := (sydecKs10 qa qk qd qp qs k d N)) (by kernel_rfl)
      have hla := lasts_of hna
      refine wp_region_facts_abs (row := none) (w := W7) 7 1 8 [7] (sydecKs10 qa qk qd qp qs k d N) [some 32, some 33, some 34, some 35, some 36, some 37, some 38, none] [(5, .pointer (some ⟨N, 0, none⟩)), (4, .int .i64 (k : Int)), (8, .int .i64 (d : Int))] 40 (by kernel_rfl) (by kernel_rfl) (by kernel_rfl) rfl rfl (by decide) rfl (by kernel_rfl) rfl (Nat.le_of_eq rfl) rfl ?ho [u32, u33, u34, u35, u36, u37, u38, undef] ?h00 (Fs.start rfl rfl) ?hs ?hd
      case ho =>
        intro k x hk
        match k, hk with
        | 0, hk => have hk := Option.some.inj hk; subst hk; rfl
        | 1, hk => have hk := Option.some.inj hk; subst hk; rfl
        | 2, hk => have hk := Option.some.inj hk; subst hk; rfl
        | _ + 3, hk => exact absurd hk (by simp)
      case h00 => simp only [putO, layL]
      case hs =>
        rintro A listed vs Wr hF hR i hi hun hpre
        obtain ⟨s0, s1, s2, s3, s4, s5, s6, s7, hvs⟩ := exl_of 8 vs (fun l => vs = l) hF.len rfl
        subst hvs
        have hge := Nat.zero_le i
        rcases Nat.lt_or_ge i 3 with hi | hge
        · rcases Nat.lt_or_ge i 1 with hi | hge
          · obtain rfl := eqi hi hge
            have ro5 : A.tmps[5]? = some (.pointer (some ⟨N, 0, none⟩)) := hR.out 0 _ rfl
            have hcc := (two_at (keep_block H5.out (below_none hF.low))).1
            have cH50 := hcc.1
            have cH51 := hcc.2
            clear hcc
            refine step_of ⟨some 32, _, _, _, _, _⟩ rfl (fun K' hK => ?_)
            go_simp
            exact hK.out _ _ ⟨_, hF.pure hok hla hpre rfl (Below.refl _ _), rfl⟩
          rcases Nat.lt_or_ge i 2 with hi | hge
          · obtain rfl := eqi hi hge
            have ro4 : A.tmps[4]? = some (.int .i64 (k : Int)) := hR.out 1 _ rfl
            refine step_of ⟨some 33, _, _, _, _, _⟩ rfl (fun K' hK => ?_)
            go_simp
            exact hK.out _ _ ⟨_, hF.pure hok hla hpre rfl (Below.refl _ _), rfl⟩
          obtain rfl := eqi hi hge
          have p1 := hpre 1 (by kernel_rfl)
          have e1 : s1 = .int .i64 (k : Int) := hF.get 1 _ rfl (.inr p1)
          subst e1
          have r1 : A.tmps[33]? = some (.int .i64 (k : Int)) := hR.own 1 _ _ rfl rfl
          refine step_of ⟨some 34, _, _, _, _, _⟩ rfl (fun K' hK => ?_)
          go_simp
          go_at_call 15
          (with_reducible refine (TK.out _ (HE8.out.below (below_none hF.low))).mono ?_)
          rintro e Wq ⟨rfl, hq⟩
          exact hK.out _ _ ⟨_, hF.pure hok hla hpre rfl hq, rfl⟩
        rcases Nat.lt_or_ge i 5 with hi | hge
        · rcases Nat.lt_or_ge i 4 with hi | hge
          · obtain rfl := eqi hi hge
            have p0 := hpre 0 (by kernel_rfl)
            have e0 : s0 = .agg #[.string (numS qa), .string (denS qa)] := hF.get 0 _ rfl (.inr p0)
            subst e0
            have r0 : A.tmps[32]? = some (.agg #[.string (numS qa), .string (denS qa)]) := hR.own 0 _ _ rfl rfl
            have p2 := hpre 2 (by kernel_rfl)
            have e2 : s2 = .agg #[.string (numS qk), .string (denS qk)] := hF.get 2 _ rfl (.inr p2)
            subst e2
            have r2 : A.tmps[34]? = some (.agg #[.string (numS qk), .string (denS qk)]) := hR.own 2 _ _ rfl rfl
            refine step_of ⟨some 35, _, _, _, _, _⟩ rfl (fun K' hK => ?_)
            go_simp
            go_at_call 143
            (with_reducible refine (TM.out _ (HE8.out.below (below_none hF.low))).mono ?_)
            rintro e Wq ⟨rfl, hq⟩
            exact hK.out _ _ ⟨_, hF.pure hok hla hpre rfl hq, rfl⟩
          obtain rfl := eqi hi hge
          have ro8 : A.tmps[8]? = some (.int .i64 (d : Int)) := hR.out 2 _ rfl
          refine step_of ⟨some 36, _, _, _, _, _⟩ rfl (fun K' hK => ?_)
          go_simp
          exact hK.out _ _ ⟨_, hF.pure hok hla hpre rfl (Below.refl _ _), rfl⟩
        rcases Nat.lt_or_ge i 6 with hi | hge
        · obtain rfl := eqi hi hge
          have p4 := hpre 4 (by kernel_rfl)
          have e4 : s4 = .int .i64 (d : Int) := hF.get 4 _ rfl (.inr p4)
          subst e4
          have r4 : A.tmps[36]? = some (.int .i64 (d : Int)) := hR.own 4 _ _ rfl rfl
          refine step_of ⟨some 37, _, _, _, _, _⟩ rfl (fun K' hK => ?_)
          go_simp
          go_at_call 15
          (with_reducible refine (TD.out _ (HE8.out.below (below_none hF.low))).mono ?_)
          rintro e Wq ⟨rfl, hq⟩
          exact hK.out _ _ ⟨_, hF.pure hok hla hpre rfl hq, rfl⟩
        obtain rfl := eqi hi hge
        have p3 := hpre 3 (by kernel_rfl)
        have e3 : s3 = .agg #[.string (numS qp), .string (denS qp)] := hF.get 3 _ rfl (.inr p3)
        subst e3
        have r3 : A.tmps[35]? = some (.agg #[.string (numS qp), .string (denS qp)]) := hR.own 3 _ _ rfl rfl
        have p5 := hpre 5 (by kernel_rfl)
        have e5 : s5 = .agg #[.string (numS qd), .string (denS qd)] := hF.get 5 _ rfl (.inr p5)
        subst e5
        have r5 : A.tmps[37]? = some (.agg #[.string (numS qd), .string (denS qd)]) := hR.own 5 _ _ rfl rfl
        refine step_of ⟨some 38, _, _, _, _, _⟩ rfl (fun K' hK => ?_)
        go_simp
        go_at_call 144
        (with_reducible refine (TA.out _ (HE8.out.below (below_none hF.low))).mono ?_)
        rintro e Wq ⟨rfl, hq⟩
        exact hK.out _ _ ⟨_, hF.pure hok hla hpre rfl hq, rfl⟩
      case hd =>
        rintro listed vs WA hF hall
        obtain ⟨s0, s1, s2, s3, s4, s5, s6, s7, hvs⟩ := exl_of 8 vs (fun l => vs = l) hF.len rfl
        subst hvs
        have e6 : s6 = .agg #[.string (numS qs), .string (denS qs)] := hF.get 6 _ rfl (.inr (hall 6 (by decide)))
        subst e6
        have hq := below_none hF.low
        replace H5 := Lib.hid (keep_block H5.out hq)
        replace HI2 := Lib.hid (HI2.out.step hq)
        clear hq
        clear hF hall hok hla hna
        simp only [putO, layL]
        obtain ⟨⟨y0, y1⟩, z0, z1⟩ := two_at HI2.out.num
        refine rest_one 7 ⟨none, _, _, _, _, _⟩ rfl (by kernel_rfl) rfl (fun K' hK => ?_)
        go_simp
        refine hK.out _ _ ?_
        refine rest_end ?_
        clear y0 y1 z0 z1
        have HI3 := Lib.hid (HI2.out.put HP.out HE0.out qs)
        clear HI2 H5 TM TA TK TD HE8
        go_wp2
        go_roundg (gk - 1)
        case measure => omega
        case rel => exact ⟨j + 1, by omega, by rw [HSN.out]; exact HI3.out⟩
    · skip
      obtain rfl : j = L := by omega
      have hjs : ¬ j < S.size := by rw [HSS.out]; omega
      have hnx : ∀ ty, (Instr.next (.pointer (some ⟨IT, 0, none⟩)) true ty).run Tryz.prog wr = .ok (.tuple #[.bool false]) wr := fun ty => Lib.run_next_end_at (P := Tryz.prog) wr IT S j ty HI.out.it hjs
      rw [HQL.out] at HI
      obtain ⟨⟨n0, n1⟩, m0, m1⟩ := two_at HI.out.num
      obtain ⟨⟨x0, x1⟩, f0, f1⟩ := two_at HI.out.res
      have n2 := set2_at HI.out.res (.string (numS qM)) (.string (denS qM))
      obtain ⟨⟨r0, r1⟩, _⟩ := two_at n2
      have hgl : w.grownBy ((wr.setCell ⟨R, 0, none⟩ (.string (numS qM))).setCell ⟨R, 1, none⟩ (.string (denS qM))) (some b) := below_only HI.out.low (put2_below HI.out.rw' wr (.string (numS qM)) (.string (denS qM)))
      go_wp2
      refine bodyPost_ret (v := .agg #[.string (numS qM), .string (denS qM)]) (by simp [results, Tryz.results186, go_sem, r0, r1]) rfl ⟨rfl, hgl⟩
end Go.Proofs.YtnlaecjniellpaaGreatDoor.Num.Mt

/- package fmath: the closure that makes the arguments, at functions whose result is a value. Conditions: the tables lie as they are laid. -/
namespace Go.Proofs.YtnlaecjniellpaaGreatDoor.Num
open Go.RowKit Go.Lib

set_option maxHeartbeats 4000000 in
set_option maxRecDepth 100000 in
theorem entry0_val (r : Row) (g cap e : Nat) (vs : List Val) (q : Val) (w : World) (hr : r.num = false) (hfn : FnAt w e r) (eF : ∀ args w, (callFunc r.fn args).run Tryz.prog w = .ok (.enter r.fn args) w) (hE : Env w) (hv : ValsAt w g 0 vs)
    (hF : ∀ W b, Below w.heap.size w W → Env W → Past b → b < W.heap.size → ArgsAt W b (some ⟨g, 0, none⟩) vs.length cap 0 → ValsAt W g 0 vs → g ≠ b → Calls Tryz.prog r.fn #[.pointer (some ⟨b, 0, none⟩)] W fun e w' => e = .returned q.agg ∧ W.grownBy w' (some b)) (hv0 : 0 < vs.length) :
    Calls Tryz.prog 150 #[.slice (some ⟨g, 0, none⟩) vs.length cap, .pointer (some ⟨e, 0, none⟩)] w fun e w' => e = .returned q.agg ∧ Below w.heap.size w w' := by
  unfold FnAt at hfn
  rw [if_neg (by rw [hr]; decide)] at hfn
  have he := hfn
  obtain ⟨hR, hB, hb⟩ := two_new w (.cells #[.int .i64 0, .string { data := #[] }, .string { data := #[] }, .string { data := #[] }, .bool false, .int .i64 0, .int .i64 0, .int .i64 0, .slice none 0 0] 27) (.cells #[.slice (some ⟨g, 0, none⟩) vs.length cap, .int .i64 0] 82)
  have HR := Lib.hid hR
  have HL := Lib.hid hb
  have HX := Lib.hid (cell_below he ((Below.refl w.heap.size w).alloc (Nat.le_refl _) (.cells #[.int .i64 0, .string { data := #[] }, .string { data := #[] }, .string { data := #[] }, .bool false, .int .i64 0, .int .i64 0, .int .i64 0, .slice none 0 0] 27)))
  have hgl : g < w.heap.size := cell_lt (hv.at 0 hv0).1
  have TN := Lib.hid (hF _ (w.heap.size + 1) hb (hE.below hb) (hE.past (Nat.le_succ _)) (by simp) hB (hv.below hb) (by omega))
  unfold Val.agg at TN ⊢
  clear hR hB hb he hF hE hv hgl
  obtain x0 := HX.out
  go_enter Tryz.func150, Tryz.ntmps150
  go_wp2_with fail
  refine TN.out.mono ?_
  rintro e W1 ⟨rfl, hg⟩
  replace HR := Lib.hid (kept_block HR.out hg (by omega))
  have HG := Lib.hid (below_map HL.out (Nat.le_succ _) hg)
  clear hg
  obtain ⟨⟨r0, r1, r2, r3, r4, r5, r6, r7, r8⟩, g0, g1, g2, g3, g4, g5, g6, g7, g8⟩ := nine_at HR.out
  obtain ⟨nb, z0, z1, z2, z3, z4, z5, z6, z7, z8⟩ := nine_end (x0 := (.int .i64 q.k)) (x1 := (.string q.n)) (x2 := (.string q.d)) (x3 := (.string q.t)) (x4 := (.bool q.on)) (x5 := (.int .i64 q.c)) (x6 := (.int .i64 q.r)) (x7 := (.int .i64 q.s)) (x8 := (.slice q.A q.L q.C)) HR.out HG.out (Nat.le_refl _)
  go_wp2
  refine bodyPost_ret (v := .agg #[.int .i64 q.k, .string q.n, .string q.d, .string q.t, .bool q.on, .int .i64 q.c, .int .i64 q.r, .int .i64 q.s, .slice q.A q.L q.C]) (by simp [results, Tryz.results150, go_sem, z0, z1, z2, z3, z4, z5, z6, z7, z8]) rfl ⟨rfl, nb⟩

end Go.Proofs.YtnlaecjniellpaaGreatDoor.Num

/- the law's math at BASE, DECIMAL, ROMAN, ARABIC. Conditions: the tables lie as they are laid. -/
namespace Go.Proofs.YtnlaecjniellpaaGreatDoor.Num
open Go.RowKit Go.Lib

theorem math_s_raw (i : Nat) (r : Row) (hi : i < allRows.length) (hr : allRows[i] = r) (hkd : r.kinds = { data := #[115] }) (hfr : ∀ j (hj : j < i), (allRows[i].name == (allRows[j]'(by omega)).name) = false) (hnum : r.num = false) (eF : ∀ args w, (callFunc r.fn args).run Tryz.prog w = .ok (.enter r.fn args) w) (vs : List Val) (q : Val) (ab ao C : Nat) (w : World) (h0 : 0 < vs.length) (h9 : vs.length ≤ 300) (hc1 : r.least ≤ vs.length) (hc2 : (vs.length : Int) ≤ r.most) (hno : ∀ v ∈ vs, (v.k == 5) = false) (hv : ValsAt w ab ao vs) (hE : Env w)
    (hC : ∀ v ∈ vs, ∀ W, Below w.heap.size w W → Calls Tryz.prog 97 #[v.agg] W fun e w' => e = .returned (.int .i64 0) ∧ Below W.heap.size W w')
    (hq : q.A = none ∧ q.L = 0 ∧ q.C = 0 ∧ q.r = 0 ∧ q.s = 0) (hO : ∀ W, Env W → Calls Tryz.prog 97 #[q.agg] W fun e w' => e = .returned (.int .i64 0) ∧ Below W.heap.size W w')
    (hF : ∀ W b g cap, Env W → Past b → b < W.heap.size → g < W.heap.size → ArgsAt W b (some ⟨g, 0, none⟩) vs.length cap 0 → ValsAt W g 0 vs → g ≠ b → Calls Tryz.prog r.fn #[.pointer (some ⟨b, 0, none⟩)] W fun e w' => e = .returned q.agg ∧ W.grownBy w' (some b)) :
    Calls Tryz.prog 5 #[.string r.name, .slice (some ⟨ab, ao, none⟩) vs.length C] w fun e w' => e = .returned q.agg ∧ Below w.heap.size w w' :=
  math_of r.name (.slice (some ⟨ab, ao, none⟩) vs.length C) q w ⟨_, _, _, rfl⟩ (fun W b hb hT =>
    run_s_val i r hi hr hkd hfr vs b ab ao C q W h0 h9 hc1 hc2 hno (hv.below hb) (hE.below hb) hT hq hO
      (fun v hv' W' h => hC v hv' W' (hb.trans (h.mono hb.size)))
      (fun W' e g cap _ hE' hfn hva => entry0_val r g cap e vs q W' hnum hfn eF hE' hva (fun W'' b' _ hE'' hP hlt ha hva' hne => hF W'' b' g cap hE'' hP hlt (cell_lt (hva'.at 0 h0).1) ha hva' hne) h0))
theorem math_s_num (i : Nat) (r : Row) (hi : i < allRows.length) (hr : allRows[i] = r) (hkd : r.kinds = { data := #[115] }) (hfr : ∀ j (hj : j < i), (allRows[i].name == (allRows[j]'(by omega)).name) = false) (hnum : r.num = true) (eF : ∀ args w, (callFunc r.fn args).run Tryz.prog w = .ok (.enter r.fn args) w) (vs : List Val) (q : Rat) (ab ao C : Nat) (w : World) (h0 : 0 < vs.length) (h9 : vs.length ≤ 300) (hc1 : r.least ≤ vs.length) (hc2 : (vs.length : Int) ≤ r.most) (hno : ∀ v ∈ vs, (v.k == 5) = false) (hv : ValsAt w ab ao vs) (hE : Env w)
    (hC : ∀ v ∈ vs, ∀ W, Below w.heap.size w W → Calls Tryz.prog 97 #[v.agg] W fun e w' => e = .returned (.int .i64 0) ∧ Below W.heap.size W w')
    (hq : fits q = true)
    (hF : ∀ W b g cap, Env W → Past b → b < W.heap.size → g < W.heap.size → ArgsAt W b (some ⟨g, 0, none⟩) vs.length cap 0 → ValsAt W g 0 vs → g ≠ b → Calls Tryz.prog r.fn #[.pointer (some ⟨b, 0, none⟩)] W fun e w' => e = .returned (fracV q) ∧ W.grownBy w' (some b)) :
    Calls Tryz.prog 5 #[.string r.name, .slice (some ⟨ab, ao, none⟩) vs.length C] w fun e w' => e = .returned (numVal q) ∧ Below w.heap.size w w' :=
  math_of r.name (.slice (some ⟨ab, ao, none⟩) vs.length C) (numVal' q) w ⟨_, _, _, rfl⟩ (fun W b hb hT =>
    run_s_val i r hi hr hkd hfr vs b ab ao C (numVal' q) W h0 h9 hc1 hc2 hno (hv.below hb) (hE.below hb) hT ⟨rfl, rfl, rfl, rfl, rfl⟩ (fun W g => check_num q W hq g)
      (fun v hv' W' h => hC v hv' W' (hb.trans (h.mono hb.size)))
      (fun W' e g cap _ hE' hfn hva => entry1_val r g cap e vs q W' hnum hfn eF hE' hva hq (fun W'' b' _ hE'' hP hlt ha hva' hne => hF W'' b' g cap hE'' hP hlt (cell_lt (hva'.at 0 h0).1) ha hva' hne) h0))

theorem vals_text {W : World} {g : Nat} {vs : List Val} (h : ValsAt W g 0 vs) (i : Nat) (hi : i < vs.length) (s : ByteArray) (e : vs[i] = tVal s) : TextCells W g (0 + i * 9) s := by
  have := h.at i hi
  rw [e] at this
  exact this
theorem check_int (z : Int) (h : z.natAbs ≤ 1000000000000000000) (W : World) (hE : Env W) : Calls Tryz.prog 97 #[(numVal' (z : Rat)).agg] W fun e w' => e = .returned (.int .i64 0) ∧ Below W.heap.size W w' := check_num (z : Rat) W (fits_int z h) hE
theorem check_tv (s : ByteArray) (hs : Plain s) (W : World) : Calls Tryz.prog 97 #[(tVal s).agg] W fun e w' => e = .returned (.int .i64 0) ∧ Below W.heap.size W w' := check_T s hs W

theorem m_BASE (n k m : Nat) (ab ao C : Nat) (w : World) (hn : n < 1000000) (hk : 2 ≤ k) (h36 : k ≤ 36) (hm : m < 30) (hv : ValsAt w ab ao [numVal' (((n : Nat) : Int) : Rat), numVal' (((k : Nat) : Int) : Rat), numVal' (((m : Nat) : Int) : Rat)]) (hE : Env w) :
    Calls Tryz.prog 5 #[.string { data := #[66, 65, 83, 69] }, .slice (some ⟨ab, ao, none⟩) 3 C] w fun e w' => e = .returned (tVal (baseU k n m)).agg ∧ Below w.heap.size w w' :=
  math_s_raw 36 ⟨{ data := #[66, 65, 83, 69] }, 2, 3, { data := #[115] }, false, 185⟩ (by decide) rfl rfl (fr_of 36 (by decide) (by kernel_rfl)) rfl (enters_of Tryz.func185 (by kernel_rfl) rfl) [numVal' (((n : Nat) : Int) : Rat), numVal' (((k : Nat) : Int) : Rat), numVal' (((m : Nat) : Int) : Rat)] (tVal (baseU k n m)) ab ao C w (show 0 < 3 from by decide) (show 3 ≤ 300 from by decide) (by show _ ≤ (((3 : Nat)) : Int); decide) (by show (((3 : Nat)) : Int) ≤ _; decide) (by
      intro v hv
      simp only [List.mem_cons, List.not_mem_nil, or_false] at hv
      rcases hv with rfl | rfl | rfl <;> rfl) hv hE
    (by
      intro v hv W hb
      simp only [List.mem_cons, List.not_mem_nil, or_false] at hv
      rcases hv with rfl | rfl | rfl
      · exact check_int (n : Int) (by omega) W (hE.below hb)
      · exact check_int (k : Int) (by omega) W (hE.below hb)
      · exact check_int (m : Int) (by omega) W (hE.below hb))
    ⟨rfl, rfl, rfl, rfl, rfl⟩ (fun W _ => check_tv _ (plain_baseU k n m hk h36 hn hm) W)
    (fun W b g cap hE' hP hlt hgl ha hva hne => fn_base b g cap n k m W ha hne (vals_num hva 0 (show 0 < 3 from by decide) (((n : Nat) : Int) : Rat) rfl) (vals_num hva 1 (show 1 < 3 from by decide) (((k : Nat) : Int) : Rat) rfl) (vals_num hva 2 (show 2 < 3 from by decide) (((m : Nat) : Int) : Rat) rfl) hn hk h36 hm hE' hP)

theorem m_ROMAN (n : Nat) (ab ao C : Nat) (w : World) (hn : n < 4000) (hv : ValsAt w ab ao [numVal' (((n : Nat) : Int) : Rat)]) (hE : Env w) :
    Calls Tryz.prog 5 #[.string { data := #[82, 79, 77, 65, 78] }, .slice (some ⟨ab, ao, none⟩) 1 C] w fun e w' => e = .returned (tVal (romB n)).agg ∧ Below w.heap.size w w' :=
  math_s_raw 38 ⟨{ data := #[82, 79, 77, 65, 78] }, 1, 1, { data := #[115] }, false, 187⟩ (by decide) rfl rfl (fr_of 38 (by decide) (by kernel_rfl)) rfl (enters_of Tryz.func187 (by kernel_rfl) rfl) [numVal' (((n : Nat) : Int) : Rat)] (tVal (romB n)) ab ao C w (show 0 < 1 from by decide) (show 1 ≤ 300 from by decide) (by show _ ≤ (((1 : Nat)) : Int); decide) (by show (((1 : Nat)) : Int) ≤ _; decide) (by
      intro v hv
      simp only [List.mem_cons, List.not_mem_nil, or_false] at hv
      rcases hv with rfl <;> rfl) hv hE
    (by
      intro v hv W hb
      simp only [List.mem_cons, List.not_mem_nil, or_false] at hv
      rcases hv with rfl
      · exact check_int (n : Int) (by omega) W (hE.below hb))
    ⟨rfl, rfl, rfl, rfl, rfl⟩ (fun W _ => check_tv _ (plain_rom n hn) W)
    (fun W b g cap hE' hP hlt hgl ha hva hne => fn_roman b g cap n W ha hne (vals_num hva 0 (show 0 < 1 from by decide) (((n : Nat) : Int) : Rat) rfl) hn hE' hP)

theorem m_ARABIC (n : Nat) (ab ao C : Nat) (w : World) (hn : n < 4000) (hv : ValsAt w ab ao [tVal (romB n)]) (hE : Env w) :
    Calls Tryz.prog 5 #[.string { data := #[65, 82, 65, 66, 73, 67] }, .slice (some ⟨ab, ao, none⟩) 1 C] w fun e w' => e = .returned (numVal (((n : Nat) : Int) : Rat)) ∧ Below w.heap.size w w' :=
  math_s_num 39 ⟨{ data := #[65, 82, 65, 66, 73, 67] }, 1, 1, { data := #[115] }, true, 189⟩ (by decide) rfl rfl (fr_of 39 (by decide) (by kernel_rfl)) rfl (enters_of Tryz.func189 (by kernel_rfl) rfl) [tVal (romB n)] (((n : Nat) : Int) : Rat) ab ao C w (show 0 < 1 from by decide) (show 1 ≤ 300 from by decide) (by show _ ≤ (((1 : Nat)) : Int); decide) (by show (((1 : Nat)) : Int) ≤ _; decide) (by
      intro v hv
      simp only [List.mem_cons, List.not_mem_nil, or_false] at hv
      rcases hv with rfl <;> rfl) hv hE
    (by
      intro v hv W hb
      simp only [List.mem_cons, List.not_mem_nil, or_false] at hv
      rcases hv with rfl
      · exact check_tv _ (plain_rom n hn) W)
    (fits_int _ (by omega))
    (fun W b g cap hE' hP hlt hgl ha hva hne => fn_arabic b g cap n W ha hne (vals_text hva 0 (show 0 < 1 from by decide) _ rfl) hn hE' hP)

theorem m_DECIMAL (k M : Nat) (ds : List Nat) (T : ByteArray) (ab ao C : Nat) (w : World) (hT : Plain T) (hlow : lowB T = ⟨(ds.map loD).toArray⟩) (h1 : 1 ≤ ds.length) (h2 : ds.length ≤ 255) (hd : ∀ d ∈ ds, d < k) (hk : 2 ≤ k) (h36 : k ≤ 36) (hr : readD k ds = M) (hM : M < 1000000) (hv : ValsAt w ab ao [tVal T, numVal' (((k : Nat) : Int) : Rat)]) (hE : Env w) :
    Calls Tryz.prog 5 #[.string { data := #[68, 69, 67, 73, 77, 65, 76] }, .slice (some ⟨ab, ao, none⟩) 2 C] w fun e w' => e = .returned (numVal (((M : Nat) : Int) : Rat)) ∧ Below w.heap.size w w' :=
  math_s_num 37 ⟨{ data := #[68, 69, 67, 73, 77, 65, 76] }, 2, 2, { data := #[115] }, true, 186⟩ (by decide) rfl rfl (fr_of 37 (by decide) (by kernel_rfl)) rfl (enters_of Tryz.func186 (by kernel_rfl) rfl) [tVal T, numVal' (((k : Nat) : Int) : Rat)] (((M : Nat) : Int) : Rat) ab ao C w (show 0 < 2 from by decide) (show 2 ≤ 300 from by decide) (by show _ ≤ (((2 : Nat)) : Int); decide) (by show (((2 : Nat)) : Int) ≤ _; decide) (by
      intro v hv
      simp only [List.mem_cons, List.not_mem_nil, or_false] at hv
      rcases hv with rfl | rfl <;> rfl) hv hE
    (by
      intro v hv W hb
      simp only [List.mem_cons, List.not_mem_nil, or_false] at hv
      rcases hv with rfl | rfl
      · exact check_tv _ hT W
      · exact check_int (k : Int) (by omega) W (hE.below hb))
    (fits_int _ (by omega))
    (fun W b g cap hE' hP hlt hgl ha hva hne => Mt.fn_decimal b g cap k M ds T W ha hne (vals_text hva 0 (show 0 < 2 from by decide) _ rfl) (vals_num hva 1 (show 1 < 2 from by decide) (((k : Nat) : Int) : Rat) rfl) hT hlow h1 h2 hd hk h36 hr hM hE' hP)
end Go.Proofs.YtnlaecjniellpaaGreatDoor.Num
