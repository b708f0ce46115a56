import Derived.Test.YtjidbphhcekelaaGreatResPortKnowna
namespace Go.Proofs.YtjidbphhcekelaaGreat.EPortKnown
open Go Go.Proofs.YtjidbphhcekelaaGreat.AE
set_option maxRecDepth 100000
set_option linter.unusedVariables false
theorem e73 (n : Nat) : g73 (evalF E n) = R73 n := by cases n <;> rfl
def R33 : Nat → LI_ → LI_ → Option ((List (Int × Int)) × Int)
  | 0, _, _ => none
  | n + 1, a0, a1 => r33 (R73 n) (iter (F33_0 (R73 n) ) n) a0 a1
theorem e33 : ∀ (n : Nat), g33 (evalF E n) = R33 n
  | 0 => by funext a0 a1; rfl
  | n + 1 => by
    have l0 : lq33_0 (evalF E n) n n = (iter (F33_0 (R73 n) ) n) := iter_of (g := lq33_0 (evalF E n) n) rfl (fun m y => by rw [lp33_0]; simp only [e73 n]) n
    funext a0 a1
    rw [gq33, rr33]
    simp only [e73 n, l0]
    rfl
def R14 : Nat → Int → LI_ → LI_ → Option ((List (Int × Int)) × Int)
  | 0, _, _, _ => none
  | n + 1, a0, a1, a2 => r14 (R33 n)  a0 a1 a2
theorem e14 : ∀ (n : Nat), g14 (evalF E n) = R14 n
  | 0 => by funext a0 a1 a2; rfl
  | n + 1 => by
    funext a0 a1 a2
    rw [gq14, rr14]
    simp only [e33 n]
    rfl
def R42 : Nat → Int → Option (Bool)
  | 0, _ => none
  | n + 1, a0 => r42   a0
theorem e42 : ∀ (n : Nat), g42 (evalF E n) = R42 n
  | 0 => by funext a0; rfl
  | n + 1 => by
    funext a0
    rw [gq42, rr42]
    rfl
def R15 : Nat → (List (Int × Int)) → Int → Int → Int → Int → Option ((List (Int × Int)) × Int)
  | 0, _, _, _, _, _ => none
  | n + 1, a0, a1, a2, a3, a4 => r15 (R42 n) (iter (F15_0 (R42 n) ) n) (iter (F15_1 (R42 n) ) n) (iter (F15_2 (R42 n) ) n) a0 a1 a2 a3 a4
theorem e15 : ∀ (n : Nat), g15 (evalF E n) = R15 n
  | 0 => by funext a0 a1 a2 a3 a4; rfl
  | n + 1 => by
    have l2 : lq15_2 (evalF E n) n n = (iter (F15_2 (R42 n) ) n) := iter_of (g := lq15_2 (evalF E n) n) rfl (fun m y => by rw [lp15_2]; simp only [e42 n]) n
    have l1 : lq15_1 (evalF E n) n n = (iter (F15_1 (R42 n) ) n) := iter_of (g := lq15_1 (evalF E n) n) rfl (fun m y => by rw [lp15_1]; simp only [e42 n]) n
    have l0 : lq15_0 (evalF E n) n n = (iter (F15_0 (R42 n) ) n) := iter_of (g := lq15_0 (evalF E n) n) rfl (fun m y => by rw [lp15_0]; simp only [e42 n]) n
    funext a0 a1 a2 a3 a4
    rw [gq15, rr15]
    simp only [e42 n, l0, l1, l2]
    rfl
def R97 : Nat → LI_ → Int → Option (Bool)
  | 0, _, _ => none
  | n + 1, a0, a1 => r97   a0 a1
theorem e97 : ∀ (n : Nat), g97 (evalF E n) = R97 n
  | 0 => by funext a0 a1; rfl
  | n + 1 => by
    funext a0 a1
    rw [gq97, rr97]
    rfl
def R43 : Nat → LI_ → LI_ → (List (Int × Int)) → Option (Bool)
  | 0, _, _, _ => none
  | n + 1, a0, a1, a2 => r43 (R97 n) (iter (F43_0 (R97 n) ) n) a0 a1 a2
theorem e43 : ∀ (n : Nat), g43 (evalF E n) = R43 n
  | 0 => by funext a0 a1 a2; rfl
  | n + 1 => by
    have l0 : lq43_0 (evalF E n) n n = (iter (F43_0 (R97 n) ) n) := iter_of (g := lq43_0 (evalF E n) n) rfl (fun m y => by rw [lp43_0]; simp only [e97 n]) n
    funext a0 a1 a2
    rw [gq43, rr43]
    simp only [e97 n, l0]
    rfl
def R44 : Nat → LI_ → LI_ → Option (Int)
  | 0, _, _ => none
  | n + 1, a0, a1 => r44  (iter (F44_0  (iter (F44_1  ) n)) n) (iter (F44_1  ) n) a0 a1
theorem e44 : ∀ (n : Nat), g44 (evalF E n) = R44 n
  | 0 => by funext a0 a1; rfl
  | n + 1 => by
    have l1 : lq44_1 (evalF E n) n n = (iter (F44_1  ) n) := iter_of (g := lq44_1 (evalF E n) n) rfl (fun m y => by rw [lp44_1]) n
    have l0 : lq44_0 (evalF E n) n n = (iter (F44_0  (iter (F44_1  ) n)) n) := iter_of (g := lq44_0 (evalF E n) n) rfl (fun m y => by rw [lp44_0]; simp only [l1]) n
    funext a0 a1
    rw [gq44, rr44]
    simp only [l0, l1]
    rfl
def R98 : Nat → LL_ → LI_ → LI_ → Int → Int → Option ((Int × Int) × Bool)
  | 0, _, _, _, _, _ => none
  | n + 1, a0, a1, a2, a3, a4 => r98  (iter (F98_0  ) n) (iter (F98_1  (iter (F98_0  ) n)) n) a0 a1 a2 a3 a4
theorem e98 : ∀ (n : Nat), g98 (evalF E n) = R98 n
  | 0 => by funext a0 a1 a2 a3 a4; rfl
  | n + 1 => by
    have l0 : lq98_0 (evalF E n) n n = (iter (F98_0  ) n) := iter_of (g := lq98_0 (evalF E n) n) rfl (fun m y => by rw [lp98_0]) n
    have l1 : lq98_1 (evalF E n) n n = (iter (F98_1  (iter (F98_0  ) n)) n) := iter_of (g := lq98_1 (evalF E n) n) rfl (fun m y => by rw [lp98_1]; simp only [l0]) n
    funext a0 a1 a2 a3 a4
    rw [gq98, rr98]
    simp only [l0, l1]
    rfl
def R45 : Nat → LI_ → LI_ → Option ((List (Int × Int)))
  | 0, _, _ => none
  | n + 1, a0, a1 => r45 (R73 n) (R98 n) (iter (F45_0 (R73 n) (R98 n) ) n) a0 a1
theorem e45 : ∀ (n : Nat), g45 (evalF E n) = R45 n
  | 0 => by funext a0 a1; rfl
  | n + 1 => by
    have l0 : lq45_0 (evalF E n) n n = (iter (F45_0 (R73 n) (R98 n) ) n) := iter_of (g := lq45_0 (evalF E n) n) rfl (fun m y => by rw [lp45_0]; simp only [e73 n, e98 n]) n
    funext a0 a1
    rw [gq45, rr45]
    simp only [e73 n, e98 n, l0]
    rfl
def R16 : Nat → LI_ → LI_ → (List (Int × Int)) → Option ((List (Int × Int)) × Int)
  | 0, _, _, _ => none
  | n + 1, a0, a1, a2 => r16 (R43 n) (R44 n) (R45 n)  a0 a1 a2
theorem e16 : ∀ (n : Nat), g16 (evalF E n) = R16 n
  | 0 => by funext a0 a1 a2; rfl
  | n + 1 => by
    funext a0 a1 a2
    rw [gq16, rr16]
    simp only [e43 n, e44 n, e45 n]
    rfl
def R48 : Nat → LL_ → Option (LL_)
  | 0, _ => none
  | n + 1, a0 => r48 (R102 n) (iter (F48_0 (R102 n) ) n) a0
theorem e48 : ∀ (n : Nat), g48 (evalF E n) = R48 n
  | 0 => by funext a0; rfl
  | n + 1 => by
    have l0 : lq48_0 (evalF E n) n n = (iter (F48_0 (R102 n) ) n) := iter_of (g := lq48_0 (evalF E n) n) rfl (fun m y => by rw [lp48_0]; simp only [e102 n]) n
    funext a0
    rw [gq48, rr48]
    simp only [e102 n, l0]
    rfl
def R47 : Nat → Int → Int → Int → Int → HK_ → LL_ → LL_ → Option (Int × Int × HK_ × LL_ × LL_)
  | 0, _, _, _, _, _, _, _ => none
  | n + 1, a0, a1, a2, a3, a4, a5, a6 => r47 (R48 n)  a0 a1 a2 a3 a4 a5 a6
theorem e47 : ∀ (n : Nat), g47 (evalF E n) = R47 n
  | 0 => by funext a0 a1 a2 a3 a4 a5 a6; rfl
  | n + 1 => by
    funext a0 a1 a2 a3 a4 a5 a6
    rw [gq47, rr47]
    simp only [e48 n]
    rfl
def R17 : Nat → LL_ → LL_ → (List (Int × Int)) → Option (HK_ × Int)
  | 0, _, _, _ => none
  | n + 1, a0, a1, a2 => r17 (R43 n) (R46 n) (R47 n) (iter (F17_0 (R43 n) (R46 n) (R47 n) ) n) a0 a1 a2
theorem e17 : ∀ (n : Nat), g17 (evalF E n) = R17 n
  | 0 => by funext a0 a1 a2; rfl
  | n + 1 => by
    have l0 : lq17_0 (evalF E n) n n = (iter (F17_0 (R43 n) (R46 n) (R47 n) ) n) := iter_of (g := lq17_0 (evalF E n) n) rfl (fun m y => by rw [lp17_0]; simp only [e43 n, e46 n, e47 n]) n
    funext a0 a1 a2
    rw [gq17, rr17]
    simp only [e43 n, e46 n, e47 n, l0]
    rfl
def R5 : Nat → Int → Int → LI_ → LI_ → (Int × Int) → Option ((Int × (Int × (Int × (Int × ((List (Int × Int)) × HK_))))) × Int)
  | 0, _, _, _, _, _ => none
  | n + 1, a0, a1, a2, a3, a4 => r5 (R13 n) (R14 n) (R15 n) (R16 n) (R17 n)  a0 a1 a2 a3 a4
theorem e5 : ∀ (n : Nat), g5 (evalF E n) = R5 n
  | 0 => by funext a0 a1 a2 a3 a4; rfl
  | n + 1 => by
    funext a0 a1 a2 a3 a4
    rw [gq5, rr5]
    simp only [e13 n, e14 n, e15 n, e16 n, e17 n]
    rfl
def R6 : Nat → Unit → Option ((Int × Int))
  | 0, _ => none
  | n + 1, u => r6   u
theorem e6 : ∀ (n : Nat), g6 (evalF E n) = R6 n
  | 0 => by funext u; rfl
  | n + 1 => by
    funext u
    rw [gq6, rr6]
    rfl
def R52 : Nat → Int → Int → Int → Option (Int × Int × Bool)
  | 0, _, _, _ => none
  | n + 1, a0, a1, a2 => r52   a0 a1 a2
theorem e52 : ∀ (n : Nat), g52 (evalF E n) = R52 n
  | 0 => by funext a0 a1 a2; rfl
  | n + 1 => by
    funext a0 a1 a2
    rw [gq52, rr52]
    rfl
def R53 : Nat → LI_ → LI_ → Int → Int → Int → (Int × LI_) → Option ((Int × LI_))
  | 0, _, _, _, _, _, _ => none
  | _ + 1, a0, a1, a2, a3, a4, a5 => PortX.nextB (a0, a1, a2, a3, a4, a5)
theorem e53 (n : Nat) : g53 (evalF E n) = R53 n := by cases n <;> rfl
def R54 : Nat → (Int × LI_) → Int → Option (Int)
  | 0, _, _ => none
  | n + 1, a0, a1 => r54   a0 a1
theorem e54 : ∀ (n : Nat), g54 (evalF E n) = R54 n
  | 0 => by funext a0 a1; rfl
  | n + 1 => by
    funext a0 a1
    rw [gq54, rr54]
    rfl
def R106 : Nat → Int → Option (Bool)
  | 0, _ => none
  | n + 1, a0 => r106   a0
theorem e106 : ∀ (n : Nat), g106 (evalF E n) = R106 n
  | 0 => by funext a0; rfl
  | n + 1 => by
    funext a0
    rw [gq106, rr106]
    rfl
def R55 : Nat → Int → Int → Int → Option (Int)
  | 0, _, _, _ => none
  | n + 1, a0, a1, a2 => r55 (R52 n) (R106 n) (iter (F55_0 (R52 n) (R106 n) ) n) a0 a1 a2
theorem e55 : ∀ (n : Nat), g55 (evalF E n) = R55 n
  | 0 => by funext a0 a1 a2; rfl
  | n + 1 => by
    have l0 : lq55_0 (evalF E n) n n = (iter (F55_0 (R52 n) (R106 n) ) n) := iter_of (g := lq55_0 (evalF E n) n) rfl (fun m y => by rw [lp55_0]; simp only [e52 n, e106 n]) n
    funext a0 a1 a2
    rw [gq55, rr55]
    simp only [e52 n, e106 n, l0]
    rfl
def R19 : Nat → LI_ → LI_ → Int → Option (Int × Int × Int)
  | 0, _, _, _ => none
  | n + 1, a0, a1, a2 => r19 (R52 n) (R53 n) (R54 n) (R55 n) (iter (F19_0 (R52 n) (R53 n) (R54 n) (R55 n) ) n) a0 a1 a2
theorem e19 : ∀ (n : Nat), g19 (evalF E n) = R19 n
  | 0 => by funext a0 a1 a2; rfl
  | n + 1 => by
    have l0 : lq19_0 (evalF E n) n n = (iter (F19_0 (R52 n) (R53 n) (R54 n) (R55 n) ) n) := iter_of (g := lq19_0 (evalF E n) n) rfl (fun m y => by rw [lp19_0]; simp only [e52 n, e53 n, e54 n, e55 n]) n
    funext a0 a1 a2
    rw [gq19, rr19]
    simp only [e52 n, e53 n, e54 n, e55 n, l0]
    rfl
def R7 : Nat → Int → LI_ → LI_ → Int → Option (Int × Int)
  | 0, _, _, _, _ => none
  | n + 1, a0, a1, a2, a3 => r7 (R18 n) (R19 n)  a0 a1 a2 a3
theorem e7 : ∀ (n : Nat), g7 (evalF E n) = R7 n
  | 0 => by funext a0 a1 a2 a3; rfl
  | n + 1 => by
    funext a0 a1 a2 a3
    rw [gq7, rr7]
    simp only [e18 n, e19 n]
    rfl
def R110 : Nat → LI_ → LI_ → Option (Bool)
  | 0, _, _ => none
  | n + 1, a0, a1 => r110 (R145 n)  a0 a1
theorem e110 : ∀ (n : Nat), g110 (evalF E n) = R110 n
  | 0 => by funext a0 a1; rfl
  | n + 1 => by
    funext a0 a1
    rw [gq110, rr110]
    simp only [e145 n]
    rfl
def R59 : Nat → ByteArray → (LI_ × (Int × Int)) → Option (Bool × (LI_ × (Int × Int)))
  | 0, _, _ => none
  | n + 1, a0, a1 => r59 (R110 n)  a0 a1
theorem e59 : ∀ (n : Nat), g59 (evalF E n) = R59 n
  | 0 => by funext a0 a1; rfl
  | n + 1 => by
    funext a0 a1
    rw [gq59, rr59]
    simp only [e110 n]
    rfl
def R107 : Nat → Int → Option (ByteArray)
  | 0, _ => none
  | n + 1, a0 => r107   a0
theorem e107 : ∀ (n : Nat), g107 (evalF E n) = R107 n
  | 0 => by funext a0; rfl
  | n + 1 => by
    funext a0
    rw [gq107, rr107]
    rfl
def R56 : Nat → (LI_ × (Int × Int)) → Option (Bool × (LI_ × (Int × Int)))
  | 0, _ => none
  | n + 1, a0 => r56 (R59 n) (R107 n) (iter (F56_0 (R59 n) (R107 n) ) n) a0
theorem e56 : ∀ (n : Nat), g56 (evalF E n) = R56 n
  | 0 => by funext a0; rfl
  | n + 1 => by
    have l0 : lq56_0 (evalF E n) n n = (iter (F56_0 (R59 n) (R107 n) ) n) := iter_of (g := lq56_0 (evalF E n) n) rfl (fun m y => by rw [lp56_0]; simp only [e59 n, e107 n]) n
    funext a0
    rw [gq56, rr56]
    simp only [e59 n, e107 n, l0]
    rfl
def R108 : Nat → (LI_ × (Int × Int)) → Option (Int × Bool × (LI_ × (Int × Int)))
  | 0, _ => none
  | n + 1, a0 => r108  (iter (F108_0  ) n) a0
theorem e108 : ∀ (n : Nat), g108 (evalF E n) = R108 n
  | 0 => by funext a0; rfl
  | n + 1 => by
    have l0 : lq108_0 (evalF E n) n n = (iter (F108_0  ) n) := iter_of (g := lq108_0 (evalF E n) n) rfl (fun m y => by rw [lp108_0]) n
    funext a0
    rw [gq108, rr108]
    simp only [l0]
    rfl
def R57 : Nat → (LI_ × (Int × Int)) → Option (Int × Int × Int × Bool × (LI_ × (Int × Int)))
  | 0, _ => none
  | n + 1, a0 => r57 (R59 n) (R108 n)  a0
theorem e57 : ∀ (n : Nat), g57 (evalF E n) = R57 n
  | 0 => by funext a0; rfl
  | n + 1 => by
    funext a0
    rw [gq57, rr57]
    simp only [e59 n, e108 n]
    rfl
def R149 : Nat → Int → LI_ → Option (Bool)
  | 0, _, _ => none
  | n + 1, a0, a1 => r149 (R104 n)  a0 a1
theorem e149 : ∀ (n : Nat), g149 (evalF E n) = R149 n
  | 0 => by funext a0 a1; rfl
  | n + 1 => by
    funext a0 a1
    rw [gq149, rr149]
    simp only [e104 n]
    rfl
def R109 : Nat → (LI_ × (Int × Int)) → Option (LI_ × Bool × (LI_ × (Int × Int)))
  | 0, _ => none
  | n + 1, a0 => r109 (R59 n) (R102 n) (R108 n) (R149 n)  a0
theorem e109 : ∀ (n : Nat), g109 (evalF E n) = R109 n
  | 0 => by funext a0; rfl
  | n + 1 => by
    funext a0
    rw [gq109, rr109]
    simp only [e59 n, e102 n, e108 n, e149 n]
    rfl
def R58 : Nat → Int → (LI_ × (Int × Int)) → Option (LL_ × Int × Bool × (LI_ × (Int × Int)))
  | 0, _, _ => none
  | n + 1, a0, a1 => r58 (R109 n) (iter (F58_0 (R109 n) ) n) a0 a1
theorem e58 : ∀ (n : Nat), g58 (evalF E n) = R58 n
  | 0 => by funext a0 a1; rfl
  | n + 1 => by
    have l0 : lq58_0 (evalF E n) n n = (iter (F58_0 (R109 n) ) n) := iter_of (g := lq58_0 (evalF E n) n) rfl (fun m y => by rw [lp58_0]; simp only [e109 n]) n
    funext a0 a1
    rw [gq58, rr58]
    simp only [e109 n, l0]
    rfl
def R20 : Nat → LI_ → Option (Int × HK_ × Int × Int)
  | 0, _ => none
  | n + 1, a0 => r20 (R56 n) (R57 n) (R58 n) (R59 n) (iter (F20_0 (R56 n) (R57 n) (R58 n) (R59 n) ) n) a0
theorem e20 : ∀ (n : Nat), g20 (evalF E n) = R20 n
  | 0 => by funext a0; rfl
  | n + 1 => by
    have l0 : lq20_0 (evalF E n) n n = (iter (F20_0 (R56 n) (R57 n) (R58 n) (R59 n) ) n) := iter_of (g := lq20_0 (evalF E n) n) rfl (fun m y => by rw [lp20_0]; simp only [e56 n, e57 n, e58 n, e59 n]) n
    funext a0
    rw [gq20, rr20]
    simp only [e56 n, e57 n, e58 n, e59 n, l0]
    rfl
def R112 : Nat → LL_ → Option (Bool)
  | 0, _ => none
  | n + 1, a0 => r112  (iter (F112_0  ) n) a0
theorem e112 : ∀ (n : Nat), g112 (evalF E n) = R112 n
  | 0 => by funext a0; rfl
  | n + 1 => by
    have l0 : lq112_0 (evalF E n) n n = (iter (F112_0  ) n) := iter_of (g := lq112_0 (evalF E n) n) rfl (fun m y => by rw [lp112_0]) n
    funext a0
    rw [gq112, rr112]
    simp only [l0]
    rfl
def R62 : Nat → HK_ → Option (Bool)
  | 0, _ => none
  | n + 1, a0 => r62 (R112 n) (iter (F62_0 (R112 n) ) n) a0
theorem e62 : ∀ (n : Nat), g62 (evalF E n) = R62 n
  | 0 => by funext a0; rfl
  | n + 1 => by
    have l0 : lq62_0 (evalF E n) n n = (iter (F62_0 (R112 n) ) n) := iter_of (g := lq62_0 (evalF E n) n) rfl (fun m y => by rw [lp62_0]; simp only [e112 n]) n
    funext a0
    rw [gq62, rr62]
    simp only [e112 n, l0]
    rfl
def R63 : Nat → LL_ → LL_ → Option (LL_)
  | 0, _, _ => none
  | n + 1, a0, a1 => r63 (R102 n) (iter (F63_0 (R102 n) ) n) a0 a1
theorem e63 : ∀ (n : Nat), g63 (evalF E n) = R63 n
  | 0 => by funext a0 a1; rfl
  | n + 1 => by
    have l0 : lq63_0 (evalF E n) n n = (iter (F63_0 (R102 n) ) n) := iter_of (g := lq63_0 (evalF E n) n) rfl (fun m y => by rw [lp63_0]; simp only [e102 n]) n
    funext a0 a1
    rw [gq63, rr63]
    simp only [e102 n, l0]
    rfl
def R150 : Nat → LL_ → LL_ → Option (Bool)
  | 0, _, _ => none
  | n + 1, a0, a1 => r150 (R145 n) (iter (F150_0 (R145 n) ) n) a0 a1
theorem e150 : ∀ (n : Nat), g150 (evalF E n) = R150 n
  | 0 => by funext a0 a1; rfl
  | n + 1 => by
    have l0 : lq150_0 (evalF E n) n n = (iter (F150_0 (R145 n) ) n) := iter_of (g := lq150_0 (evalF E n) n) rfl (fun m y => by rw [lp150_0]; simp only [e145 n]) n
    funext a0 a1
    rw [gq150, rr150]
    simp only [e145 n, l0]
    rfl
def R111 : Nat → LL_ → LL_ → Int → Option (Bool)
  | 0, _, _, _ => none
  | n + 1, a0, a1, a2 => r111 (R150 n)  a0 a1 a2
theorem e111 : ∀ (n : Nat), g111 (evalF E n) = R111 n
  | 0 => by funext a0 a1 a2; rfl
  | n + 1 => by
    funext a0 a1 a2
    rw [gq111, rr111]
    simp only [e150 n]
    rfl
def R60 : Nat → HK_ → LL_ → Option (LL_ × Int)
  | 0, _, _ => none
  | n + 1, a0, a1 => r60 (R62 n) (R63 n) (R111 n) (iter (F60_0 (R62 n) (R63 n) (R111 n) ) n) a0 a1
theorem e60 : ∀ (n : Nat), g60 (evalF E n) = R60 n
  | 0 => by funext a0 a1; rfl
  | n + 1 => by
    have l0 : lq60_0 (evalF E n) n n = (iter (F60_0 (R62 n) (R63 n) (R111 n) ) n) := iter_of (g := lq60_0 (evalF E n) n) rfl (fun m y => by rw [lp60_0]; simp only [e62 n, e63 n, e111 n]) n
    funext a0 a1
    rw [gq60, rr60]
    simp only [e62 n, e63 n, e111 n, l0]
    rfl
def R61 : Nat → LL_ → Option (LI_)
  | 0, _ => none
  | n + 1, a0 => r61  (iter (F61_0  ) n) a0
theorem e61 : ∀ (n : Nat), g61 (evalF E n) = R61 n
  | 0 => by funext a0; rfl
  | n + 1 => by
    have l0 : lq61_0 (evalF E n) n n = (iter (F61_0  ) n) := iter_of (g := lq61_0 (evalF E n) n) rfl (fun m y => by rw [lp61_0]) n
    funext a0
    rw [gq61, rr61]
    simp only [l0]
    rfl
def R21 : Nat → Int → HK_ → LI_ → Option (LI_ × Int)
  | 0, _, _, _ => none
  | n + 1, a0, a1, a2 => r21 (R49 n) (R60 n) (R61 n)  a0 a1 a2
theorem e21 : ∀ (n : Nat), g21 (evalF E n) = R21 n
  | 0 => by funext a0 a1 a2; rfl
  | n + 1 => by
    funext a0 a1 a2
    rw [gq21, rr21]
    simp only [e49 n, e60 n, e61 n]
    rfl
def R8 : Nat → LI_ → LI_ → Option (LI_ × Int × Int)
  | 0, _, _ => none
  | n + 1, a0, a1 => r8 (R20 n) (R21 n)  a0 a1
theorem e8 : ∀ (n : Nat), g8 (evalF E n) = R8 n
  | 0 => by funext a0 a1; rfl
  | n + 1 => by
    funext a0 a1
    rw [gq8, rr8]
    simp only [e20 n, e21 n]
    rfl
def R22 : Nat → HK_ → Option (HK_ × Int)
  | 0, _ => none
  | n + 1, a0 => r22 (R62 n) (R63 n) (iter (F22_0 (R62 n) (R63 n) ) n) a0
theorem e22 : ∀ (n : Nat), g22 (evalF E n) = R22 n
  | 0 => by funext a0; rfl
  | n + 1 => by
    have l0 : lq22_0 (evalF E n) n n = (iter (F22_0 (R62 n) (R63 n) ) n) := iter_of (g := lq22_0 (evalF E n) n) rfl (fun m y => by rw [lp22_0]; simp only [e62 n, e63 n]) n
    funext a0
    rw [gq22, rr22]
    simp only [e62 n, e63 n, l0]
    rfl
def R9 : Nat → LI_ → LI_ → Option (LI_ × Int × Int)
  | 0, _, _ => none
  | n + 1, a0, a1 => r9 (R20 n) (R21 n) (R22 n)  a0 a1
theorem e9 : ∀ (n : Nat), g9 (evalF E n) = R9 n
  | 0 => by funext a0 a1; rfl
  | n + 1 => by
    funext a0 a1
    rw [gq9, rr9]
    simp only [e20 n, e21 n, e22 n]
    rfl
def R23 : Nat → Int → Int → LI_ → LI_ → (Int × Int) → Option (Int × Int × Int)
  | 0, _, _, _, _, _ => none
  | n + 1, a0, a1, a2, a3, a4 => r23 (R13 n) (R14 n)  a0 a1 a2 a3 a4
theorem e23 : ∀ (n : Nat), g23 (evalF E n) = R23 n
  | 0 => by funext a0 a1 a2 a3 a4; rfl
  | n + 1 => by
    funext a0 a1 a2 a3 a4
    rw [gq23, rr23]
    simp only [e13 n, e14 n]
    rfl
def R10 : Nat → Unit → Option (Bool)
  | 0, _ => none
  | n + 1, u => r10 (R5 n) (R6 n) (R7 n) (R23 n)  u
theorem e10 : ∀ (n : Nat), g10 (evalF E n) = R10 n
  | 0 => by funext u; rfl
  | n + 1 => by
    funext u
    rw [gq10, rr10]
    simp only [e5 n, e6 n, e7 n, e23 n]
    rfl
def R153 : Nat → Int → Option (Int)
  | 0, _ => none
  | n + 1, a0 => r153   a0
theorem e153 : ∀ (n : Nat), g153 (evalF E n) = R153 n
  | 0 => by funext a0; rfl
  | n + 1 => by
    funext a0
    rw [gq153, rr153]
    rfl
def R177 : Nat → LI_ → Option (Int × Int)
  | 0, _ => none
  | n + 1, a0 => r177  (iter (F177_0  ) n) (iter (F177_1  ) n) a0
theorem e177 : ∀ (n : Nat), g177 (evalF E n) = R177 n
  | 0 => by funext a0; rfl
  | n + 1 => by
    have l1 : lq177_1 (evalF E n) n n = (iter (F177_1  ) n) := iter_of (g := lq177_1 (evalF E n) n) rfl (fun m y => by rw [lp177_1]) n
    have l0 : lq177_0 (evalF E n) n n = (iter (F177_0  ) n) := iter_of (g := lq177_0 (evalF E n) n) rfl (fun m y => by rw [lp177_0]) n
    funext a0
    rw [gq177, rr177]
    simp only [l0, l1]
    rfl
def R154 : Nat → LI_ → LI_ → Option (Int)
  | 0, _, _ => none
  | n + 1, a0, a1 => r154 (R177 n) (iter (F154_0 (R177 n) ) n) (iter (F154_1 (R177 n) ) n) a0 a1
theorem e154 : ∀ (n : Nat), g154 (evalF E n) = R154 n
  | 0 => by funext a0 a1; rfl
  | n + 1 => by
    have l1 : lq154_1 (evalF E n) n n = (iter (F154_1 (R177 n) ) n) := iter_of (g := lq154_1 (evalF E n) n) rfl (fun m y => by rw [lp154_1]; simp only [e177 n]) n
    have l0 : lq154_0 (evalF E n) n n = (iter (F154_0 (R177 n) ) n) := iter_of (g := lq154_0 (evalF E n) n) rfl (fun m y => by rw [lp154_0]; simp only [e177 n]) n
    funext a0 a1
    rw [gq154, rr154]
    simp only [e177 n, l0, l1]
    rfl
def R179 : Nat → Int → Option (Int)
  | 0, _ => none
  | n + 1, a0 => r179   a0
theorem e179 : ∀ (n : Nat), g179 (evalF E n) = R179 n
  | 0 => by funext a0; rfl
  | n + 1 => by
    funext a0
    rw [gq179, rr179]
    rfl
noncomputable def RC (n : Nat) : CallFn E := fun f =>
  if h : f = 102 then @Eq.rec Nat 102 (fun f _ => (E.fn f).sig.ins.den → Option (E.fn f).sig.outs.den) (fun x => R102 n x) f h.symm else
  if h : f = 141 then @Eq.rec Nat 141 (fun f _ => (E.fn f).sig.ins.den → Option (E.fn f).sig.outs.den) (fun x => R141 n x) f h.symm else
  if h : f = 142 then @Eq.rec Nat 142 (fun f _ => (E.fn f).sig.ins.den → Option (E.fn f).sig.outs.den) (fun x => R142 n x) f h.symm else
  if h : f = 144 then @Eq.rec Nat 144 (fun f _ => (E.fn f).sig.ins.den → Option (E.fn f).sig.outs.den) (fun x => R144 n x) f h.symm else
  if h : f = 99 then @Eq.rec Nat 99 (fun f _ => (E.fn f).sig.ins.den → Option (E.fn f).sig.outs.den) (fun x => R99 n x) f h.symm else
  if h : f = 146 then @Eq.rec Nat 146 (fun f _ => (E.fn f).sig.ins.den → Option (E.fn f).sig.outs.den) (fun x => R146 n x.1 x.2) f h.symm else
  if h : f = 100 then @Eq.rec Nat 100 (fun f _ => (E.fn f).sig.ins.den → Option (E.fn f).sig.outs.den) (fun x => R100 n x) f h.symm else
  if h : f = 175 then @Eq.rec Nat 175 (fun f _ => (E.fn f).sig.ins.den → Option (E.fn f).sig.outs.den) (fun x => R175 n x.1 x.2) f h.symm else
  if h : f = 143 then @Eq.rec Nat 143 (fun f _ => (E.fn f).sig.ins.den → Option (E.fn f).sig.outs.den) (fun x => R143 n x.1 x.2) f h.symm else
  if h : f = 176 then @Eq.rec Nat 176 (fun f _ => (E.fn f).sig.ins.den → Option (E.fn f).sig.outs.den) (fun x => R176 n x.1 x.2) f h.symm else
  if h : f = 147 then @Eq.rec Nat 147 (fun f _ => (E.fn f).sig.ins.den → Option (E.fn f).sig.outs.den) (fun x => R147 n x.1 x.2) f h.symm else
  if h : f = 101 then @Eq.rec Nat 101 (fun f _ => (E.fn f).sig.ins.den → Option (E.fn f).sig.outs.den) (fun x => R101 n x.1 x.2) f h.symm else
  if h : f = 46 then @Eq.rec Nat 46 (fun f _ => (E.fn f).sig.ins.den → Option (E.fn f).sig.outs.den) (fun x => R46 n x.1 x.2) f h.symm else
  if h : f = 103 then @Eq.rec Nat 103 (fun f _ => (E.fn f).sig.ins.den → Option (E.fn f).sig.outs.den) (fun x => R103 n x) f h.symm else
  if h : f = 148 then @Eq.rec Nat 148 (fun f _ => (E.fn f).sig.ins.den → Option (E.fn f).sig.outs.den) (fun x => R148 n x.1 x.2) f h.symm else
  if h : f = 104 then @Eq.rec Nat 104 (fun f _ => (E.fn f).sig.ins.den → Option (E.fn f).sig.outs.den) (fun x => R104 n x.1 x.2) f h.symm else
  if h : f = 49 then @Eq.rec Nat 49 (fun f _ => (E.fn f).sig.ins.den → Option (E.fn f).sig.outs.den) (fun x => R49 n x.1 x.2) f h.symm else
  if h : f = 50 then @Eq.rec Nat 50 (fun f _ => (E.fn f).sig.ins.den → Option (E.fn f).sig.outs.den) (fun x => R50 n x.1 x.2) f h.symm else
  if h : f = 105 then @Eq.rec Nat 105 (fun f _ => (E.fn f).sig.ins.den → Option (E.fn f).sig.outs.den) (fun x => R105 n x) f h.symm else
  if h : f = 51 then @Eq.rec Nat 51 (fun f _ => (E.fn f).sig.ins.den → Option (E.fn f).sig.outs.den) (fun x => R51 n x.1 x.2) f h.symm else
  if h : f = 18 then @Eq.rec Nat 18 (fun f _ => (E.fn f).sig.ins.den → Option (E.fn f).sig.outs.den) (fun x => R18 n x.1 x.2.1 x.2.2) f h.symm else
  if h : f = 151 then @Eq.rec Nat 151 (fun f _ => (E.fn f).sig.ins.den → Option (E.fn f).sig.outs.den) (fun x => R151 n x) f h.symm else
  if h : f = 115 then @Eq.rec Nat 115 (fun f _ => (E.fn f).sig.ins.den → Option (E.fn f).sig.outs.den) (fun x => R115 n x) f h.symm else
  if h : f = 116 then @Eq.rec Nat 116 (fun f _ => (E.fn f).sig.ins.den → Option (E.fn f).sig.outs.den) (fun x => R116 n x.1 x.2) f h.symm else
  if h : f = 145 then @Eq.rec Nat 145 (fun f _ => (E.fn f).sig.ins.den → Option (E.fn f).sig.outs.den) (fun x => R145 n x.1 x.2) f h.symm else
  if h : f = 117 then @Eq.rec Nat 117 (fun f _ => (E.fn f).sig.ins.den → Option (E.fn f).sig.outs.den) (fun x => R117 n x.1 x.2) f h.symm else
  if h : f = 70 then @Eq.rec Nat 70 (fun f _ => (E.fn f).sig.ins.den → Option (E.fn f).sig.outs.den) (fun x => R70 n x.1 x.2) f h.symm else
  if h : f = 29 then @Eq.rec Nat 29 (fun f _ => (E.fn f).sig.ins.den → Option (E.fn f).sig.outs.den) (fun x => R29 n x.1 x.2) f h.symm else
  if h : f = 30 then @Eq.rec Nat 30 (fun f _ => (E.fn f).sig.ins.den → Option (E.fn f).sig.outs.den) (fun x => R30 n x.1 x.2) f h.symm else
  if h : f = 178 then @Eq.rec Nat 178 (fun f _ => (E.fn f).sig.ins.den → Option (E.fn f).sig.outs.den) (fun x => R178 n x) f h.symm else
  if h : f = 155 then @Eq.rec Nat 155 (fun f _ => (E.fn f).sig.ins.den → Option (E.fn f).sig.outs.den) (fun x => R155 n x) f h.symm else
  if h : f = 118 then @Eq.rec Nat 118 (fun f _ => (E.fn f).sig.ins.den → Option (E.fn f).sig.outs.den) (fun x => R118 n x.1 x.2) f h.symm else
  if h : f = 119 then @Eq.rec Nat 119 (fun f _ => (E.fn f).sig.ins.den → Option (E.fn f).sig.outs.den) (fun x => R119 n x.1 x.2) f h.symm else
  if h : f = 180 then @Eq.rec Nat 180 (fun f _ => (E.fn f).sig.ins.den → Option (E.fn f).sig.outs.den) (fun x => R180 n x) f h.symm else
  if h : f = 156 then @Eq.rec Nat 156 (fun f _ => (E.fn f).sig.ins.den → Option (E.fn f).sig.outs.den) (fun x => R156 n x) f h.symm else
  if h : f = 120 then @Eq.rec Nat 120 (fun f _ => (E.fn f).sig.ins.den → Option (E.fn f).sig.outs.den) (fun x => R120 n x) f h.symm else
  if h : f = 71 then @Eq.rec Nat 71 (fun f _ => (E.fn f).sig.ins.den → Option (E.fn f).sig.outs.den) (fun x => R71 n x.1 x.2) f h.symm else
  if h : f = 31 then @Eq.rec Nat 31 (fun f _ => (E.fn f).sig.ins.den → Option (E.fn f).sig.outs.den) (fun x => R31 n x) f h.symm else
  if h : f = 72 then @Eq.rec Nat 72 (fun f _ => (E.fn f).sig.ins.den → Option (E.fn f).sig.outs.den) (fun x => R72 n x.1 x.2) f h.symm else
  if h : f = 32 then @Eq.rec Nat 32 (fun f _ => (E.fn f).sig.ins.den → Option (E.fn f).sig.outs.den) (fun x => R32 n x.1 x.2.1 x.2.2) f h.symm else
  if h : f = 13 then @Eq.rec Nat 13 (fun f _ => (E.fn f).sig.ins.den → Option (E.fn f).sig.outs.den) (fun x => R13 n x.1 x.2.1 x.2.2.1 x.2.2.2.1 x.2.2.2.2) f h.symm else
  if h : f = 73 then @Eq.rec Nat 73 (fun f _ => (E.fn f).sig.ins.den → Option (E.fn f).sig.outs.den) (fun x => R73 n x.1 x.2) f h.symm else
  if h : f = 33 then @Eq.rec Nat 33 (fun f _ => (E.fn f).sig.ins.den → Option (E.fn f).sig.outs.den) (fun x => R33 n x.1 x.2) f h.symm else
  if h : f = 14 then @Eq.rec Nat 14 (fun f _ => (E.fn f).sig.ins.den → Option (E.fn f).sig.outs.den) (fun x => R14 n x.1 x.2.1 x.2.2) f h.symm else
  if h : f = 42 then @Eq.rec Nat 42 (fun f _ => (E.fn f).sig.ins.den → Option (E.fn f).sig.outs.den) (fun x => R42 n x) f h.symm else
  if h : f = 15 then @Eq.rec Nat 15 (fun f _ => (E.fn f).sig.ins.den → Option (E.fn f).sig.outs.den) (fun x => R15 n x.1 x.2.1 x.2.2.1 x.2.2.2.1 x.2.2.2.2) f h.symm else
  if h : f = 97 then @Eq.rec Nat 97 (fun f _ => (E.fn f).sig.ins.den → Option (E.fn f).sig.outs.den) (fun x => R97 n x.1 x.2) f h.symm else
  if h : f = 43 then @Eq.rec Nat 43 (fun f _ => (E.fn f).sig.ins.den → Option (E.fn f).sig.outs.den) (fun x => R43 n x.1 x.2.1 x.2.2) f h.symm else
  if h : f = 44 then @Eq.rec Nat 44 (fun f _ => (E.fn f).sig.ins.den → Option (E.fn f).sig.outs.den) (fun x => R44 n x.1 x.2) f h.symm else
  if h : f = 98 then @Eq.rec Nat 98 (fun f _ => (E.fn f).sig.ins.den → Option (E.fn f).sig.outs.den) (fun x => R98 n x.1 x.2.1 x.2.2.1 x.2.2.2.1 x.2.2.2.2) f h.symm else
  if h : f = 45 then @Eq.rec Nat 45 (fun f _ => (E.fn f).sig.ins.den → Option (E.fn f).sig.outs.den) (fun x => R45 n x.1 x.2) f h.symm else
  if h : f = 16 then @Eq.rec Nat 16 (fun f _ => (E.fn f).sig.ins.den → Option (E.fn f).sig.outs.den) (fun x => R16 n x.1 x.2.1 x.2.2) f h.symm else
  if h : f = 48 then @Eq.rec Nat 48 (fun f _ => (E.fn f).sig.ins.den → Option (E.fn f).sig.outs.den) (fun x => R48 n x) f h.symm else
  if h : f = 47 then @Eq.rec Nat 47 (fun f _ => (E.fn f).sig.ins.den → Option (E.fn f).sig.outs.den) (fun x => R47 n x.1 x.2.1 x.2.2.1 x.2.2.2.1 x.2.2.2.2.1 x.2.2.2.2.2.1 x.2.2.2.2.2.2) f h.symm else
  if h : f = 17 then @Eq.rec Nat 17 (fun f _ => (E.fn f).sig.ins.den → Option (E.fn f).sig.outs.den) (fun x => R17 n x.1 x.2.1 x.2.2) f h.symm else
  if h : f = 5 then @Eq.rec Nat 5 (fun f _ => (E.fn f).sig.ins.den → Option (E.fn f).sig.outs.den) (fun x => R5 n x.1 x.2.1 x.2.2.1 x.2.2.2.1 x.2.2.2.2) f h.symm else
  if h : f = 6 then @Eq.rec Nat 6 (fun f _ => (E.fn f).sig.ins.den → Option (E.fn f).sig.outs.den) (fun x => R6 n x) f h.symm else
  if h : f = 52 then @Eq.rec Nat 52 (fun f _ => (E.fn f).sig.ins.den → Option (E.fn f).sig.outs.den) (fun x => R52 n x.1 x.2.1 x.2.2) f h.symm else
  if h : f = 53 then @Eq.rec Nat 53 (fun f _ => (E.fn f).sig.ins.den → Option (E.fn f).sig.outs.den) (fun x => R53 n x.1 x.2.1 x.2.2.1 x.2.2.2.1 x.2.2.2.2.1 x.2.2.2.2.2) f h.symm else
  if h : f = 54 then @Eq.rec Nat 54 (fun f _ => (E.fn f).sig.ins.den → Option (E.fn f).sig.outs.den) (fun x => R54 n x.1 x.2) f h.symm else
  if h : f = 106 then @Eq.rec Nat 106 (fun f _ => (E.fn f).sig.ins.den → Option (E.fn f).sig.outs.den) (fun x => R106 n x) f h.symm else
  if h : f = 55 then @Eq.rec Nat 55 (fun f _ => (E.fn f).sig.ins.den → Option (E.fn f).sig.outs.den) (fun x => R55 n x.1 x.2.1 x.2.2) f h.symm else
  if h : f = 19 then @Eq.rec Nat 19 (fun f _ => (E.fn f).sig.ins.den → Option (E.fn f).sig.outs.den) (fun x => R19 n x.1 x.2.1 x.2.2) f h.symm else
  if h : f = 7 then @Eq.rec Nat 7 (fun f _ => (E.fn f).sig.ins.den → Option (E.fn f).sig.outs.den) (fun x => R7 n x.1 x.2.1 x.2.2.1 x.2.2.2) f h.symm else
  if h : f = 110 then @Eq.rec Nat 110 (fun f _ => (E.fn f).sig.ins.den → Option (E.fn f).sig.outs.den) (fun x => R110 n x.1 x.2) f h.symm else
  if h : f = 59 then @Eq.rec Nat 59 (fun f _ => (E.fn f).sig.ins.den → Option (E.fn f).sig.outs.den) (fun x => R59 n x.1 x.2) f h.symm else
  if h : f = 107 then @Eq.rec Nat 107 (fun f _ => (E.fn f).sig.ins.den → Option (E.fn f).sig.outs.den) (fun x => R107 n x) f h.symm else
  if h : f = 56 then @Eq.rec Nat 56 (fun f _ => (E.fn f).sig.ins.den → Option (E.fn f).sig.outs.den) (fun x => R56 n x) f h.symm else
  if h : f = 108 then @Eq.rec Nat 108 (fun f _ => (E.fn f).sig.ins.den → Option (E.fn f).sig.outs.den) (fun x => R108 n x) f h.symm else
  if h : f = 57 then @Eq.rec Nat 57 (fun f _ => (E.fn f).sig.ins.den → Option (E.fn f).sig.outs.den) (fun x => R57 n x) f h.symm else
  if h : f = 149 then @Eq.rec Nat 149 (fun f _ => (E.fn f).sig.ins.den → Option (E.fn f).sig.outs.den) (fun x => R149 n x.1 x.2) f h.symm else
  if h : f = 109 then @Eq.rec Nat 109 (fun f _ => (E.fn f).sig.ins.den → Option (E.fn f).sig.outs.den) (fun x => R109 n x) f h.symm else
  if h : f = 58 then @Eq.rec Nat 58 (fun f _ => (E.fn f).sig.ins.den → Option (E.fn f).sig.outs.den) (fun x => R58 n x.1 x.2) f h.symm else
  if h : f = 20 then @Eq.rec Nat 20 (fun f _ => (E.fn f).sig.ins.den → Option (E.fn f).sig.outs.den) (fun x => R20 n x) f h.symm else
  if h : f = 112 then @Eq.rec Nat 112 (fun f _ => (E.fn f).sig.ins.den → Option (E.fn f).sig.outs.den) (fun x => R112 n x) f h.symm else
  if h : f = 62 then @Eq.rec Nat 62 (fun f _ => (E.fn f).sig.ins.den → Option (E.fn f).sig.outs.den) (fun x => R62 n x) f h.symm else
  if h : f = 63 then @Eq.rec Nat 63 (fun f _ => (E.fn f).sig.ins.den → Option (E.fn f).sig.outs.den) (fun x => R63 n x.1 x.2) f h.symm else
  if h : f = 150 then @Eq.rec Nat 150 (fun f _ => (E.fn f).sig.ins.den → Option (E.fn f).sig.outs.den) (fun x => R150 n x.1 x.2) f h.symm else
  if h : f = 111 then @Eq.rec Nat 111 (fun f _ => (E.fn f).sig.ins.den → Option (E.fn f).sig.outs.den) (fun x => R111 n x.1 x.2.1 x.2.2) f h.symm else
  if h : f = 60 then @Eq.rec Nat 60 (fun f _ => (E.fn f).sig.ins.den → Option (E.fn f).sig.outs.den) (fun x => R60 n x.1 x.2) f h.symm else
  if h : f = 61 then @Eq.rec Nat 61 (fun f _ => (E.fn f).sig.ins.den → Option (E.fn f).sig.outs.den) (fun x => R61 n x) f h.symm else
  if h : f = 21 then @Eq.rec Nat 21 (fun f _ => (E.fn f).sig.ins.den → Option (E.fn f).sig.outs.den) (fun x => R21 n x.1 x.2.1 x.2.2) f h.symm else
  if h : f = 8 then @Eq.rec Nat 8 (fun f _ => (E.fn f).sig.ins.den → Option (E.fn f).sig.outs.den) (fun x => R8 n x.1 x.2) f h.symm else
  if h : f = 22 then @Eq.rec Nat 22 (fun f _ => (E.fn f).sig.ins.den → Option (E.fn f).sig.outs.den) (fun x => R22 n x) f h.symm else
  if h : f = 9 then @Eq.rec Nat 9 (fun f _ => (E.fn f).sig.ins.den → Option (E.fn f).sig.outs.den) (fun x => R9 n x.1 x.2) f h.symm else
  if h : f = 23 then @Eq.rec Nat 23 (fun f _ => (E.fn f).sig.ins.den → Option (E.fn f).sig.outs.den) (fun x => R23 n x.1 x.2.1 x.2.2.1 x.2.2.2.1 x.2.2.2.2) f h.symm else
  if h : f = 10 then @Eq.rec Nat 10 (fun f _ => (E.fn f).sig.ins.den → Option (E.fn f).sig.outs.den) (fun x => R10 n x) f h.symm else
  if h : f = 153 then @Eq.rec Nat 153 (fun f _ => (E.fn f).sig.ins.den → Option (E.fn f).sig.outs.den) (fun x => R153 n x) f h.symm else
  if h : f = 177 then @Eq.rec Nat 177 (fun f _ => (E.fn f).sig.ins.den → Option (E.fn f).sig.outs.den) (fun x => R177 n x) f h.symm else
  if h : f = 154 then @Eq.rec Nat 154 (fun f _ => (E.fn f).sig.ins.den → Option (E.fn f).sig.outs.den) (fun x => R154 n x.1 x.2) f h.symm else
  if h : f = 179 then @Eq.rec Nat 179 (fun f _ => (E.fn f).sig.ins.den → Option (E.fn f).sig.outs.den) (fun x => R179 n x) f h.symm else
  evalF E n f
theorem RC_eq (n : Nat) : RC n = evalF E n := by
  funext f
  unfold RC
  by_cases h : f = 102
  · subst h; funext x; rw [dif_pos rfl]; exact ((congrFun (e102 n) x)).symm
  rw [dif_neg h]; clear h
  by_cases h : f = 141
  · subst h; funext x; rw [dif_pos rfl]; exact ((congrFun (e141 n) x)).symm
  rw [dif_neg h]; clear h
  by_cases h : f = 142
  · subst h; funext x; rw [dif_pos rfl]; exact ((congrFun (e142 n) x)).symm
  rw [dif_neg h]; clear h
  by_cases h : f = 144
  · subst h; funext x; rw [dif_pos rfl]; exact ((congrFun (e144 n) x)).symm
  rw [dif_neg h]; clear h
  by_cases h : f = 99
  · subst h; funext x; rw [dif_pos rfl]; exact ((congrFun (e99 n) x)).symm
  rw [dif_neg h]; clear h
  by_cases h : f = 146
  · subst h; funext x; rw [dif_pos rfl]; exact ((congrFun (congrFun (e146 n) x.1) x.2)).symm
  rw [dif_neg h]; clear h
  by_cases h : f = 100
  · subst h; funext x; rw [dif_pos rfl]; exact ((congrFun (e100 n) x)).symm
  rw [dif_neg h]; clear h
  by_cases h : f = 175
  · subst h; funext x; rw [dif_pos rfl]; exact ((congrFun (congrFun (e175 n) x.1) x.2)).symm
  rw [dif_neg h]; clear h
  by_cases h : f = 143
  · subst h; funext x; rw [dif_pos rfl]; exact ((congrFun (congrFun (e143 n) x.1) x.2)).symm
  rw [dif_neg h]; clear h
  by_cases h : f = 176
  · subst h; funext x; rw [dif_pos rfl]; exact ((congrFun (congrFun (e176 n) x.1) x.2)).symm
  rw [dif_neg h]; clear h
  by_cases h : f = 147
  · subst h; funext x; rw [dif_pos rfl]; exact ((congrFun (congrFun (e147 n) x.1) x.2)).symm
  rw [dif_neg h]; clear h
  by_cases h : f = 101
  · subst h; funext x; rw [dif_pos rfl]; exact ((congrFun (congrFun (e101 n) x.1) x.2)).symm
  rw [dif_neg h]; clear h
  by_cases h : f = 46
  · subst h; funext x; rw [dif_pos rfl]; exact ((congrFun (congrFun (e46 n) x.1) x.2)).symm
  rw [dif_neg h]; clear h
  by_cases h : f = 103
  · subst h; funext x; rw [dif_pos rfl]; exact ((congrFun (e103 n) x)).symm
  rw [dif_neg h]; clear h
  by_cases h : f = 148
  · subst h; funext x; rw [dif_pos rfl]; exact ((congrFun (congrFun (e148 n) x.1) x.2)).symm
  rw [dif_neg h]; clear h
  by_cases h : f = 104
  · subst h; funext x; rw [dif_pos rfl]; exact ((congrFun (congrFun (e104 n) x.1) x.2)).symm
  rw [dif_neg h]; clear h
  by_cases h : f = 49
  · subst h; funext x; rw [dif_pos rfl]; exact ((congrFun (congrFun (e49 n) x.1) x.2)).symm
  rw [dif_neg h]; clear h
  by_cases h : f = 50
  · subst h; funext x; rw [dif_pos rfl]; exact ((congrFun (congrFun (e50 n) x.1) x.2)).symm
  rw [dif_neg h]; clear h
  by_cases h : f = 105
  · subst h; funext x; rw [dif_pos rfl]; exact ((congrFun (e105 n) x)).symm
  rw [dif_neg h]; clear h
  by_cases h : f = 51
  · subst h; funext x; rw [dif_pos rfl]; exact ((congrFun (congrFun (e51 n) x.1) x.2)).symm
  rw [dif_neg h]; clear h
  by_cases h : f = 18
  · subst h; funext x; rw [dif_pos rfl]; exact ((congrFun (congrFun (congrFun (e18 n) x.1) x.2.1) x.2.2)).symm
  rw [dif_neg h]; clear h
  by_cases h : f = 151
  · subst h; funext x; rw [dif_pos rfl]; exact ((congrFun (e151 n) x)).symm
  rw [dif_neg h]; clear h
  by_cases h : f = 115
  · subst h; funext x; rw [dif_pos rfl]; exact ((congrFun (e115 n) x)).symm
  rw [dif_neg h]; clear h
  by_cases h : f = 116
  · subst h; funext x; rw [dif_pos rfl]; exact ((congrFun (congrFun (e116 n) x.1) x.2)).symm
  rw [dif_neg h]; clear h
  by_cases h : f = 145
  · subst h; funext x; rw [dif_pos rfl]; exact ((congrFun (congrFun (e145 n) x.1) x.2)).symm
  rw [dif_neg h]; clear h
  by_cases h : f = 117
  · subst h; funext x; rw [dif_pos rfl]; exact ((congrFun (congrFun (e117 n) x.1) x.2)).symm
  rw [dif_neg h]; clear h
  by_cases h : f = 70
  · subst h; funext x; rw [dif_pos rfl]; exact ((congrFun (congrFun (e70 n) x.1) x.2)).symm
  rw [dif_neg h]; clear h
  by_cases h : f = 29
  · subst h; funext x; rw [dif_pos rfl]; exact ((congrFun (congrFun (e29 n) x.1) x.2)).symm
  rw [dif_neg h]; clear h
  by_cases h : f = 30
  · subst h; funext x; rw [dif_pos rfl]; exact ((congrFun (congrFun (e30 n) x.1) x.2)).symm
  rw [dif_neg h]; clear h
  by_cases h : f = 178
  · subst h; funext x; rw [dif_pos rfl]; exact ((congrFun (e178 n) x)).symm
  rw [dif_neg h]; clear h
  by_cases h : f = 155
  · subst h; funext x; rw [dif_pos rfl]; exact ((congrFun (e155 n) x)).symm
  rw [dif_neg h]; clear h
  by_cases h : f = 118
  · subst h; funext x; rw [dif_pos rfl]; exact ((congrFun (congrFun (e118 n) x.1) x.2)).symm
  rw [dif_neg h]; clear h
  by_cases h : f = 119
  · subst h; funext x; rw [dif_pos rfl]; exact ((congrFun (congrFun (e119 n) x.1) x.2)).symm
  rw [dif_neg h]; clear h
  by_cases h : f = 180
  · subst h; funext x; rw [dif_pos rfl]; exact ((congrFun (e180 n) x)).symm
  rw [dif_neg h]; clear h
  by_cases h : f = 156
  · subst h; funext x; rw [dif_pos rfl]; exact ((congrFun (e156 n) x)).symm
  rw [dif_neg h]; clear h
  by_cases h : f = 120
  · subst h; funext x; rw [dif_pos rfl]; exact ((congrFun (e120 n) x)).symm
  rw [dif_neg h]; clear h
  by_cases h : f = 71
  · subst h; funext x; rw [dif_pos rfl]; exact ((congrFun (congrFun (e71 n) x.1) x.2)).symm
  rw [dif_neg h]; clear h
  by_cases h : f = 31
  · subst h; funext x; rw [dif_pos rfl]; exact ((congrFun (e31 n) x)).symm
  rw [dif_neg h]; clear h
  by_cases h : f = 72
  · subst h; funext x; rw [dif_pos rfl]; exact ((congrFun (congrFun (e72 n) x.1) x.2)).symm
  rw [dif_neg h]; clear h
  by_cases h : f = 32
  · subst h; funext x; rw [dif_pos rfl]; exact ((congrFun (congrFun (congrFun (e32 n) x.1) x.2.1) x.2.2)).symm
  rw [dif_neg h]; clear h
  by_cases h : f = 13
  · subst h; funext x; rw [dif_pos rfl]; exact ((congrFun (congrFun (congrFun (congrFun (congrFun (e13 n) x.1) x.2.1) x.2.2.1) x.2.2.2.1) x.2.2.2.2)).symm
  rw [dif_neg h]; clear h
  by_cases h : f = 73
  · subst h; funext x; rw [dif_pos rfl]; exact ((congrFun (congrFun (e73 n) x.1) x.2)).symm
  rw [dif_neg h]; clear h
  by_cases h : f = 33
  · subst h; funext x; rw [dif_pos rfl]; exact ((congrFun (congrFun (e33 n) x.1) x.2)).symm
  rw [dif_neg h]; clear h
  by_cases h : f = 14
  · subst h; funext x; rw [dif_pos rfl]; exact ((congrFun (congrFun (congrFun (e14 n) x.1) x.2.1) x.2.2)).symm
  rw [dif_neg h]; clear h
  by_cases h : f = 42
  · subst h; funext x; rw [dif_pos rfl]; exact ((congrFun (e42 n) x)).symm
  rw [dif_neg h]; clear h
  by_cases h : f = 15
  · subst h; funext x; rw [dif_pos rfl]; exact ((congrFun (congrFun (congrFun (congrFun (congrFun (e15 n) x.1) x.2.1) x.2.2.1) x.2.2.2.1) x.2.2.2.2)).symm
  rw [dif_neg h]; clear h
  by_cases h : f = 97
  · subst h; funext x; rw [dif_pos rfl]; exact ((congrFun (congrFun (e97 n) x.1) x.2)).symm
  rw [dif_neg h]; clear h
  by_cases h : f = 43
  · subst h; funext x; rw [dif_pos rfl]; exact ((congrFun (congrFun (congrFun (e43 n) x.1) x.2.1) x.2.2)).symm
  rw [dif_neg h]; clear h
  by_cases h : f = 44
  · subst h; funext x; rw [dif_pos rfl]; exact ((congrFun (congrFun (e44 n) x.1) x.2)).symm
  rw [dif_neg h]; clear h
  by_cases h : f = 98
  · subst h; funext x; rw [dif_pos rfl]; exact ((congrFun (congrFun (congrFun (congrFun (congrFun (e98 n) x.1) x.2.1) x.2.2.1) x.2.2.2.1) x.2.2.2.2)).symm
  rw [dif_neg h]; clear h
  by_cases h : f = 45
  · subst h; funext x; rw [dif_pos rfl]; exact ((congrFun (congrFun (e45 n) x.1) x.2)).symm
  rw [dif_neg h]; clear h
  by_cases h : f = 16
  · subst h; funext x; rw [dif_pos rfl]; exact ((congrFun (congrFun (congrFun (e16 n) x.1) x.2.1) x.2.2)).symm
  rw [dif_neg h]; clear h
  by_cases h : f = 48
  · subst h; funext x; rw [dif_pos rfl]; exact ((congrFun (e48 n) x)).symm
  rw [dif_neg h]; clear h
  by_cases h : f = 47
  · subst h; funext x; rw [dif_pos rfl]; exact ((congrFun (congrFun (congrFun (congrFun (congrFun (congrFun (congrFun (e47 n) x.1) x.2.1) x.2.2.1) x.2.2.2.1) x.2.2.2.2.1) x.2.2.2.2.2.1) x.2.2.2.2.2.2)).symm
  rw [dif_neg h]; clear h
  by_cases h : f = 17
  · subst h; funext x; rw [dif_pos rfl]; exact ((congrFun (congrFun (congrFun (e17 n) x.1) x.2.1) x.2.2)).symm
  rw [dif_neg h]; clear h
  by_cases h : f = 5
  · subst h; funext x; rw [dif_pos rfl]; exact ((congrFun (congrFun (congrFun (congrFun (congrFun (e5 n) x.1) x.2.1) x.2.2.1) x.2.2.2.1) x.2.2.2.2)).symm
  rw [dif_neg h]; clear h
  by_cases h : f = 6
  · subst h; funext x; rw [dif_pos rfl]; exact ((congrFun (e6 n) x)).symm
  rw [dif_neg h]; clear h
  by_cases h : f = 52
  · subst h; funext x; rw [dif_pos rfl]; exact ((congrFun (congrFun (congrFun (e52 n) x.1) x.2.1) x.2.2)).symm
  rw [dif_neg h]; clear h
  by_cases h : f = 53
  · subst h; funext x; rw [dif_pos rfl]; exact ((congrFun (congrFun (congrFun (congrFun (congrFun (congrFun (e53 n) x.1) x.2.1) x.2.2.1) x.2.2.2.1) x.2.2.2.2.1) x.2.2.2.2.2)).symm
  rw [dif_neg h]; clear h
  by_cases h : f = 54
  · subst h; funext x; rw [dif_pos rfl]; exact ((congrFun (congrFun (e54 n) x.1) x.2)).symm
  rw [dif_neg h]; clear h
  by_cases h : f = 106
  · subst h; funext x; rw [dif_pos rfl]; exact ((congrFun (e106 n) x)).symm
  rw [dif_neg h]; clear h
  by_cases h : f = 55
  · subst h; funext x; rw [dif_pos rfl]; exact ((congrFun (congrFun (congrFun (e55 n) x.1) x.2.1) x.2.2)).symm
  rw [dif_neg h]; clear h
  by_cases h : f = 19
  · subst h; funext x; rw [dif_pos rfl]; exact ((congrFun (congrFun (congrFun (e19 n) x.1) x.2.1) x.2.2)).symm
  rw [dif_neg h]; clear h
  by_cases h : f = 7
  · subst h; funext x; rw [dif_pos rfl]; exact ((congrFun (congrFun (congrFun (congrFun (e7 n) x.1) x.2.1) x.2.2.1) x.2.2.2)).symm
  rw [dif_neg h]; clear h
  by_cases h : f = 110
  · subst h; funext x; rw [dif_pos rfl]; exact ((congrFun (congrFun (e110 n) x.1) x.2)).symm
  rw [dif_neg h]; clear h
  by_cases h : f = 59
  · subst h; funext x; rw [dif_pos rfl]; exact ((congrFun (congrFun (e59 n) x.1) x.2)).symm
  rw [dif_neg h]; clear h
  by_cases h : f = 107
  · subst h; funext x; rw [dif_pos rfl]; exact ((congrFun (e107 n) x)).symm
  rw [dif_neg h]; clear h
  by_cases h : f = 56
  · subst h; funext x; rw [dif_pos rfl]; exact ((congrFun (e56 n) x)).symm
  rw [dif_neg h]; clear h
  by_cases h : f = 108
  · subst h; funext x; rw [dif_pos rfl]; exact ((congrFun (e108 n) x)).symm
  rw [dif_neg h]; clear h
  by_cases h : f = 57
  · subst h; funext x; rw [dif_pos rfl]; exact ((congrFun (e57 n) x)).symm
  rw [dif_neg h]; clear h
  by_cases h : f = 149
  · subst h; funext x; rw [dif_pos rfl]; exact ((congrFun (congrFun (e149 n) x.1) x.2)).symm
  rw [dif_neg h]; clear h
  by_cases h : f = 109
  · subst h; funext x; rw [dif_pos rfl]; exact ((congrFun (e109 n) x)).symm
  rw [dif_neg h]; clear h
  by_cases h : f = 58
  · subst h; funext x; rw [dif_pos rfl]; exact ((congrFun (congrFun (e58 n) x.1) x.2)).symm
  rw [dif_neg h]; clear h
  by_cases h : f = 20
  · subst h; funext x; rw [dif_pos rfl]; exact ((congrFun (e20 n) x)).symm
  rw [dif_neg h]; clear h
  by_cases h : f = 112
  · subst h; funext x; rw [dif_pos rfl]; exact ((congrFun (e112 n) x)).symm
  rw [dif_neg h]; clear h
  by_cases h : f = 62
  · subst h; funext x; rw [dif_pos rfl]; exact ((congrFun (e62 n) x)).symm
  rw [dif_neg h]; clear h
  by_cases h : f = 63
  · subst h; funext x; rw [dif_pos rfl]; exact ((congrFun (congrFun (e63 n) x.1) x.2)).symm
  rw [dif_neg h]; clear h
  by_cases h : f = 150
  · subst h; funext x; rw [dif_pos rfl]; exact ((congrFun (congrFun (e150 n) x.1) x.2)).symm
  rw [dif_neg h]; clear h
  by_cases h : f = 111
  · subst h; funext x; rw [dif_pos rfl]; exact ((congrFun (congrFun (congrFun (e111 n) x.1) x.2.1) x.2.2)).symm
  rw [dif_neg h]; clear h
  by_cases h : f = 60
  · subst h; funext x; rw [dif_pos rfl]; exact ((congrFun (congrFun (e60 n) x.1) x.2)).symm
  rw [dif_neg h]; clear h
  by_cases h : f = 61
  · subst h; funext x; rw [dif_pos rfl]; exact ((congrFun (e61 n) x)).symm
  rw [dif_neg h]; clear h
  by_cases h : f = 21
  · subst h; funext x; rw [dif_pos rfl]; exact ((congrFun (congrFun (congrFun (e21 n) x.1) x.2.1) x.2.2)).symm
  rw [dif_neg h]; clear h
  by_cases h : f = 8
  · subst h; funext x; rw [dif_pos rfl]; exact ((congrFun (congrFun (e8 n) x.1) x.2)).symm
  rw [dif_neg h]; clear h
  by_cases h : f = 22
  · subst h; funext x; rw [dif_pos rfl]; exact ((congrFun (e22 n) x)).symm
  rw [dif_neg h]; clear h
  by_cases h : f = 9
  · subst h; funext x; rw [dif_pos rfl]; exact ((congrFun (congrFun (e9 n) x.1) x.2)).symm
  rw [dif_neg h]; clear h
  by_cases h : f = 23
  · subst h; funext x; rw [dif_pos rfl]; exact ((congrFun (congrFun (congrFun (congrFun (congrFun (e23 n) x.1) x.2.1) x.2.2.1) x.2.2.2.1) x.2.2.2.2)).symm
  rw [dif_neg h]; clear h
  by_cases h : f = 10
  · subst h; funext x; rw [dif_pos rfl]; exact ((congrFun (e10 n) x)).symm
  rw [dif_neg h]; clear h
  by_cases h : f = 153
  · subst h; funext x; rw [dif_pos rfl]; exact ((congrFun (e153 n) x)).symm
  rw [dif_neg h]; clear h
  by_cases h : f = 177
  · subst h; funext x; rw [dif_pos rfl]; exact ((congrFun (e177 n) x)).symm
  rw [dif_neg h]; clear h
  by_cases h : f = 154
  · subst h; funext x; rw [dif_pos rfl]; exact ((congrFun (congrFun (e154 n) x.1) x.2)).symm
  rw [dif_neg h]; clear h
  by_cases h : f = 179
  · subst h; funext x; rw [dif_pos rfl]; exact ((congrFun (e179 n) x)).symm
  rw [dif_neg h]
theorem law_k : @Eq (Option Bool) (runK E (strictC E (RC 1000)) 1000 s3 () h3) (some true) := by kernel_rfl
theorem law_h (x : s3.ins.den) : runHow E (evalF E 1000) 1000 s3 x h3 = runK E (strictC E (RC 1000)) 1000 s3 x h3 := by rw [strictC_eq, RC_eq, runK_eq]
theorem law_run (x : s3.ins.den) : runHow E (evalF E 1000) 1000 s3 x h3 = some true := (law_h x).trans law_k
theorem okAll : EntriesOK Tryz.prog NoX 0 E.fns := ⟨trivial,
  trivial,
  trivial,
  ok3 NoX,
  trivial,
  ok5 NoX,
  ok6 NoX,
  ok7 NoX,
  ok8 NoX,
  ok9 NoX,
  ok10 NoX,
  trivial,
  trivial,
  ok13 NoX,
  ok14 NoX,
  ok15 NoX,
  ok16 NoX,
  ok17 NoX,
  ok18 NoX,
  ok19 NoX,
  ok20 NoX,
  ok21 NoX,
  ok22 NoX,
  ok23 NoX,
  trivial,
  trivial,
  trivial,
  trivial,
  trivial,
  ok29 NoX,
  fun _ _ _ h => PortX.Of_spec NoX_ok h,
  ok31 NoX,
  ok32 NoX,
  ok33 NoX,
  trivial,
  trivial,
  trivial,
  trivial,
  trivial,
  trivial,
  trivial,
  trivial,
  ok42 NoX,
  ok43 NoX,
  ok44 NoX,
  ok45 NoX,
  ok46 NoX,
  ok47 NoX,
  ok48 NoX,
  ok49 NoX,
  ok50 NoX,
  ok51 NoX,
  ok52 NoX,
  fun _ _ _ h => PortX.next_spec NoX_ok h,
  ok54 NoX,
  ok55 NoX,
  ok56 NoX,
  ok57 NoX,
  ok58 NoX,
  ok59 NoX,
  ok60 NoX,
  ok61 NoX,
  ok62 NoX,
  ok63 NoX,
  trivial,
  trivial,
  trivial,
  trivial,
  trivial,
  trivial,
  ok70 NoX,
  ok71 NoX,
  ok72 NoX,
  fun _ _ _ h => PortX.Behind_spec NoX_ok h,
  trivial,
  trivial,
  trivial,
  trivial,
  trivial,
  trivial,
  trivial,
  trivial,
  trivial,
  trivial,
  trivial,
  trivial,
  trivial,
  trivial,
  trivial,
  trivial,
  trivial,
  trivial,
  trivial,
  trivial,
  trivial,
  trivial,
  trivial,
  ok97 NoX,
  ok98 NoX,
  ok99 NoX,
  ok100 NoX,
  ok101 NoX,
  fun _ _ _ h => NameX.Clone_spec h,
  ok103 NoX,
  ok104 NoX,
  fun _ _ _ h => PortX.CloneI_spec NoX_ok h,
  ok106 NoX,
  ok107 NoX,
  ok108 NoX,
  ok109 NoX,
  ok110 NoX,
  ok111 NoX,
  ok112 NoX,
  trivial,
  trivial,
  ok115 NoX,
  fun _ _ _ h => PortX.Count_spec h,
  ok117 NoX,
  ok118 NoX,
  ok119 NoX,
  ok120 NoX,
  trivial,
  trivial,
  trivial,
  trivial,
  trivial,
  trivial,
  trivial,
  trivial,
  trivial,
  trivial,
  trivial,
  trivial,
  trivial,
  trivial,
  trivial,
  trivial,
  trivial,
  trivial,
  trivial,
  trivial,
  fun _ _ _ h => NameX.CloneR_spec h,
  fun _ _ _ h => NameX.SortR_spec h,
  ok143 NoX,
  fun _ _ _ h => NameX.CompactR_spec h,
  ok145 NoX,
  fun _ _ _ h => NameX.GrowR_spec h,
  ok147 NoX,
  fun _ _ _ h => PortX.IndexByte_spec h,
  ok149 NoX,
  ok150 NoX,
  ok151 NoX,
  trivial,
  ok153 NoX,
  ok154 NoX,
  ok155 NoX,
  ok156 NoX,
  trivial,
  trivial,
  trivial,
  trivial,
  trivial,
  trivial,
  trivial,
  trivial,
  trivial,
  trivial,
  trivial,
  trivial,
  trivial,
  trivial,
  trivial,
  trivial,
  trivial,
  trivial,
  fun _ _ _ h => NameX.Compare_spec h,
  ok176 NoX,
  ok177 NoX,
  ok178 NoX,
  ok179 NoX,
  ok180 NoX, trivial⟩
theorem mixed : Tryz.prog.follows .mixedOrders = true := by kernel_rfl
theorem calls (n : Nat) : CallOK Tryz.prog NoX E (evalF E n) := evalF_sound NoX_ok tys mixed (entries_fn okAll) n
end Go.Proofs.YtjidbphhcekelaaGreat.EPortKnown
