import Derived.Test.YtfajdeofhioakaaGreatJA0
import Derived.Test.YtfajdeofhioakaaGreatJKS

set_option maxRecDepth 1000000

namespace Go.Proofs.YtfajdeofhioakaaGreat.kq

open Go Go.AI Go.AI.EV
def kp1 : PV := .prim (.string ⟨#[78, 97, 116]⟩)
def kp2 : PV := .prim (.slice none 0 0)
def kp3 : PV := .prim (.int .i64 3)
def kp4 : PV := .prim (.int .i64 0)
def ka1 : AV := .agg [.p kp3, .p kp4, .p kp1, .p kp2, .p kp2]
def ea0 : List AV := [.p kp1, .p kp2]
def ev0 : AV := ka1
def kp5 : PV := .prim (.int .i64 1)
def kp6 : PV := .prim (.string ⟨#[]⟩)
def ka2 : AV := .agg [.p kp4, .p kp5, .p kp6, .p kp2, .p kp2]
def kp7 : PV := .prim (.int .i64 4)
def kp8 : PV := .prim (.string ⟨#[86, 101, 99]⟩)
def kr1 : List PV := [kp3, kp4, kp8, kp2, kp2]
def kr2 : List PV := [kp4, kp5, kp6, kp2, kp2]
def ka3 : AV := .p (.sl 5 [kr1, kr2])
def ka4 : AV := .agg [.p kp7, .p kp4, .p kp6, .p kp2, ka3]
def ea1 : List AV := [ka2]
def ev1 : AV := ka4
def ea2 : List AV := [ka1]
def ev2 : AV := ka1
def ea3 : List AV := [ka1, .p kp4]
def ev3 : AV := ka1
def ea4 : List AV := [.p kp7, .p kp4]
def ev4 : AV := .p kp4
def ka5 : AV := .agg [.p kp3, .p kp4, .p kp8, .p kp2, .p kp2]
def ea5 : List AV := [ka5]
def ev5 : AV := ka5
def ea6 : List AV := [.p kp7, .p kp5]
def ev6 : AV := .p kp4
def kr3 : List PV := [kp4, kp4, kp6, kp2, kp2]
def ea7 : List AV := [.agg [.p kp7, .p kp4, .p kp6, .p kp2, .p (.sl 5 [kr1, kr3])], .p kp5, .p kp4]
def ev7 : AV := ka4
def kp9 : PV := .prim (.int .i64 6)
def kr4 : List PV := [kp3, kp4, kp1, kp2, kp2]
def kr5 : List PV := [kp7, kp4, kp6, kp2, .sl 5 [kr1, kr2]]
def rC : PV := .prim (.int .i64 2)
def hK : PV := .prim (.bool false)
def ka6 : AV := .p (.sl 1 [[hK], [hK]])
def ka7 : AV := .p (.sl 5 [kr3, kr3])
def ka8 : AV := .agg [.p (.sl 5 [kr4, kr5]), ka6, ka7, .p kp7, .p kp4, .p kp6, .p kp2, ka3]
def ea8 : List AV := [.agg [.p kp9, .p kp4, .p kp6, .p kp2, .p (.sl 5 [kr4, [kp9, kp4, kp6, kp2, .sl 5 [[kp7, kp4, kp6, kp2, .sl 5 [kr1, kr3]], kr5]]])], .p rC]
def ev8 : AV := .tup [ka8, .p kp4]
def aUz : PV := .prim (.string ⟨#[78, 97, 116, 46, 122, 101, 114, 111]⟩)
def aV0 : PV := .prim (.string ⟨#[78, 97, 116, 46, 115, 117, 99, 99]⟩)
def aM8 : PV := .sl 5 [kr4, kr4]
def kp15 : PV := .sl 6 [[aUz, kp3, kp4, kp1, kp2, kp2], [aV0, kp9, kp4, kp6, kp2, aM8]]
def aV1 : PV := .sl 5 [kr4, [rC, kp4, kp6, .sl 2 [[kp4, kp2]], kp2]]
def aRr : PV := .prim (.string ⟨#[86, 101, 99, 46, 110, 105, 108]⟩)
def kr6 : List PV := [kp3, kp4, aUz, kp2, kp2]
def aM9 : PV := .prim (.string ⟨#[86, 101, 99, 46, 99, 111, 110, 115]⟩)
def kr7 : List PV := [kp3, kp4, aV0, kp2, kp2]
def kr8 : List PV := [kp4, rC, kp6, kp2, kp2]
def kr9 : List PV := [kp7, kp4, kp6, kp2, .sl 5 [kr7, kr8]]
def kr10 : List PV := [kp7, kp4, kp6, kp2, .sl 5 [kr1, kr9]]
def aYq : PV := .sl 5 [kr4, [kp9, kp4, kp6, kp2, .sl 5 [kr4, [kp9, kp4, kp6, kp2, .sl 5 [kr5, kr10]]]]]
def kp20 : PV := .sl 6 [[aRr, kp7, kp4, kp6, kp2, .sl 5 [kr1, kr6]], [aM9, kp9, kp4, kp6, kp2, aYq]]
def kp21 : PV := .prim (.string ⟨#[70, 105, 110]⟩)
def aYs : List PV := [kp3, kp4, kp21, kp2, kp2]
def aYt : List PV := [kp7, kp4, kp6, kp2, .sl 5 [kr7, kr3]]
def aYu : List PV := [kp7, kp4, kp6, kp2, .sl 5 [kr7, kr2]]
def kp22 : PV := .prim (.string ⟨#[69, 113]⟩)
def kp23 : PV := .sl 2 [[kp4, .sl 2 [[kp4, kp4]]]]
def kr14 : List PV := [rC, kp4, kp6, kp23, kp2]
def kp24 : PV := .prim (.string ⟨#[83, 111, 109, 101]⟩)
def ka9 : AV := .p (.sl 23 [[kp3, kp1, kp4, rC, kp4, kp6, .sl 2 [[kp4, kp2]], kp2, kp4, kp4, kp6, kp2, kp2, kp4, kp15, kp5, kp3, kp4, kp1, kp2, kp2, aM8, kp2], [kp3, kp8, kp4, kp9, kp4, kp6, kp2, aV1, kp4, kp4, kp6, kp2, kp2, kp4, kp20, kp5, kp3, kp4, kp1, kp2, kp2, aM8, kp2], [kp3, kp21, kp4, kp9, kp4, kp6, kp2, aV1, kp4, kp4, kp6, kp2, kp2, kp4, .sl 6 [[.prim (.string ⟨#[70, 105, 110, 46, 122, 101, 114, 111]⟩), kp9, kp4, kp6, kp2, .sl 5 [kr4, [kp7, kp4, kp6, kp2, .sl 5 [aYs, aYt]]]], [.prim (.string ⟨#[70, 105, 110, 46, 115, 117, 99, 99]⟩), kp9, kp4, kp6, kp2, .sl 5 [kr4, [kp9, kp4, kp6, kp2, .sl 5 [[kp7, kp4, kp6, kp2, .sl 5 [aYs, kr3]], [kp7, kp4, kp6, kp2, .sl 5 [aYs, aYu]]]]]]], kp5, kp3, kp4, kp1, kp2, kp2, aM8, kp2], [kp3, kp22, kp5, kp9, kp4, kp6, kp2, .sl 5 [kr14, [kp9, kp4, kp6, kp2, .sl 5 [kr3, [kp9, kp4, kp6, kp2, .sl 5 [kr2, [kp5, kp4, kp6, kp2, kp2]]]]]], kp4, kp4, kp6, kp2, kp2, rC, .sl 6 [[.prim (.string ⟨#[69, 113, 46, 114, 101, 102, 108]⟩), kp9, kp4, kp6, kp2, .sl 5 [kr14, [kp9, kp4, kp6, kp2, .sl 5 [kr3, [kp7, kp4, kp6, kp2, .sl 5 [[kp7, kp4, kp6, kp2, .sl 5 [[kp7, kp4, kp6, kp2, .sl 5 [[kp3, kp4, kp22, kp23, kp2], kr2]], kr3]], kr3]]]]]]], rC, kp3, kp4, kp1, kp2, kp2, .sl 5 [kr4], kp2], [kp3, kp24, kp4, kp5, kp4, kp6, kp2, kp2, kp4, kp4, kp6, kp2, kp2, kp4, .sl 6 [[.prim (.string ⟨#[83, 111, 109, 101, 46, 105, 110, 116, 114, 111]⟩), kp9, kp4, kp6, kp2, .sl 5 [kr4, [kp3, kp4, kp24, kp2, kp2]]]], kp4, kp3, kp4, kp1, kp2, kp2, .sl 5 [kr4], kp2]])
def ea9 : List AV := []
def ev9 : AV := ka9
def aNe : List AV := [ka4]
def aO2 : AV := .tup [ka5, .p (.sl 5 [kr2])]
def aNf : List AV := [ka9, .p kp8]
def aO3 : AV := .tup [.agg [.p kp3, .p kp5, .p kp4, .p kp4, .p kp9, .p kp4, .p kp6, .p kp2, .p aV1], .p kp4]
def aWy : AV := .p (.sl 2 [[kp4, kp2]])
def aNg : List AV := [.agg [.p kp9, .p kp4, .p kp6, .p kp2, .p aV1]]
def aO4 : AV := .tup [.p (.sl 5 [kr4]), .agg [.p rC, .p kp4, .p kp6, aWy, .p kp2]]
def aFc : AV := .p (.prim (.bool true))
def aNh : List AV := [.p kp2, .p kp2, .p (.prim (.func (.func 82) #[] #[]))]
def aO5 : AV := aFc
def ka12 : AV := .p (.prim (.func (.func 27) #[] #[]))
def aNi : List AV := [.p kp2, .p kp2, ka12]
def aO6 : AV := aFc
def aPw : List AV := [ka5, ka5]
def aQq : AV := aFc
def aNj : List AV := [.p (.sl 5 []), .p kp2, ka12]
def aO7 : AV := aFc
def aNk : List AV := [.p kp2]
def aO8 : AV := .tup []
def ka13 : AV := .agg [.p kp3, .p kp4, .p kp8, .p kp2, .p kp2, .p (.sl 5 []), .p kp5]
def aX2 : PV := .sl 5 [kr4, kr4, kr5]
def aYr : PV := .sl 3 [[rC, kp2, .sl 5 [kr2]]]
def aSv : List AV := [ka13, .p aX2]
def aTt : AV := .p aYr
def aWm : List AV := [ka13, .agg [.p aM9, .p kp9, .p kp4, .p kp6, .p kp2, .p aYq]]
def aWs : AV := .tup [.agg [.p aM9, .p aX2, .p aYr, .p (.sl 5 [kr9])], aFc]
def aYc : List AV := [.agg [.p kp3, .p kp8, .p kp4, .p kp9, .p kp4, .p kp6, .p kp2, .p aV1, .p kp4, .p kp4, .p kp6, .p kp2, .p kp2, .p kp4, .p kp20, .p kp5, .p kp3, .p kp4, .p kp1, .p kp2, .p kp2, .p aM8, .p kp2]]
def aYe : AV := .tup [.agg [.p kp8, .p kp4, .p (.sl 5 []), .p (.sl 5 [kr4]), .p rC, .p kp4, .p kp6, aWy, .p kp2, .p (.sl 4 [[aRr, kp2, kp2, .sl 5 [kr6]], [aM9, aX2, aYr, .sl 5 [kr9]]])], .p kp4]
def aYm : AV := .agg [.p kp7, .p kp4, .p kp6, .p kp2, .p kp2]
def aNl : List AV := [ka4]
def aO9 : AV := aYm
def aPx : List AV := [ka4, .p kp4, .p kp4]
def aQr : AV := ka4
def aK0 : AV := .agg [.p kp3, .p kp4, .p aUz, .p kp2, .p kp2]
def aNm : List AV := [aK0]
def aOa : AV := aK0
def aPy : List AV := [aK0, .p kp2]
def aQs : AV := .tup [aK0, .p kp4]
def aNn : List AV := [ka2, .p kp4, .p kp4]
def aOb : AV := ka2
def aE9 : PV := .prim (.int .i64 (-1))
def aNo : List AV := []
def aOc : AV := .agg [aFc, .p hK, .p kp4, .p kp4, .p aE9, .p hK, .p hK, .p kp4, .p kp4, .p aE9, .p hK, .p hK, .p kp5, .p kp4, .p aE9, .p hK, aFc, .p aE9, .p kp4, .p aE9, .p hK, .p hK, .p kp4, .p rC, .p aE9, .p hK, .p hK, .p kp4, .p rC, .p kp5, .p hK, .p hK, .p kp4, .p rC, .p kp5, .p hK, .p hK, .p kp4, .p rC, .p kp5, .p hK, .p hK, .p kp4, .p kp3, .p aE9, .p hK, .p hK, .p kp4, .p kp5, .p aE9, .p hK, .p hK, .p kp4, .p kp5, .p aE9, .p hK, .p hK, .p kp4, .p kp3, .p rC, aFc, .p hK, .p kp4, .p kp4, .p aE9]
def aUu : AV := .agg [.p kp4, .p kp4, .p kp6, .p kp2, .p kp2]
def aPz : List AV := [aUu]
def aQt : AV := .p kp5
def aQ0 : List AV := [ka2]
def aQu : AV := .p kp5
def aWz : AV := .p (.sl 5 [kr3, kr2])
def aSw : List AV := [aK0, aWz, .p kp4]
def aTu : AV := .tup [aK0, .p kp4]
def aNp : List AV := [ka9, .p aUz]
def aOd : AV := .tup [.agg [.p kp7, .p kp4, .p kp4, .p kp4, .p kp3, .p kp4, .p kp1, .p kp2, .p kp2], .p kp4]
def aQ1 : List AV := [ka9, aK0]
def aQv : AV := .tup [aK0, .p kp4]
def aSx : List AV := [ka2, aWz, .p kp4]
def aTv : AV := .tup [ka2, .p kp4]
def aQ2 : List AV := [aK0]
def aQw : AV := .p kp5
def aNq : List AV := [aUu, .p kp4, .p kp4]
def aOe : AV := aUu
def ka18 : AV := .p (.sl 5 [kr3, kr6])
def aSy : List AV := [aUu, ka18, .p kp4]
def aTw : AV := .tup [aUu, .p kp4]
def aUv : AV := .agg [.p kp3, .p kp4, .p aRr, .p kp2, .p kp2]
def aSz : List AV := [aUv, ka18, .p kp4]
def aTx : AV := .tup [aUv, .p kp4]
def aT0 : List AV := [aUv, aWz, .p kp4]
def aTy : AV := .tup [aUv, .p kp4]
def aQ3 : List AV := [aUv]
def aQx : AV := .p kp5
def aYv : List PV := [kp3, kp4, aRr, kp2, kp2]
def ka20 : AV := .agg [.p kp7, .p kp4, .p kp6, .p kp2, .p (.sl 5 [kr1, kr6])]
def aT1 : List AV := [ka4, .p (.sl 5 [aYv, kr6]), .p kp4]
def aTz : AV := .tup [ka20, .p kp4]
def aMa : List PV := [.prim (.bool true)]
def aWn : List AV := [.p (.sl 1 [aMa, aMa]), .p (.sl 5 [kr6, aYv]), ka4]
def aWt : AV := .tup [ka20, aFc]
def aCf : List PV := [kp4, kp7, kp6, kp2, kp2]
def aRl : AV := .agg [.p kp7, .p kp4, .p kp6, .p kp2, .p (.sl 5 [kr1, aCf])]
def aQ4 : List AV := [ka4, .p kp3, .p kp4]
def aQy : AV := aRl
def aRm : AV := .tup [ka1, .p kp4]
def aQ5 : List AV := [ka1, .p kp2]
def aQz : AV := aRm
def aUw : AV := .agg [.p kp4, .p rC, .p kp6, .p kp2, .p kp2]
def aQ6 : List AV := [aUw]
def aR0 : AV := .p kp5
def aT2 : List AV := [ka1, .p (.sl 5 [kr8]), .p kp4]
def aU0 : AV := aRm
def aQ7 : List AV := [ka4, .p kp2]
def aR1 : AV := .tup [ka4, .p kp4]
def aNr : List AV := [aUw, .p kp4, .p kp4]
def aOf : AV := aUw
def aRn : AV := .agg [.p kp7, .p kp4, .p kp6, .p kp2, .p (.sl 5 [kr1, kr8])]
def aT3 : List AV := [ka4, .p (.sl 5 [kr2, kr8]), .p kp4]
def aU1 : AV := .tup [aRn, .p kp4]
def aGq : AV := .agg [.p kp7, .p kp4, .p kp6, .p kp2, .p (.sl 5 [kr7, kr8])]
def aNs : List AV := [aGq]
def aOg : AV := aYm
def ka26 : AV := .agg [.p kp3, .p kp4, .p aV0, .p kp2, .p kp2]
def aNt : List AV := [ka26]
def aOh : AV := ka26
def aUx : AV := .tup [aGq, .p kp4]
def aQ8 : List AV := [aGq, .p kp2]
def aR2 : AV := aUx
def aNu : List AV := [aGq]
def aOi : AV := .p rC
def aT4 : List AV := [aGq, .p (.sl 5 [kr3, kr2, kr8]), .p kp4]
def aU2 : AV := aUx
def aK1 : AV := .agg [.p kp4, .p kp3, .p kp6, .p kp2, .p kp2]
def aQ9 : List AV := [aK1]
def aR3 : AV := .p kp5
def aK2 : AV := .agg [.p kp4, .p kp7, .p kp6, .p kp2, .p kp2]
def aQa : List AV := [aK2]
def aR4 : AV := .p kp5
def aYw : List PV := [kp4, kp3, kp6, kp2, kp2]
def aRo : AV := .p (.sl 5 [kr3, kr2, kr8, aYw, aCf])
def aT5 : List AV := [aGq, aRo, .p kp4]
def aU3 : AV := aUx
def aNv : List AV := [ka9, .p aV0]
def aOj : AV := .tup [.agg [.p kp7, .p kp4, .p kp5, .p kp4, .p kp9, .p kp4, .p kp6, .p kp2, .p aM8], .p kp4]
def aQb : List AV := [ka9, aGq]
def aR5 : AV := aUx
def aNw : List AV := [aK2, .p kp4, .p kp4]
def aOk : AV := aK2
def aT6 : List AV := [aK2, aRo, .p kp4]
def aU4 : AV := .tup [aK2, .p kp4]
def aQc : List AV := [ka9, aK2]
def aR6 : AV := .tup [aK2, .p kp4]
def aQd : List AV := [aGq]
def aR7 : AV := .p kp3
def aNx : List AV := [aK1, .p kp4, .p kp4]
def aOl : AV := aK1
def ka31 : AV := .p (.sl 5 [kr3, kr2, kr8, aYw, kr9])
def aT7 : List AV := [aK1, ka31, .p kp4]
def aU5 : AV := .tup [aK1, .p kp4]
def aQe : List AV := [ka9, aK1]
def aR8 : AV := .tup [aK1, .p kp4]
def kr19 : List PV := [kp3, kp4, aM9, kp2, kp2]
def kp28 : PV := .sl 5 [[kp7, kp4, kp6, kp2, .sl 5 [[kp7, kp4, kp6, kp2, .sl 5 [kr19, kr8]], kr2]], kr3]
def aOz : AV := .agg [.p kp7, .p kp4, .p kp6, .p kp2, .p kp28]
def aT8 : List AV := [aOz, ka31, .p kp4]
def aU6 : AV := .tup [aOz, .p kp4]
def aNy : List AV := [ka9, .p aM9]
def aOm : AV := .tup [.agg [.p kp7, .p kp5, .p kp5, .p kp4, .p kp9, .p kp4, .p kp6, .p kp2, .p aYq], .p kp4]
def aQf : List AV := [aOz, .p kp3]
def aR9 : AV := .p hK
def aT9 : List AV := [aOz, aRo, .p kp4]
def aU7 : AV := .tup [aOz, .p kp4]
def ka33 : AV := .p (.prim (.int .i64 7))
def aQg : List AV := [aOz]
def aRa : AV := ka33
def aYx : List PV := [kp7, kp4, kp6, kp2, kp28]
def aTa : List AV := [aGq, .p (.sl 5 [kr3, kr2, kr8, aYx, aCf]), .p kp4]
def aU8 : AV := aUx
def aYn : AV := .p (.sl 5 [kr3, kr2, kr8, aYx, kr9])
def aTb : List AV := [ka1, aYn, .p kp4]
def aU9 : AV := aRm
def aX3 : PV := .sl 1 [aMa, aMa, [hK], [hK], [hK]]
def aX4 : PV := .sl 5 [kr9, aYx, kr3, kr3, kr3]
def aWo : List AV := [.p aX3, .p aX4, ka1]
def aWu : AV := aRm
def aQh : List AV := [aGq, .p kp4, .p kp4]
def aRb : AV := aGq
def ka35 : AV := .p (.sl 5 [kr1, kr9])
def ka36 : AV := .agg [.p kp7, .p kp4, .p kp6, .p kp2, ka35]
def aTc : List AV := [aRl, aYn, .p kp4]
def aUa : AV := .tup [ka36, .p kp4]
def aWp : List AV := [.p aX3, .p aX4, aRl]
def aWv : AV := .tup [ka36, aFc]
def aTd : List AV := [aRn, aYn, .p kp4]
def aUb : AV := .tup [aRn, .p kp4]
def kp31 : PV := .sl 5 [kr4, kr10, kr4, kr4, [kp7, kp4, kp6, kp2, .sl 5 [kr1, kr8]]]
def ea77 : List AV := [ka9, ka8, .p kp5]
def ev77 : AV := .tup [.p (.sl 11 [[aRr, hK, kp4, .sl 5 [kr4, [kp7, kp4, kp6, kp2, .sl 5 [kr1, kr6]]], .sl 1 [aMa, aMa], .sl 5 [kr6, aYv], kp7, kp4, kp6, kp2, .sl 5 [kr1, kr6]], [aM9, hK, kp3, kp31, aX3, aX4, kp7, kp4, kp6, kp2, .sl 5 [kr1, kr9]]]), .p kp4]
def aX0 : AV := .agg [.p kp7, .p kp4, .p kp6, .p kp2, .p (.sl 5 [kr1, aYu])]
def aQi : List AV := [.agg [.p kp7, .p kp4, .p kp6, .p kp2, .p (.sl 5 [kr1, aYt])], .p kp5, .p kp4]
def aRc : AV := aX0
def ka38 : AV := .agg [.p (.sl 5 [kr4, [kp7, kp4, kp6, kp2, .sl 5 [kr1, aYu]]]), ka6, ka7, .p kp7, .p kp4, .p kp6, .p kp2, ka3]
def aTe : List AV := [.agg [.p kp9, .p kp4, .p kp6, .p kp2, .p (.sl 5 [kr4, [kp9, kp4, kp6, kp2, .sl 5 [[kp7, kp4, kp6, kp2, .sl 5 [kr1, aYt]], kr5]]])], .p rC]
def aUc : AV := .tup [ka38, .p kp4]
def aRp : AV := .agg [.p kp7, .p kp4, .p kp6, .p kp2, .p (.sl 5 [kr7, kr2])]
def aNz : List AV := [aRp]
def aOn : AV := aYm
def aQj : List AV := [aX0, .p kp4, .p kp4]
def aRd : AV := aX0
def aQk : List AV := [aRp, .p kp4, .p kp4]
def aRe : AV := aRp
def aTf : List AV := [aRp, aWz, .p kp4]
def aUd : AV := .tup [aRp, .p kp4]
def aQl : List AV := [.agg [.p kp3, .p kp4, .p kp1, .p kp2, .p kp2, .p kp2, .p kp4], ka1, .p kp4]
def aRf : AV := .tup [.p kp2, aFc]
def aO0 : List AV := [.agg [.p kp9, .p kp4, .p kp6, .p kp2, .p aM8]]
def aOo : AV := .tup [.p (.sl 5 [kr4]), ka1]
def aTg : List AV := [.agg [.p kp3, .p kp1, .p kp4, .p rC, .p kp4, .p kp6, aWy, .p kp2, .p kp4, .p kp4, .p kp6, .p kp2, .p kp2, .p kp4, .p kp15, .p kp5, .p kp3, .p kp4, .p kp1, .p kp2, .p kp2, .p aM8, .p kp2]]
def aUe : AV := .tup [.agg [.p kp1, .p kp4, .p kp2, .p kp2, .p rC, .p kp4, .p kp6, aWy, .p kp2, .p (.sl 4 [[aUz, kp2, kp2, kp2], [aV0, .sl 5 [kr4], .sl 3 [[kp4, kp2, kp2]], kp2]])], .p kp4]
def kp32 : PV := .sl 5 [kr1, [kp7, kp4, kp6, kp2, .sl 5 [kr7, aCf]]]
def aYo : AV := .agg [.p kp7, .p kp4, .p kp6, .p kp2, .p kp32]
def aQm : List AV := [aX0, .p kp3, .p kp4]
def aRg : AV := aYo
def aYp : AV := .agg [.p kp7, .p kp4, .p kp6, .p kp2, .p (.sl 5 [kr7, aCf])]
def aQn : List AV := [aRp, .p kp3, .p kp4]
def aRh : AV := aYp
def aTh : List AV := [aYp, aRo, .p kp4]
def aUf : AV := .tup [aYp, .p kp4]
def aTi : List AV := [aUw, aRo, .p kp4]
def aUg : AV := .tup [aUw, .p kp4]
def ka42 : AV := .p (.sl 5 [kr3, kr2, aCf, aYw, aCf])
def aTj : List AV := [aK1, ka42, .p kp4]
def aUh : AV := .tup [aK1, .p kp4]
def kp33 : PV := .sl 5 [[kp7, kp4, kp6, kp2, .sl 5 [[kp7, kp4, kp6, kp2, .sl 5 [kr19, aCf]], kr2]], kr3]
def aUy : AV := .agg [.p kp7, .p kp4, .p kp6, .p kp2, .p kp33]
def aTk : List AV := [aOz, ka42, .p kp4]
def aUi : AV := .tup [aUy, .p kp4]
def aQo : List AV := [aUy, .p kp3]
def aRi : AV := .p hK
def aTl : List AV := [aUy, aRo, .p kp4]
def aUj : AV := .tup [aUy, .p kp4]
def aQp : List AV := [aUy]
def aRj : AV := ka33
def aYy : List PV := [kp7, kp4, kp6, kp2, kp33]
def aTm : List AV := [aK2, .p (.sl 5 [kr3, kr2, kr8, aYy, aCf]), .p kp4]
def aUk : AV := .tup [aK2, .p kp4]
def aX1 : AV := .p (.sl 5 [kr3, kr2, aCf, aYy, aCf])
def aTn : List AV := [ka1, aX1, .p kp4]
def aUl : AV := aRm
def kp34 : PV := .sl 1 [[hK], aMa, aMa, [hK], [hK]]
def kp35 : PV := .sl 5 [kr3, aYy, aCf, kr3, kr3]
def aWq : List AV := [.p kp34, .p kp35, ka1]
def aWw : AV := aRm
def aTo : List AV := [aYo, aX1, .p kp4]
def aUm : AV := .tup [aYo, .p kp4]
def aFt : List AV := [aRn, aX1, .p kp4]
def aG2 : AV := .tup [aRl, .p kp4]
def aFu : List AV := [aRl, aX1, .p kp4]
def aG3 : AV := .tup [aRl, .p kp4]
def aSu : List AV := [ka9, ka38, .p kp5]
def aTs : AV := .tup [.p (.sl 11 [[aRr, .prim (.bool true), kp4, kp2, kp2, kp2, kp4, kp4, kp6, kp2, kp2], [aM9, hK, kp3, .sl 5 [kr4, [kp7, kp4, kp6, kp2, kp32], kr4, kr4, [kp7, kp4, kp6, kp2, .sl 5 [kr1, aCf]]], kp34, kp35, kp7, kp4, kp6, kp2, .sl 5 [kr1, aCf]]]), .p kp4]
def aDx : List AV := [ka1]
def aE1 : AV := .p kp2
def ka45 : AV := .p (.prim (.int .u64 5))
def aA5 : List AV := [.p (.prim (.int .u64 1)), ka45]
def aA8 : AV := .tup [.p (.prim (.int .u64 0)), ka45]
def aDy : List AV := [aRn]
def aE2 : AV := .p (.sl 1 [[rC]])
def aDz : List AV := [aRn, .p (.sl 1 [[aE9], [kp4], [kp5], [aE9], [aE9]])]
def aE3 : AV := .tup [ka4, .p kp4]
def aFv : List AV := [.agg [.p kp31, .p aX3, .p aX4, .p kp7, .p kp4, .p kp6, .p kp2, ka35]]
def aG4 : AV := .tup [.p (.sl 1 [[rC], [kp3], [kp7]]), .p aX2, .p kp4]
def aYb : List AV := []
def aYd : AV := aFc
def fzT (f : Nat) : Bool := Nat.beq f 172

end Go.Proofs.YtfajdeofhioakaaGreat.kq

set_option maxRecDepth 1000000

namespace Go.Proofs.YtfajdeofhioakaaGreat.kq

open Go Go.AI Go.AI.EV
def kt0 : KT := .nil
theorem bL : aFb Tryz.prog kt0 := trivial

end Go.Proofs.YtfajdeofhioakaaGreat.kq

set_option maxRecDepth 1000000

namespace Go.Proofs.YtfajdeofhioakaaGreat.kq

open Go Go.AI Go.AI.EV
theorem aSd : aY Tryz.prog 115 aNy aOm := aK aH bL fzT aG 60 (by decide +kernel)
theorem aRu : aY Tryz.prog 115 aNf aO3 := aK aH bL fzT aG 60 (by decide +kernel)
theorem aSa : aY Tryz.prog 115 aNv aOj := aK aH bL fzT aG 60 (by decide +kernel)
theorem aS4 : aY Tryz.prog 115 aNp aOd := aK aH bL fzT aG 60 (by decide +kernel)
theorem aS2 : aY Tryz.prog 95 aNn aOb := aK aH bL fzT aG 60 (by decide +kernel)
theorem aS5 : aY Tryz.prog 95 aNq aOe := aK aH bL fzT aG 60 (by decide +kernel)
theorem aS6 : aY Tryz.prog 95 aNr aOf := aK aH bL fzT aG 60 (by decide +kernel)
theorem aSb : aY Tryz.prog 95 aNw aOk := aK aH bL fzT aG 60 (by decide +kernel)
theorem aSc : aY Tryz.prog 95 aNx aOl := aK aH bL fzT aG 60 (by decide +kernel)
theorem aS9 : aY Tryz.prog 237 aNu aOi := aK aH bL fzT aG 60 (by decide +kernel)
theorem pu1 : aY Tryz.prog 38 ea1 ev1 := aK aH bL fzT aG 60 (by decide +kernel)
theorem aRt : aY Tryz.prog 26 aNe aO2 := aK aH bL fzT aG 60 (by decide +kernel)
theorem aEm : aY Tryz.prog 193 aA5 aA8 := aK aH bL fzT aG 60 (by decide +kernel)
theorem aRv : aY Tryz.prog 73 aNg aO4 := aK aH bL fzT aG 60 (by decide +kernel)
theorem aSf : aY Tryz.prog 73 aO0 aOo := aK aH bL fzT aG 60 (by decide +kernel)
theorem aRy : aY Tryz.prog 166 aNj aO7 := aK aH bL fzT aG 60 (by decide +kernel)
theorem pu6 : aY Tryz.prog 146 ea6 ev6 := aK aH bL fzT aG 60 (by decide +kernel)
theorem pu2 : aY Tryz.prog 101 ea2 ev2 := aK aH bL fzT aG 60 (by decide +kernel)
theorem pu5 : aY Tryz.prog 101 ea5 ev5 := aK aH bL fzT aG 60 (by decide +kernel)
theorem aS0 : aY Tryz.prog 101 aNl aO9 := aK aH bL fzT aG 60 (by decide +kernel)
theorem aS1 : aY Tryz.prog 101 aNm aOa := aK aH bL fzT aG 60 (by decide +kernel)
theorem aS7 : aY Tryz.prog 101 aNs aOg := aK aH bL fzT aG 60 (by decide +kernel)
theorem aS8 : aY Tryz.prog 101 aNt aOh := aK aH bL fzT aG 60 (by decide +kernel)
theorem aSe : aY Tryz.prog 101 aNz aOn := aK aH bL fzT aG 60 (by decide +kernel)
theorem aS3 : aY Tryz.prog 133 aNo aOc := aK aH bL fzT aG 60 (by decide +kernel)
theorem pu4 : aY Tryz.prog 146 ea4 ev4 := aK aH bL fzT aG 60 (by decide +kernel)
theorem aRw : aY Tryz.prog 81 aNh aO5 := aK aH bL fzT aG 60 (by decide +kernel)
theorem aRx : aY Tryz.prog 83 aNi aO6 := aK aH bL fzT aG 60 (by decide +kernel)
theorem aRz : aY Tryz.prog 80 aNk aO8 := aK aH bL fzT aG 60 (by decide +kernel)
theorem pu3 : aY Tryz.prog 45 ea3 ev3 := aK aH bL fzT aG 60 (by decide +kernel)
theorem pu0 : aY Tryz.prog 31 ea0 ev0 := aK aH bL fzT aG 60 (by decide +kernel)

end Go.Proofs.YtfajdeofhioakaaGreat.kq

set_option maxRecDepth 1000000

namespace Go.Proofs.YtfajdeofhioakaaGreat.kq

open Go Go.AI Go.AI.EV
def kt1 : KT := (.nd 95 [(aNn, aOb), (aNq, aOe), (aNr, aOf), (aNw, aOk), (aNx, aOl)] (.nd 73 [(aNg, aO4), (aO0, aOo)] (.nd 38 [(ea1, ev1)] (.nd 31 [(ea0, ev0)] (.nd 26 [(aNe, aO2)] .nil .nil) .nil) (.nd 45 [(ea3, ev3)] .nil .nil)) (.nd 81 [(aNh, aO5)] (.nd 80 [(aNk, aO8)] .nil .nil) (.nd 83 [(aNi, aO6)] .nil .nil))) (.nd 146 [(ea4, ev4), (ea6, ev6)] (.nd 115 [(aNf, aO3), (aNp, aOd), (aNv, aOj), (aNy, aOm)] (.nd 101 [(ea2, ev2), (ea5, ev5), (aNl, aO9), (aNm, aOa), (aNs, aOg), (aNt, aOh), (aNz, aOn)] .nil .nil) (.nd 133 [(aNo, aOc)] .nil .nil)) (.nd 193 [(aA5, aA8)] (.nd 166 [(aNj, aO7)] .nil .nil) (.nd 237 [(aNu, aOi)] .nil .nil))))
theorem bB : aFb Tryz.prog kt1 := ⟨List.forall_mem_cons.2 ⟨aS2, List.forall_mem_cons.2 ⟨aS5, List.forall_mem_cons.2 ⟨aS6, List.forall_mem_cons.2 ⟨aSb, List.forall_mem_cons.2 ⟨aSc, List.forall_mem_nil _⟩⟩⟩⟩⟩, ⟨List.forall_mem_cons.2 ⟨aRv, List.forall_mem_cons.2 ⟨aSf, List.forall_mem_nil _⟩⟩, ⟨List.forall_mem_cons.2 ⟨pu1, List.forall_mem_nil _⟩, ⟨List.forall_mem_cons.2 ⟨pu0, List.forall_mem_nil _⟩, ⟨List.forall_mem_cons.2 ⟨aRt, List.forall_mem_nil _⟩, trivial, trivial⟩, trivial⟩, ⟨List.forall_mem_cons.2 ⟨pu3, List.forall_mem_nil _⟩, trivial, trivial⟩⟩, ⟨List.forall_mem_cons.2 ⟨aRw, List.forall_mem_nil _⟩, ⟨List.forall_mem_cons.2 ⟨aRz, List.forall_mem_nil _⟩, trivial, trivial⟩, ⟨List.forall_mem_cons.2 ⟨aRx, List.forall_mem_nil _⟩, trivial, trivial⟩⟩⟩, ⟨List.forall_mem_cons.2 ⟨pu4, List.forall_mem_cons.2 ⟨pu6, List.forall_mem_nil _⟩⟩, ⟨List.forall_mem_cons.2 ⟨aRu, List.forall_mem_cons.2 ⟨aS4, List.forall_mem_cons.2 ⟨aSa, List.forall_mem_cons.2 ⟨aSd, List.forall_mem_nil _⟩⟩⟩⟩, ⟨List.forall_mem_cons.2 ⟨pu2, List.forall_mem_cons.2 ⟨pu5, List.forall_mem_cons.2 ⟨aS0, List.forall_mem_cons.2 ⟨aS1, List.forall_mem_cons.2 ⟨aS7, List.forall_mem_cons.2 ⟨aS8, List.forall_mem_cons.2 ⟨aSe, List.forall_mem_nil _⟩⟩⟩⟩⟩⟩⟩, trivial, trivial⟩, ⟨List.forall_mem_cons.2 ⟨aS3, List.forall_mem_nil _⟩, trivial, trivial⟩⟩, ⟨List.forall_mem_cons.2 ⟨aEm, List.forall_mem_nil _⟩, ⟨List.forall_mem_cons.2 ⟨aRy, List.forall_mem_nil _⟩, trivial, trivial⟩, ⟨List.forall_mem_cons.2 ⟨aS9, List.forall_mem_nil _⟩, trivial, trivial⟩⟩⟩⟩

end Go.Proofs.YtfajdeofhioakaaGreat.kq

set_option maxRecDepth 1000000

namespace Go.Proofs.YtfajdeofhioakaaGreat.kq

open Go Go.AI Go.AI.EV
theorem pu9 : aY Tryz.prog 29 ea9 ev9 := aK aH bB fzT aG 60 (by decide +kernel)
theorem aW2 : aY Tryz.prog 95 aQi aRc := aK aH bB fzT aG 60 (by decide +kernel)
theorem aVz : aY Tryz.prog 248 aQf aR9 := aK aH bB fzT aG 60 (by decide +kernel)
theorem aW8 : aY Tryz.prog 248 aQo aRi := aK aH bB fzT aG 60 (by decide +kernel)
theorem aW3 : aY Tryz.prog 95 aQj aRd := aK aH bB fzT aG 60 (by decide +kernel)
theorem aW6 : aY Tryz.prog 95 aQm aRg := aK aH bB fzT aG 60 (by decide +kernel)
theorem aW0 : aY Tryz.prog 233 aQg aRa := aK aH bB fzT aG 60 (by decide +kernel)
theorem aW9 : aY Tryz.prog 233 aQp aRj := aK aH bB fzT aG 60 (by decide +kernel)
theorem aHj : aY Tryz.prog 28 aDy aE2 := aK aH bB fzT aG 60 (by decide +kernel)

end Go.Proofs.YtfajdeofhioakaaGreat.kq

set_option maxRecDepth 1000000

namespace Go.Proofs.YtfajdeofhioakaaGreat.kq

open Go Go.AI Go.AI.EV
theorem aHk : aY Tryz.prog 55 aDz aE3 := aK aH bB fzT aG 60 (by decide +kernel)
theorem pu7 : aY Tryz.prog 95 ea7 ev7 := aK aH bB fzT aG 60 (by decide +kernel)
theorem aVr : aY Tryz.prog 173 aQ7 aR1 := aK aH bB fzT aG 60 (by decide +kernel)
theorem aVs : aY Tryz.prog 173 aQ8 aR2 := aK aH bB fzT aG 60 (by decide +kernel)
theorem aVh : aY Tryz.prog 95 aPx aQr := aK aH bB fzT aG 60 (by decide +kernel)
theorem aVo : aY Tryz.prog 95 aQ4 aQy := aK aH bB fzT aG 60 (by decide +kernel)
theorem aW1 : aY Tryz.prog 95 aQh aRb := aK aH bB fzT aG 60 (by decide +kernel)
theorem aW4 : aY Tryz.prog 95 aQk aRe := aK aH bB fzT aG 60 (by decide +kernel)
theorem aW7 : aY Tryz.prog 95 aQn aRh := aK aH bB fzT aG 60 (by decide +kernel)
theorem aVv : aY Tryz.prog 72 aQb aR5 := aK aH bB fzT aG 60 (by decide +kernel)
theorem aVx : aY Tryz.prog 233 aQd aR7 := aK aH bB fzT aG 60 (by decide +kernel)
theorem aHi : aY Tryz.prog 28 aDx aE1 := aK aH bB fzT aG 60 (by decide +kernel)
theorem aVl : aY Tryz.prog 72 aQ1 aQv := aK aH bB fzT aG 60 (by decide +kernel)
theorem aW5 : aY Tryz.prog 167 aQl aRf := aK aH bB fzT aG 60 (by decide +kernel)
theorem aVw : aY Tryz.prog 72 aQc aR6 := aK aH bB fzT aG 60 (by decide +kernel)
theorem aVy : aY Tryz.prog 72 aQe aR8 := aK aH bB fzT aG 60 (by decide +kernel)
theorem aVj : aY Tryz.prog 233 aPz aQt := aK aH bB fzT aG 60 (by decide +kernel)
theorem aVk : aY Tryz.prog 233 aQ0 aQu := aK aH bB fzT aG 60 (by decide +kernel)
theorem aVm : aY Tryz.prog 233 aQ2 aQw := aK aH bB fzT aG 60 (by decide +kernel)
theorem aVn : aY Tryz.prog 233 aQ3 aQx := aK aH bB fzT aG 60 (by decide +kernel)
theorem aVq : aY Tryz.prog 233 aQ6 aR0 := aK aH bB fzT aG 60 (by decide +kernel)
theorem aVt : aY Tryz.prog 233 aQ9 aR3 := aK aH bB fzT aG 60 (by decide +kernel)
theorem aVu : aY Tryz.prog 233 aQa aR4 := aK aH bB fzT aG 60 (by decide +kernel)
theorem aVi : aY Tryz.prog 173 aPy aQs := aK aH bB fzT aG 60 (by decide +kernel)
theorem aVp : aY Tryz.prog 173 aQ5 aQz := aK aH bB fzT aG 60 (by decide +kernel)
theorem aVg : aY Tryz.prog 27 aPw aQq := aK aH bB fzT aG 60 (by decide +kernel)

end Go.Proofs.YtfajdeofhioakaaGreat.kq

set_option maxRecDepth 1000000

namespace Go.Proofs.YtfajdeofhioakaaGreat.kq

open Go Go.AI Go.AI.EV
def kt2 : KT := (.nd 83 [(aNi, aO6)] (.nd 45 [(ea3, ev3)] (.nd 29 [(ea9, ev9)] (.nd 27 [(aPw, aQq)] (.nd 26 [(aNe, aO2)] .nil .nil) (.nd 28 [(aDx, aE1), (aDy, aE2)] .nil .nil)) (.nd 38 [(ea1, ev1)] (.nd 31 [(ea0, ev0)] .nil .nil) .nil)) (.nd 73 [(aNg, aO4), (aO0, aOo)] (.nd 72 [(aQ1, aQv), (aQb, aR5), (aQc, aR6), (aQe, aR8)] (.nd 55 [(aDz, aE3)] .nil .nil) .nil) (.nd 81 [(aNh, aO5)] (.nd 80 [(aNk, aO8)] .nil .nil) .nil))) (.nd 167 [(aQl, aRf)] (.nd 133 [(aNo, aOc)] (.nd 101 [(ea2, ev2), (ea5, ev5), (aNl, aO9), (aNm, aOa), (aNs, aOg), (aNt, aOh), (aNz, aOn)] (.nd 95 [(ea7, ev7), (aPx, aQr), (aNn, aOb), (aNq, aOe), (aQ4, aQy), (aNr, aOf), (aNw, aOk), (aNx, aOl), (aQh, aRb), (aQi, aRc), (aQj, aRd), (aQk, aRe), (aQm, aRg), (aQn, aRh)] .nil .nil) (.nd 115 [(aNf, aO3), (aNp, aOd), (aNv, aOj), (aNy, aOm)] .nil .nil)) (.nd 166 [(aNj, aO7)] (.nd 146 [(ea4, ev4), (ea6, ev6)] .nil .nil) .nil)) (.nd 233 [(aPz, aQt), (aQ0, aQu), (aQ2, aQw), (aQ3, aQx), (aQ6, aR0), (aQ9, aR3), (aQa, aR4), (aQd, aR7), (aQg, aRa), (aQp, aRj)] (.nd 193 [(aA5, aA8)] (.nd 173 [(aPy, aQs), (aQ5, aQz), (aQ7, aR1), (aQ8, aR2)] .nil .nil) .nil) (.nd 248 [(aQf, aR9), (aQo, aRi)] (.nd 237 [(aNu, aOi)] .nil .nil) .nil))))
theorem bE : aFb Tryz.prog kt2 := ⟨List.forall_mem_cons.2 ⟨aRx, List.forall_mem_nil _⟩, ⟨List.forall_mem_cons.2 ⟨pu3, List.forall_mem_nil _⟩, ⟨List.forall_mem_cons.2 ⟨pu9, List.forall_mem_nil _⟩, ⟨List.forall_mem_cons.2 ⟨aVg, List.forall_mem_nil _⟩, ⟨List.forall_mem_cons.2 ⟨aRt, List.forall_mem_nil _⟩, trivial, trivial⟩, ⟨List.forall_mem_cons.2 ⟨aHi, List.forall_mem_cons.2 ⟨aHj, List.forall_mem_nil _⟩⟩, trivial, trivial⟩⟩, ⟨List.forall_mem_cons.2 ⟨pu1, List.forall_mem_nil _⟩, ⟨List.forall_mem_cons.2 ⟨pu0, List.forall_mem_nil _⟩, trivial, trivial⟩, trivial⟩⟩, ⟨List.forall_mem_cons.2 ⟨aRv, List.forall_mem_cons.2 ⟨aSf, List.forall_mem_nil _⟩⟩, ⟨List.forall_mem_cons.2 ⟨aVl, List.forall_mem_cons.2 ⟨aVv, List.forall_mem_cons.2 ⟨aVw, List.forall_mem_cons.2 ⟨aVy, List.forall_mem_nil _⟩⟩⟩⟩, ⟨List.forall_mem_cons.2 ⟨aHk, List.forall_mem_nil _⟩, trivial, trivial⟩, trivial⟩, ⟨List.forall_mem_cons.2 ⟨aRw, List.forall_mem_nil _⟩, ⟨List.forall_mem_cons.2 ⟨aRz, List.forall_mem_nil _⟩, trivial, trivial⟩, trivial⟩⟩⟩, ⟨List.forall_mem_cons.2 ⟨aW5, List.forall_mem_nil _⟩, ⟨List.forall_mem_cons.2 ⟨aS3, List.forall_mem_nil _⟩, ⟨List.forall_mem_cons.2 ⟨pu2, List.forall_mem_cons.2 ⟨pu5, List.forall_mem_cons.2 ⟨aS0, List.forall_mem_cons.2 ⟨aS1, List.forall_mem_cons.2 ⟨aS7, List.forall_mem_cons.2 ⟨aS8, List.forall_mem_cons.2 ⟨aSe, List.forall_mem_nil _⟩⟩⟩⟩⟩⟩⟩, ⟨List.forall_mem_cons.2 ⟨pu7, List.forall_mem_cons.2 ⟨aVh, List.forall_mem_cons.2 ⟨aS2, List.forall_mem_cons.2 ⟨aS5, List.forall_mem_cons.2 ⟨aVo, List.forall_mem_cons.2 ⟨aS6, List.forall_mem_cons.2 ⟨aSb, List.forall_mem_cons.2 ⟨aSc, List.forall_mem_cons.2 ⟨aW1, List.forall_mem_cons.2 ⟨aW2, List.forall_mem_cons.2 ⟨aW3, List.forall_mem_cons.2 ⟨aW4, List.forall_mem_cons.2 ⟨aW6, List.forall_mem_cons.2 ⟨aW7, List.forall_mem_nil _⟩⟩⟩⟩⟩⟩⟩⟩⟩⟩⟩⟩⟩⟩, trivial, trivial⟩, ⟨List.forall_mem_cons.2 ⟨aRu, List.forall_mem_cons.2 ⟨aS4, List.forall_mem_cons.2 ⟨aSa, List.forall_mem_cons.2 ⟨aSd, List.forall_mem_nil _⟩⟩⟩⟩, trivial, trivial⟩⟩, ⟨List.forall_mem_cons.2 ⟨aRy, List.forall_mem_nil _⟩, ⟨List.forall_mem_cons.2 ⟨pu4, List.forall_mem_cons.2 ⟨pu6, List.forall_mem_nil _⟩⟩, trivial, trivial⟩, trivial⟩⟩, ⟨List.forall_mem_cons.2 ⟨aVj, List.forall_mem_cons.2 ⟨aVk, List.forall_mem_cons.2 ⟨aVm, List.forall_mem_cons.2 ⟨aVn, List.forall_mem_cons.2 ⟨aVq, List.forall_mem_cons.2 ⟨aVt, List.forall_mem_cons.2 ⟨aVu, List.forall_mem_cons.2 ⟨aVx, List.forall_mem_cons.2 ⟨aW0, List.forall_mem_cons.2 ⟨aW9, List.forall_mem_nil _⟩⟩⟩⟩⟩⟩⟩⟩⟩⟩, ⟨List.forall_mem_cons.2 ⟨aEm, List.forall_mem_nil _⟩, ⟨List.forall_mem_cons.2 ⟨aVi, List.forall_mem_cons.2 ⟨aVp, List.forall_mem_cons.2 ⟨aVr, List.forall_mem_cons.2 ⟨aVs, List.forall_mem_nil _⟩⟩⟩⟩, trivial, trivial⟩, trivial⟩, ⟨List.forall_mem_cons.2 ⟨aVz, List.forall_mem_cons.2 ⟨aW8, List.forall_mem_nil _⟩⟩, ⟨List.forall_mem_cons.2 ⟨aS9, List.forall_mem_nil _⟩, trivial, trivial⟩, trivial⟩⟩⟩⟩

end Go.Proofs.YtfajdeofhioakaaGreat.kq

set_option maxRecDepth 1000000

namespace Go.Proofs.YtfajdeofhioakaaGreat.kq

open Go Go.AI Go.AI.EV
theorem aXk : aY Tryz.prog 208 aT8 aU6 := aK aH bE fzT aG 60 (by decide +kernel)
theorem aXl : aY Tryz.prog 208 aT9 aU7 := aK aH bE fzT aG 60 (by decide +kernel)

end Go.Proofs.YtfajdeofhioakaaGreat.kq

set_option maxRecDepth 1000000

namespace Go.Proofs.YtfajdeofhioakaaGreat.kq

open Go Go.AI Go.AI.EV
theorem aXw : aY Tryz.prog 208 aTk aUi := aK aH bE fzT aG 60 (by decide +kernel)
theorem aXx : aY Tryz.prog 208 aTl aUj := aK aH bE fzT aG 60 (by decide +kernel)
theorem aY0 : aY Tryz.prog 208 aTo aUm := aK aH bE fzT aG 60 (by decide +kernel)

end Go.Proofs.YtfajdeofhioakaaGreat.kq

set_option maxRecDepth 1000000

namespace Go.Proofs.YtfajdeofhioakaaGreat.kq

open Go Go.AI Go.AI.EV
theorem aKz : aY Tryz.prog 14 aFv aG4 := aK aH bE fzT aG 60 (by decide +kernel)
theorem aXp : aY Tryz.prog 208 aTd aUb := aK aH bE fzT aG 60 (by decide +kernel)
theorem aXt : aY Tryz.prog 208 aTh aUf := aK aH bE fzT aG 60 (by decide +kernel)
theorem aKx : aY Tryz.prog 208 aFt aG2 := aK aH bE fzT aG 60 (by decide +kernel)
theorem aKy : aY Tryz.prog 208 aFu aG3 := aK aH bE fzT aG 60 (by decide +kernel)

end Go.Proofs.YtfajdeofhioakaaGreat.kq

set_option maxRecDepth 1000000

namespace Go.Proofs.YtfajdeofhioakaaGreat.kq

open Go Go.AI Go.AI.EV
theorem aXd : aY Tryz.prog 208 aT1 aTz := aK aH bE fzT aG 60 (by decide +kernel)
theorem aXo : aY Tryz.prog 208 aTc aUa := aK aH bE fzT aG 60 (by decide +kernel)
theorem aXf : aY Tryz.prog 208 aT3 aU1 := aK aH bE fzT aG 60 (by decide +kernel)
theorem aXr : aY Tryz.prog 208 aTf aUd := aK aH bE fzT aG 60 (by decide +kernel)
theorem aXh : aY Tryz.prog 208 aT5 aU3 := aK aH bE fzT aG 60 (by decide +kernel)
theorem aXm : aY Tryz.prog 208 aTa aU8 := aK aH bE fzT aG 60 (by decide +kernel)

end Go.Proofs.YtfajdeofhioakaaGreat.kq

set_option maxRecDepth 1000000

namespace Go.Proofs.YtfajdeofhioakaaGreat.kq

open Go Go.AI Go.AI.EV
theorem aXg : aY Tryz.prog 208 aT4 aU2 := aK aH bE fzT aG 60 (by decide +kernel)
theorem aXs : aY Tryz.prog 76 aTg aUe := aK aH bE fzT aG 60 (by decide +kernel)
theorem aXi : aY Tryz.prog 208 aT6 aU4 := aK aH bE fzT aG 60 (by decide +kernel)
theorem aXj : aY Tryz.prog 208 aT7 aU5 := aK aH bE fzT aG 60 (by decide +kernel)
theorem aXu : aY Tryz.prog 208 aTi aUg := aK aH bE fzT aG 60 (by decide +kernel)
theorem aXv : aY Tryz.prog 208 aTj aUh := aK aH bE fzT aG 60 (by decide +kernel)
theorem aXy : aY Tryz.prog 208 aTm aUk := aK aH bE fzT aG 60 (by decide +kernel)
theorem pu8 : aY Tryz.prog 10 ea8 ev8 := aK aH bE fzT aG 60 (by decide +kernel)
theorem aXq : aY Tryz.prog 10 aTe aUc := aK aH bE fzT aG 60 (by decide +kernel)
theorem aX7 : aY Tryz.prog 168 aSv aTt := aK aH bE fzT aG 60 (by decide +kernel)
theorem aXn : aY Tryz.prog 208 aTb aU9 := aK aH bE fzT aG 60 (by decide +kernel)
theorem aXz : aY Tryz.prog 208 aTn aUl := aK aH bE fzT aG 60 (by decide +kernel)
theorem aX9 : aY Tryz.prog 208 aSx aTv := aK aH bE fzT aG 60 (by decide +kernel)

end Go.Proofs.YtfajdeofhioakaaGreat.kq

set_option maxRecDepth 1000000

namespace Go.Proofs.YtfajdeofhioakaaGreat.kq

open Go Go.AI Go.AI.EV
theorem aXa : aY Tryz.prog 208 aSy aTw := aK aH bE fzT aG 60 (by decide +kernel)
theorem aXb : aY Tryz.prog 208 aSz aTx := aK aH bE fzT aG 60 (by decide +kernel)
theorem aXc : aY Tryz.prog 208 aT0 aTy := aK aH bE fzT aG 60 (by decide +kernel)
theorem aX8 : aY Tryz.prog 208 aSw aTu := aK aH bE fzT aG 60 (by decide +kernel)
theorem aXe : aY Tryz.prog 208 aT2 aU0 := aK aH bE fzT aG 60 (by decide +kernel)

end Go.Proofs.YtfajdeofhioakaaGreat.kq
