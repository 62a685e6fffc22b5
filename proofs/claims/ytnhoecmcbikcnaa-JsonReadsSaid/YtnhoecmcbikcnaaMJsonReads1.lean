/- Texts of one seat, one behind the other: . No condition. -/
import Derived.Test.YtnhoecmcbikcnaaQ9
